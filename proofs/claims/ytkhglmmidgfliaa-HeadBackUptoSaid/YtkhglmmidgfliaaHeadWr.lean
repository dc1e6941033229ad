/- The contracts of head.Write and of the document's Write and Read. -/
import Derived.Test.YtkhglmmidgfliaaCat
import Derived.Test.YtkhglmmidgfliaaHLaw
import Derived.Test.YtkhglmmidgfliaaRef2
import Derived.Deep.RegionHeld3
namespace Go.Proofs.Ytkhglmmidgfliaa
open Go.RowKit Go.Proofs.HK
set_option linter.unusedVariables false
set_option linter.unusedSimpArgs false
attribute [local go_sem] max2_int min2_int max_two min_two

/-- A head, written. -/
def hd5 (C D : Int) (l : Bool) : List UInt8 := [HK.byteOf D, HK.byteOf C, 0, 0, if l then 1 else 0]
def hdB (W H C D : Int) (l : Bool) : List UInt8 := putBE 4 W ++ (putBE 4 H ++ hd5 C D l)
def wrB (W H C D : Int) (l : Bool) : List UInt8 := if mayS W H C D then hdB W H C D l else []
def wrE (W H C D : Int) : Int := if mayS W H C D then 0 else 11
theorem cut8_4 : cut8 4 = 4 := by decide
def HeadOk (W H C D : Int) : Prop := (-9223372036854775808 ≤ W ∧ W ≤ 9223372036854775807) ∧ (-9223372036854775808 ≤ H ∧ H ≤ 9223372036854775807)

theorem rdS3 {W : World} {e : TypeId} {g : Nat} {A1 A2 A3 : Option Addr} {n1 n2 n3 c1 c2 c3 : Nat} {xs ys zs : List UInt8} (hg : g = W.heap.size) (h1 : xs.length = n1) (h2 : ys.length = n2) (h3 : zs.length = n3) (r1 : Rd B W A1 xs) (r2 : Rd B W A2 ys) (r3 : Rd B W A3 zs) :
    RdS (W.alloc (.cells #[.slice A1 n1 c1, .slice A2 n2 c2, .slice A3 n3 c3] e)) (some ⟨g, 0, none⟩) [.slice A1 n1 c1, .slice A2 n2 c2, .slice A3 n3 c3] [xs, ys, zs] := by
  subst hg
  refine ⟨rfl, rd_new (fun v => v) W [.slice A1 n1 c1, .slice A2 n2 c2, .slice A3 n3 c3] e _ rfl, fun i h1' h2' => ?_⟩
  match i, h1' with
  | 0, _ => exact ⟨A1, n1, c1, rfl, h1, r1.alloc _⟩
  | 1, _ => exact ⟨A2, n2, c2, rfl, h2, r2.alloc _⟩
  | 2, _ => exact ⟨A3, n3, c3, rfl, h3, r3.alloc _⟩
theorem rd5 {W : World} {g : Nat} (hg : g = W.heap.size) (C D x : Int) (l : Bool) (h : x = if l then 1 else 0) (e : TypeId) : Rd B (W.alloc (.cells #[.int .u8 (IntKind.u8.wrap D), .int .u8 (IntKind.u8.wrap C), .int .u8 0, .int .u8 0, .int .u8 (IntKind.u8.wrap x)] e)) (some ⟨g, 0, none⟩) (hd5 C D l) := by
  subst hg
  refine rd_new B W _ e _ ?_
  subst h
  have e1 : (if l = true then (1 : UInt8) else 0) = if l then 1 else 0 := rfl
  have h1 : ∀ z, B (HK.byteOf z) = .int .u8 (z % 256) := B_byteOf
  unfold hd5
  simp only [List.map_cons, List.map_nil, h1, wrapu8]
  cases l <;> rfl
theorem hd5_length (C D : Int) (l : Bool) : (hd5 C D l).length = 5 := rfl
theorem hdB_flat (W H C D : Int) (l : Bool) : [putBE 4 W, putBE 4 H, hd5 C D l].flatten = hdB W H C D l := by simp [hdB]
theorem hdB_length (W H C D : Int) (l : Bool) : (hdB W H C D l).length = 13 := by simp [hdB, hd5_length, putBE_length]
theorem new_from {α : Type} {f : α → Value} {w W w' : World} {v : Value} {xs : List α} (h : New f W w' v xs) (hf : Fr No w w') (hs : w.heap.size ≤ W.heap.size) : New f w w' v xs := by
  obtain ⟨A, n, c, ob, h1, h2, h3, h4, _⟩ := h.open
  exact New.mk' h1 h2 h3 (fun k hk => Nat.le_trans hs (h4 k hk)) hf
theorem keep4 {w w1 : World} {g : Nat} {a b c d : Option Value} (hf : Fr No w w1) (hg : g < w.heap.size) (h : w.cell? ⟨g, 0, none⟩ = a ∧ w.cell? ⟨g, 1, none⟩ = b ∧ w.cell? ⟨g, 2, none⟩ = c ∧ w.cell? ⟨g, 3, none⟩ = d) :
    w1.cell? ⟨g, 0, none⟩ = a ∧ w1.cell? ⟨g, 1, none⟩ = b ∧ w1.cell? ⟨g, 2, none⟩ = c ∧ w1.cell? ⟨g, 3, none⟩ = d :=
  ⟨(hf.cellg g 0 hg (fun h => h)).trans h.1, (hf.cellg g 1 hg (fun h => h)).trans h.2.1, (hf.cellg g 2 hg (fun h => h)).trans h.2.2.1, (hf.cellg g 3 hg (fun h => h)).trans h.2.2.2⟩
theorem keep4a {w : World} {o : Obj} {g : Nat} {a b c d : Option Value} (hg : g < w.heap.size) (h : w.cell? ⟨g, 0, none⟩ = a ∧ w.cell? ⟨g, 1, none⟩ = b ∧ w.cell? ⟨g, 2, none⟩ = c ∧ w.cell? ⟨g, 3, none⟩ = d) :
    (w.alloc o).cell? ⟨g, 0, none⟩ = a ∧ (w.alloc o).cell? ⟨g, 1, none⟩ = b ∧ (w.alloc o).cell? ⟨g, 2, none⟩ = c ∧ (w.alloc o).cell? ⟨g, 3, none⟩ = d := keep4 ((Fr.refl No w).alloc o) hg h

set_option maxRecDepth 100000 in
set_option maxHeartbeats 1600000 in
theorem write_calls (W H C D : Int) (L : Bool) (hb : HeadOk W H C D) (w : World) :
    Calls Try.prog 45 #[headV W H C D L] w fun e w' => ∃ v, e = .returned (.tuple #[v, .int .i64 (wrE W H C D)]) ∧ New B w w' v (wrB W H C D L) := by
  have HB := hid hb
  clear hb
  cases hm : mayS W H C D with
  | false =>
    have HS := hid (show wrB W H C D L = [] ∧ wrE W H C D = 11 from ⟨by unfold wrB; rw [hm]; rfl, by unfold wrE; rw [hm]; rfl⟩)
    unfold headV
    go_enter Try.func45, Try.ntmps45
    go_wp2_with (go_at_call 28; refine (may_calls W H C D L _).mono ?_; rw [hm]; rintro e w1 ⟨rfl, hf1⟩)
    go_ret2
    rw [HS.out.1, HS.out.2]
    exact ⟨_, rfl, NewR.nil, ((Fr.refl No w).alloc _).then hf1⟩
  | true =>
    have HS := hid (show wrB W H C D L = hdB W H C D L ∧ wrE W H C D = 0 from ⟨by unfold wrB; rw [hm]; rfl, by unfold wrE; rw [hm]; rfl⟩)
    unfold headV
    go_enter Try.func45, Try.ntmps45
    obtain ⟨g, hgg⟩ : ∃ g, g = w.heap.size := ⟨_, rfl⟩
    have HG := hid hgg
    cases L with
    | false =>
      go_wp2_with (go_at_call 28; refine (may_calls W H C D false _).mono ?_; rw [hm]; rintro e w1 ⟨rfl, hf1⟩; rw [← hgg]; obtain ⟨c0, c1, c2, c3, c4, _⟩ := blk5 ((hf1.block g (by rw [HG.out, World.size_alloc]; omega) (fun h => h)).trans (by rw [HG.out]; exact heap_new _ _)); have hg1 : g < w1.heap.size := lt_of_cell c0; have HF := hid (((Fr.refl No w).alloc _).then hf1); clear hf1 hgg)
      go_region_held3 (fun w' => w'.cell? ⟨g, 0, none⟩ = some (.int .i64 W) ∧ w'.cell? ⟨g, 1, none⟩ = some (.int .i64 H) ∧ w'.cell? ⟨g, 2, none⟩ = some (.int .i64 C) ∧ w'.cell? ⟨g, 3, none⟩ = some (.int .i64 D))
        (first | assumption | (refine keep4a ?_ (by assumption); first | omega | (simp; omega)) | exact keep4 N4.out (by first | omega | (simp; omega)) (by assumption) | exact keep4 N3.out.2.2.2.1 (by first | omega | (simp; omega)) (by assumption) | exact keep4 N2.out.2.2.2.1 (by first | omega | (simp; omega)) (by assumption) | exact ⟨c0, c1, c2, c3⟩)
        (first
          | (go_at_call 55; have := N2; refine (putBig_calls 4 H _ HB.out.2).mono ?_; rw [cut8_4]; rintro e w3 ⟨v3, rfl, hnew3⟩; obtain ⟨A3, n3, c3', rfl, N3⟩ := hnew3.use; clear hnew3; obtain rfl : n3 = 4 := by rw [← N3.out.1, putBE_length]
             have hg3 : g < w3.heap.size := by have := N3.out.2.2.2.1.size; (try simp at this); omega)
          | (go_at_call 55; refine (putBig_calls 4 W _ HB.out.1).mono ?_; rw [cut8_4]; rintro e w2 ⟨v2, rfl, hnew2⟩; obtain ⟨A2, n2, c2', rfl, N2⟩ := hnew2.use; clear hnew2; obtain rfl : n2 = 4 := by rw [← N2.out.1, putBE_length]
             have hg2 : g < w2.heap.size := by have := N2.out.2.2.2.1.size; (try simp at this); omega)
          | (go_at_call 64; refine (concat_calls _ 3 3 [.slice A2 4 c2', .slice A3 4 c3', .slice (some ⟨_, 0, none⟩) 5 5] [putBE 4 W, putBE 4 H, hd5 C D false] rfl _
              (by first
                | exact rdS3 (by first | rfl | simp) N2.out.1 N3.out.1 (hd5_length _ _ _) ((N2.out.2.1.fr0 N3.out.2.2.2.1).alloc _) (N3.out.2.1.alloc _) (rd5 (by first | rfl | simp) C D 0 false rfl _)
                | exact rdS3 (by first | rfl | simp) N2.out.1 N3.out.1 (hd5_length _ _ _) ((N2.out.2.1.alloc _).fr0 N3.out.2.2.2.1) N3.out.2.1 ((rd5 (by first | rfl | simp) C D 0 false rfl _).fr0 N3.out.2.2.2.1)
                | exact rdS3 (by first | rfl | simp) N2.out.1 N3.out.1 (hd5_length _ _ _) (N2.out.2.1.fr0 N3.out.2.2.2.1) N3.out.2.1 (((rd5 (by first | rfl | simp) C D 0 false rfl _).drew.fr0 N2.out.2.2.2.1).fr0 N3.out.2.2.2.1))
              (by rw [hdB_flat, hdB_length]; decide) (by decide)).mono ?_; rw [hdB_flat]; rintro e w4 ⟨v4, rfl, hnew4⟩
             have hF4 : Fr No w w4 := by first
                | exact (((((HF.out.drew).then N2.out.2.2.2.1).then N3.out.2.2.2.1).alloc _).alloc _).then hnew4.2
                | exact (((((HF.out.drew).then N2.out.2.2.2.1).alloc _).then N3.out.2.2.2.1).alloc _).then hnew4.2
                | exact (((((HF.out.alloc _).drew).then N2.out.2.2.2.1).then N3.out.2.2.2.1).alloc _).then hnew4.2
             have hsz4 : w.heap.size ≤ w1.heap.size := HF.out.size
             have hsz5 : w1.heap.size ≤ w2.heap.size := by have := N2.out.2.2.2.1.size; (try simp at this); omega
             have hsz6 : w2.heap.size ≤ w3.heap.size := by have := N3.out.2.2.2.1.size; (try simp at this); omega
             have hN4 : New B w w4 v4 (hdB W H C D false) := new_from hnew4 hF4 (by first | omega | (simp; omega))
             have hg4 : g < w4.heap.size := Nat.lt_of_lt_of_le (by first | omega | (simp; omega)) hnew4.2.size
             have N4 := hid hnew4.2
             clear hF4 hnew4 hsz4 hsz5 hsz6))
      all_goals (go_wp2_with fail; go_ret2; rw [HS.out.1, HS.out.2]; exact ⟨_, rfl, hN4⟩)
    | true =>
      go_wp2_with (go_at_call 28; refine (may_calls W H C D true _).mono ?_; rw [hm]; rintro e w1 ⟨rfl, hf1⟩; rw [← hgg]; obtain ⟨c0, c1, c2, c3, c4, _⟩ := blk5 ((hf1.block g (by rw [HG.out, World.size_alloc]; omega) (fun h => h)).trans (by rw [HG.out]; exact heap_new _ _)); have hg1 : g < w1.heap.size := lt_of_cell c0; have HF := hid (((Fr.refl No w).alloc _).then hf1); clear hf1 hgg)
      go_region_held3 (fun w' => w'.cell? ⟨g, 0, none⟩ = some (.int .i64 W) ∧ w'.cell? ⟨g, 1, none⟩ = some (.int .i64 H) ∧ w'.cell? ⟨g, 2, none⟩ = some (.int .i64 C) ∧ w'.cell? ⟨g, 3, none⟩ = some (.int .i64 D))
        (first | assumption | (refine keep4a ?_ (by assumption); first | omega | (simp; omega)) | exact keep4 N4.out (by first | omega | (simp; omega)) (by assumption) | exact keep4 N3.out.2.2.2.1 (by first | omega | (simp; omega)) (by assumption) | exact keep4 N2.out.2.2.2.1 (by first | omega | (simp; omega)) (by assumption) | exact ⟨c0, c1, c2, c3⟩)
        (first
          | (go_at_call 55; have := N2; refine (putBig_calls 4 H _ HB.out.2).mono ?_; rw [cut8_4]; rintro e w3 ⟨v3, rfl, hnew3⟩; obtain ⟨A3, n3, c3', rfl, N3⟩ := hnew3.use; clear hnew3; obtain rfl : n3 = 4 := by rw [← N3.out.1, putBE_length]
             have hg3 : g < w3.heap.size := by have := N3.out.2.2.2.1.size; (try simp at this); omega)
          | (go_at_call 55; refine (putBig_calls 4 W _ HB.out.1).mono ?_; rw [cut8_4]; rintro e w2 ⟨v2, rfl, hnew2⟩; obtain ⟨A2, n2, c2', rfl, N2⟩ := hnew2.use; clear hnew2; obtain rfl : n2 = 4 := by rw [← N2.out.1, putBE_length]
             have hg2 : g < w2.heap.size := by have := N2.out.2.2.2.1.size; (try simp at this); omega)
          | (go_at_call 64; refine (concat_calls _ 3 3 [.slice A2 4 c2', .slice A3 4 c3', .slice (some ⟨_, 0, none⟩) 5 5] [putBE 4 W, putBE 4 H, hd5 C D true] rfl _
              (by first
                | exact rdS3 (by first | rfl | simp) N2.out.1 N3.out.1 (hd5_length _ _ _) ((N2.out.2.1.fr0 N3.out.2.2.2.1).alloc _) (N3.out.2.1.alloc _) (rd5 (by first | rfl | simp) C D 1 true rfl _)
                | exact rdS3 (by first | rfl | simp) N2.out.1 N3.out.1 (hd5_length _ _ _) ((N2.out.2.1.alloc _).fr0 N3.out.2.2.2.1) N3.out.2.1 ((rd5 (by first | rfl | simp) C D 1 true rfl _).fr0 N3.out.2.2.2.1)
                | exact rdS3 (by first | rfl | simp) N2.out.1 N3.out.1 (hd5_length _ _ _) (N2.out.2.1.fr0 N3.out.2.2.2.1) N3.out.2.1 (((rd5 (by first | rfl | simp) C D 1 true rfl _).drew.fr0 N2.out.2.2.2.1).fr0 N3.out.2.2.2.1))
              (by rw [hdB_flat, hdB_length]; decide) (by decide)).mono ?_; rw [hdB_flat]; rintro e w4 ⟨v4, rfl, hnew4⟩
             have hF4 : Fr No w w4 := by first
                | exact (((((HF.out.drew).then N2.out.2.2.2.1).then N3.out.2.2.2.1).alloc _).alloc _).then hnew4.2
                | exact (((((HF.out.drew).then N2.out.2.2.2.1).alloc _).then N3.out.2.2.2.1).alloc _).then hnew4.2
                | exact (((((HF.out.alloc _).drew).then N2.out.2.2.2.1).then N3.out.2.2.2.1).alloc _).then hnew4.2
             have hsz4 : w.heap.size ≤ w1.heap.size := HF.out.size
             have hsz5 : w1.heap.size ≤ w2.heap.size := by have := N2.out.2.2.2.1.size; (try simp at this); omega
             have hsz6 : w2.heap.size ≤ w3.heap.size := by have := N3.out.2.2.2.1.size; (try simp at this); omega
             have hN4 : New B w w4 v4 (hdB W H C D true) := new_from hnew4 hF4 (by first | omega | (simp; omega))
             have hg4 : g < w4.heap.size := Nat.lt_of_lt_of_le (by first | omega | (simp; omega)) hnew4.2.size
             have N4 := hid hnew4.2
             clear hF4 hnew4 hsz4 hsz5 hsz6))
      all_goals (go_wp2_with fail; go_ret2; rw [HS.out.1, HS.out.2]; exact ⟨_, rfl, hN4⟩)
/-- refWrite -/
theorem hd5_cells (C D x : Int) (l : Bool) (h : x = if l then 1 else 0) : (hd5 C D l).map B = [.int .u8 (IntKind.u8.wrap D), .int .u8 (IntKind.u8.wrap C), .int .u8 0, .int .u8 0, .int .u8 x] := by
  subst h
  have h1 : ∀ z, B (HK.byteOf z) = .int .u8 (z % 256) := B_byteOf
  unfold hd5
  simp only [List.map_cons, List.map_nil, h1, wrapu8]
  cases l <;> rfl
theorem keep5 {S : Nat → Prop} {w w1 : World} {g : Nat} {a b c d e : Option Value} (hf : Fr S w w1) (hg : g < w.heap.size) (hn : ¬ S g) (h : w.cell? ⟨g, 0, none⟩ = a ∧ w.cell? ⟨g, 1, none⟩ = b ∧ w.cell? ⟨g, 2, none⟩ = c ∧ w.cell? ⟨g, 3, none⟩ = d ∧ w.cell? ⟨g, 4, none⟩ = e) :
    w1.cell? ⟨g, 0, none⟩ = a ∧ w1.cell? ⟨g, 1, none⟩ = b ∧ w1.cell? ⟨g, 2, none⟩ = c ∧ w1.cell? ⟨g, 3, none⟩ = d ∧ w1.cell? ⟨g, 4, none⟩ = e :=
  ⟨(hf.cellg g 0 hg hn).trans h.1, (hf.cellg g 1 hg hn).trans h.2.1, (hf.cellg g 2 hg hn).trans h.2.2.1, (hf.cellg g 3 hg hn).trans h.2.2.2.1, (hf.cellg g 4 hg hn).trans h.2.2.2.2⟩
set_option maxRecDepth 100000 in
set_option maxHeartbeats 1600000 in
theorem refWrite_calls (W H C D : Int) (L : Bool) (hb : HeadOk W H C D) (w : World) :
    Calls Try.prog 46 #[headV W H C D L] w fun e w' => ∃ v, e = .returned (.tuple #[v, .int .i64 (wrE W H C D)]) ∧ New B w w' v (wrB W H C D L) := by
  have HB := hid hb
  clear hb
  cases hm : mayS W H C D with
  | false =>
    have HS := hid (show wrB W H C D L = [] ∧ wrE W H C D = 11 from ⟨by unfold wrB; rw [hm]; rfl, by unfold wrE; rw [hm]; rfl⟩)
    unfold headV
    go_enter Try.func46, Try.ntmps46
    go_wp2_with (go_at_call 29; refine (refMay_calls W H C D L _).mono ?_; rw [hm]; rintro e w1 ⟨rfl, hf1⟩)
    go_ret2
    rw [HS.out.1, HS.out.2]
    exact ⟨_, rfl, NewR.nil, ((Fr.refl No w).alloc _).then hf1⟩
  | true =>
    have HS := hid (show wrB W H C D L = hdB W H C D L ∧ wrE W H C D = 0 from ⟨by unfold wrB; rw [hm]; rfl, by unfold wrE; rw [hm]; rfl⟩)
    unfold headV
    go_enter Try.func46, Try.ntmps46
    obtain ⟨g, hgg⟩ : ∃ g, g = w.heap.size := ⟨_, rfl⟩
    have HG := hid hgg
    cases L with
    | false =>
      go_wp2_with (go_at_call 29; refine (refMay_calls W H C D false _).mono ?_; rw [hm]; rintro e w1 ⟨rfl, hf1⟩; rw [← hgg]; obtain ⟨c0, c1, c2, c3, c4, _⟩ := blk5 ((hf1.block g (by rw [HG.out, World.size_alloc]; omega) (fun h => h)).trans (by rw [HG.out]; exact heap_new _ _)); have hg1 : g < w1.heap.size := lt_of_cell c0; have HF := hid (((Fr.refl No w).alloc _).then hf1); clear hf1 hgg)
      go_region_held3 (fun w' => w'.cell? ⟨g, 0, none⟩ = some (.int .i64 W) ∧ w'.cell? ⟨g, 1, none⟩ = some (.int .i64 H) ∧ w'.cell? ⟨g, 2, none⟩ = some (.int .i64 C) ∧ w'.cell? ⟨g, 3, none⟩ = some (.int .i64 D) ∧ w'.cell? ⟨g, 4, none⟩ = some (.bool false))
        (first | assumption | exact keep5 F4 hg3 hng4 (by assumption) | exact keep5 N3.out.2.2.2.1 (by first | omega | (simp; omega)) (fun h => h) (by assumption) | exact keep5 N2.out.2.2.2.1 (by first | omega | (simp; omega)) (fun h => h) (by assumption) | exact ⟨c0, c1, c2, c3, c4⟩)
        (first
          | (go_at_call 56; have := N2; refine (refPutBig_calls 4 H _ HB.out.2).mono ?_; rw [cut8_4]; rintro e w3 ⟨v3, rfl, hnew3⟩; obtain ⟨A3, n3, c3', rfl, N3⟩ := hnew3.use; clear hnew3; obtain rfl : n3 = 4 := by rw [← N3.out.1, putBE_length]
             have hg3 : g < w3.heap.size := by have := N3.out.2.2.2.1.size; (try simp at this); omega)
          | (go_at_call 56; refine (refPutBig_calls 4 W _ HB.out.1).mono ?_; rw [cut8_4]; rintro e w2 ⟨v2, rfl, hnew2⟩; obtain ⟨A2, n2, c2', rfl, N2⟩ := hnew2.use; clear hnew2; obtain rfl : n2 = 4 := by rw [← N2.out.1, putBE_length]
             have hg2 : g < w2.heap.size := by have := N2.out.2.2.2.1.size; (try simp at this); omega)
          | (obtain ⟨ob2, hrow2, hob2⟩ := N2.out.2.2.2.2
             refine step_app slU8 rfl (.tmp 11) (.tmp 14) rfl rfl (hrow2.fr N3.out.2.2.2.1 (fun _ _ h => h)) rfl (by rw [List.length_map, N3.out.1]) (Rd.cells.1 N3.out.2.1) (oneB _) (by omega) (by omega) ?_; intro A4 c4' w4 ob4 hv4 F4 hob4
             have hng4 : ¬ Opt ob2 g := fun e => by have := hob2 g e.symm; (try simp at this); omega))
      have hsz4 : w.heap.size ≤ w1.heap.size := HF.out.size
      have hsz5 : w1.heap.size ≤ w2.heap.size := by have := N2.out.2.2.2.1.size; (try simp at this); omega
      have hsz6 : w2.heap.size ≤ w3.heap.size := by have := N3.out.2.2.2.1.size; (try simp at this); omega
      have hob : ∀ k, ob4 = some k → w.heap.size ≤ k := fun k hk => by
        rcases hob4 with h | ⟨j, h, hj⟩
        · have := hob2 k (by rw [← h]; exact hk); (try simp at this); omega
        · rw [h] at hk; injection hk with hk; omega
      have hFF : Fr No w w4 := (((HF.out.drew).then N2.out.2.2.2.1).then N3.out.2.2.2.1).fresh F4 (fun k hk => by have := hob2 k hk; (try simp at this); omega)
      obtain ⟨d0, d1, d2, d3, d4⟩ := keep5 F4 hg3 hng4 (keep5 N3.out.2.2.2.1 hg2 (fun h => h) (keep5 N2.out.2.2.2.1 (by first | omega | (simp; omega)) (fun h => h) (w := _) ⟨c0, c1, c2, c3, c4⟩))
      have H4 := hid (And.intro hv4 (And.intro hob hFF))
      clear hv4 F4 hob4 hob hFF hob2 hrow2 N2 N3 c0 c1 c2 c3 c4 hng4 hsz4 hsz5 hsz6
      go_wp2_with (at_builtin; refine wpList_app1 slU8 rfl (.tmp 18) (.tmp 26) rfl rfl H4.out.1 rfl (m := 5) (c := 5) (ys := [.int .u8 (IntKind.u8.wrap D), .int .u8 (IntKind.u8.wrap C), .int .u8 0, .int .u8 0, .int .u8 0]) rfl (by simp [Value.oneCell']) (by omega) (by omega) ?_; intro A6 c6 w6 ob6 hv6 hf6 hob6)
      go_ret2
      rw [HS.out.1, HS.out.2]
      have hy : [Value.int .u8 (IntKind.u8.wrap D), .int .u8 (IntKind.u8.wrap C), .int .u8 0, .int .u8 0, .int .u8 0] = (hd5 C D false).map B := (hd5_cells C D 0 false rfl).symm
      rw [hy, ← List.map_append, ← List.map_append, List.append_assoc] at hv6
      refine ⟨_, rfl, New.mk' rfl (hdB_length _ _ _ _ _) hv6 (fun k hk => ?_) (H4.out.2.2.fresh hf6 H4.out.2.1)⟩
      rcases hob6 with h | ⟨j, h, hj⟩
      · exact H4.out.2.1 k (by rw [← h]; exact hk)
      · have := H4.out.2.2.size
        rw [h] at hk; injection hk with hk; omega
    | true =>
      go_wp2_with (go_at_call 29; refine (refMay_calls W H C D true _).mono ?_; rw [hm]; rintro e w1 ⟨rfl, hf1⟩; rw [← hgg]; obtain ⟨c0, c1, c2, c3, c4, _⟩ := blk5 ((hf1.block g (by rw [HG.out, World.size_alloc]; omega) (fun h => h)).trans (by rw [HG.out]; exact heap_new _ _)); have hg1 : g < w1.heap.size := lt_of_cell c0; have HF := hid (((Fr.refl No w).alloc _).then hf1); clear hf1 hgg)
      go_region_held3 (fun w' => w'.cell? ⟨g, 0, none⟩ = some (.int .i64 W) ∧ w'.cell? ⟨g, 1, none⟩ = some (.int .i64 H) ∧ w'.cell? ⟨g, 2, none⟩ = some (.int .i64 C) ∧ w'.cell? ⟨g, 3, none⟩ = some (.int .i64 D) ∧ w'.cell? ⟨g, 4, none⟩ = some (.bool true))
        (first | assumption | exact keep5 F4 hg3 hng4 (by assumption) | exact keep5 N3.out.2.2.2.1 (by first | omega | (simp; omega)) (fun h => h) (by assumption) | exact keep5 N2.out.2.2.2.1 (by first | omega | (simp; omega)) (fun h => h) (by assumption) | exact ⟨c0, c1, c2, c3, c4⟩)
        (first
          | (go_at_call 56; have := N2; refine (refPutBig_calls 4 H _ HB.out.2).mono ?_; rw [cut8_4]; rintro e w3 ⟨v3, rfl, hnew3⟩; obtain ⟨A3, n3, c3', rfl, N3⟩ := hnew3.use; clear hnew3; obtain rfl : n3 = 4 := by rw [← N3.out.1, putBE_length]
             have hg3 : g < w3.heap.size := by have := N3.out.2.2.2.1.size; (try simp at this); omega)
          | (go_at_call 56; refine (refPutBig_calls 4 W _ HB.out.1).mono ?_; rw [cut8_4]; rintro e w2 ⟨v2, rfl, hnew2⟩; obtain ⟨A2, n2, c2', rfl, N2⟩ := hnew2.use; clear hnew2; obtain rfl : n2 = 4 := by rw [← N2.out.1, putBE_length]
             have hg2 : g < w2.heap.size := by have := N2.out.2.2.2.1.size; (try simp at this); omega)
          | (obtain ⟨ob2, hrow2, hob2⟩ := N2.out.2.2.2.2
             refine step_app slU8 rfl (.tmp 11) (.tmp 14) rfl rfl (hrow2.fr N3.out.2.2.2.1 (fun _ _ h => h)) rfl (by rw [List.length_map, N3.out.1]) (Rd.cells.1 N3.out.2.1) (oneB _) (by omega) (by omega) ?_; intro A4 c4' w4 ob4 hv4 F4 hob4
             have hng4 : ¬ Opt ob2 g := fun e => by have := hob2 g e.symm; (try simp at this); omega))
      have hsz4 : w.heap.size ≤ w1.heap.size := HF.out.size
      have hsz5 : w1.heap.size ≤ w2.heap.size := by have := N2.out.2.2.2.1.size; (try simp at this); omega
      have hsz6 : w2.heap.size ≤ w3.heap.size := by have := N3.out.2.2.2.1.size; (try simp at this); omega
      have hob : ∀ k, ob4 = some k → w.heap.size ≤ k := fun k hk => by
        rcases hob4 with h | ⟨j, h, hj⟩
        · have := hob2 k (by rw [← h]; exact hk); (try simp at this); omega
        · rw [h] at hk; injection hk with hk; omega
      have hFF : Fr No w w4 := (((HF.out.drew).then N2.out.2.2.2.1).then N3.out.2.2.2.1).fresh F4 (fun k hk => by have := hob2 k hk; (try simp at this); omega)
      obtain ⟨d0, d1, d2, d3, d4⟩ := keep5 F4 hg3 hng4 (keep5 N3.out.2.2.2.1 hg2 (fun h => h) (keep5 N2.out.2.2.2.1 (by first | omega | (simp; omega)) (fun h => h) (w := _) ⟨c0, c1, c2, c3, c4⟩))
      have H4 := hid (And.intro hv4 (And.intro hob hFF))
      clear hv4 F4 hob4 hob hFF hob2 hrow2 N2 N3 c0 c1 c2 c3 c4 hng4 hsz4 hsz5 hsz6
      go_wp2_with (at_builtin; refine wpList_app1 slU8 rfl (.tmp 18) (.tmp 26) rfl rfl H4.out.1 rfl (m := 5) (c := 5) (ys := [.int .u8 (IntKind.u8.wrap D), .int .u8 (IntKind.u8.wrap C), .int .u8 0, .int .u8 0, .int .u8 1]) rfl (by simp [Value.oneCell']) (by omega) (by omega) ?_; intro A6 c6 w6 ob6 hv6 hf6 hob6)
      go_ret2
      rw [HS.out.1, HS.out.2]
      have hy : [Value.int .u8 (IntKind.u8.wrap D), .int .u8 (IntKind.u8.wrap C), .int .u8 0, .int .u8 0, .int .u8 1] = (hd5 C D true).map B := (hd5_cells C D 1 true rfl).symm
      rw [hy, ← List.map_append, ← List.map_append, List.append_assoc] at hv6
      refine ⟨_, rfl, New.mk' rfl (hdB_length _ _ _ _ _) hv6 (fun k hk => ?_) (H4.out.2.2.fresh hf6 H4.out.2.1)⟩
      rcases hob6 with h | ⟨j, h, hj⟩
      · exact H4.out.2.1 k (by rw [← h]; exact hk)
      · have := H4.out.2.2.size
        rw [h] at hk; injection hk with hk; omega

end Go.Proofs.Ytkhglmmidgfliaa

/- The contracts of token.Write, of the document's, and of Sealed. -/
import Derived.Test.YtponiapdpecioaaTokP
import Derived.Test.YtponiapdpecioaaCrc
import Derived.Test.YtponiapdpecioaaRef2
import Derived.Deep.RegionHeld3
namespace Go.Proofs.Ytponiapdpecioaa
open Go.RowKit Go.Proofs.HK
set_option linter.unusedVariables false
set_option linter.unusedSimpArgs false
attribute [local go_sem] max2_int min2_int max_two min_two

theorem cut8_4 : cut8 4 = 4 := by decide
def tokV (F : Int) (S : Nat) (A : Option Addr) (n c : Nat) : Value := .agg #[.int .i64 F, .int .u32 (S : Int), .slice A n c]
theorem rdS4 {W : World} {e : TypeId} {g : Nat} {A1 A2 A3 A4 : Option Addr} {n1 n2 n3 n4 c1 c2 c3 c4 : Nat} {xs ys zs us : List UInt8} (hg : g = W.heap.size) (h1 : xs.length = n1) (h2 : ys.length = n2) (h3 : zs.length = n3) (h4 : us.length = n4) (r1 : Rd B W A1 xs) (r2 : Rd B W A2 ys) (r3 : Rd B W A3 zs) (r4 : Rd B W A4 us) :
    RdS (W.alloc (.cells #[.slice A1 n1 c1, .slice A2 n2 c2, .slice A3 n3 c3, .slice A4 n4 c4] e)) (some ⟨g, 0, none⟩) [.slice A1 n1 c1, .slice A2 n2 c2, .slice A3 n3 c3, .slice A4 n4 c4] [xs, ys, zs, us] := by
  subst hg
  refine ⟨rfl, rd_new (fun v => v) W [.slice A1 n1 c1, .slice A2 n2 c2, .slice A3 n3 c3, .slice A4 n4 c4] e _ rfl, fun i h1' h2' => ?_⟩
  match i, h1' with
  | 0, _ => exact ⟨A1, n1, c1, rfl, h1, r1.alloc _⟩
  | 1, _ => exact ⟨A2, n2, c2, rfl, h2, r2.alloc _⟩
  | 2, _ => exact ⟨A3, n3, c3, rfl, h3, r3.alloc _⟩
  | 3, _ => exact ⟨A4, n4, c4, rfl, h4, r4.alloc _⟩
theorem rdS1 {W : World} {e : TypeId} {g : Nat} {A1 : Option Addr} {n1 c1 : Nat} {xs : List UInt8} (hg : g = W.heap.size) (h1 : xs.length = n1) (r1 : Rd B W A1 xs) :
    RdS (W.alloc (.cells #[.slice A1 n1 c1] e)) (some ⟨g, 0, none⟩) [.slice A1 n1 c1] [xs] := by
  subst hg
  refine ⟨rfl, rd_new (fun v => v) W [.slice A1 n1 c1] e _ rfl, fun i h1' h2' => ?_⟩
  match i, h1' with
  | 0, _ => exact ⟨A1, n1, c1, rfl, h1, r1.alloc _⟩
theorem rd1 {W : World} {g : Nat} {F : Int} (hg : g = W.heap.size) (e : TypeId) : Rd B (W.alloc (.cells #[.int .u8 (IntKind.u8.wrap F)] e)) (some ⟨g, 0, none⟩) [HK.byteOf F] := by
  subst hg
  refine rd_new B W _ e _ ?_
  simp only [List.map_cons, List.map_nil, B_byteOf, wrapu8]
theorem new_from {α : Type} {f : α → Value} {w W w' : World} {v : Value} {xs : List α} (h : New f W w' v xs) (hf : Fr No w w') (hs : w.heap.size ≤ W.heap.size) : New f w w' v xs := by
  obtain ⟨A, n, c, ob, h1, h2, h3, h4, _⟩ := h.open
  exact New.mk' h1 h2 h3 (fun k hk => Nat.le_trans hs (h4 k hk)) hf
theorem keep3 {S : Nat → Prop} {w w1 : World} {g : Nat} {a b c : Option Value} (hf : Fr S w w1) (hg : g < w.heap.size) (hn : ¬ S g) (h : w.cell? ⟨g, 0, none⟩ = a ∧ w.cell? ⟨g, 1, none⟩ = b ∧ w.cell? ⟨g, 2, none⟩ = c) :
    w1.cell? ⟨g, 0, none⟩ = a ∧ w1.cell? ⟨g, 1, none⟩ = b ∧ w1.cell? ⟨g, 2, none⟩ = c :=
  ⟨(hf.cellg g 0 hg hn).trans h.1, (hf.cellg g 1 hg hn).trans h.2.1, (hf.cellg g 2 hg hn).trans h.2.2⟩
theorem keep3a {w : World} {o : Obj} {g : Nat} {a b c : Option Value} (hg : g < w.heap.size) (h : w.cell? ⟨g, 0, none⟩ = a ∧ w.cell? ⟨g, 1, none⟩ = b ∧ w.cell? ⟨g, 2, none⟩ = c) :
    (w.alloc o).cell? ⟨g, 0, none⟩ = a ∧ (w.alloc o).cell? ⟨g, 1, none⟩ = b ∧ (w.alloc o).cell? ⟨g, 2, none⟩ = c := keep3 ((Fr.refl No w).alloc o) hg (fun h => h) h
theorem blk3c {W : World} {g : Nat} {v0 v1 v2 : Value} {t : TypeId} (hb : W.heap[g]? = some (.cells #[v0, v1, v2] t (0, 0))) :
    W.cell? ⟨g, 0, none⟩ = some v0 ∧ W.cell? ⟨g, 1, none⟩ = some v1 ∧ W.cell? ⟨g, 2, none⟩ = some v2 := by
  simp [World.cell?, hb]

set_option maxRecDepth 100000 in
set_option maxHeartbeats 1600000 in
theorem write_calls (F : Int) (S : Nat) (D : List UInt8) (A : Option Addr) (n c : Nat) (w : World) (hn : D.length = n) (hr : Rd B w A D) (hS : S < 4294967296) :
    Calls Try.prog 10 #[tokV F S A n c] w fun e w' => ∃ v, e = .returned (.tuple #[v, .int .i64 (tokE F n)]) ∧ New B w w' v (tokB F S D) := by
  have HN := hid (And.intro hn hr)
  clear hn hr
  by_cases hE : 0 ≤ F ∧ F < 16 ∧ n ≤ 1048576
  · have HS := hid (show tokB F S D = sealB (tokO F S D) ∧ tokE F n = 0 from ⟨by unfold tokB tokE; rw [HN.out.1, if_pos hE]; rfl, by unfold tokE; rw [if_pos hE]⟩)
    obtain ⟨e1, e2, e3⟩ := hE
    have e3' : ¬ ((1048576 : Int) < (n : Int)) := by omega
    unfold tokV
    go_enter Try.func10, Try.ntmps10
    obtain ⟨g, hgg⟩ : ∃ g, g = w.heap.size := ⟨_, rfl⟩
    have HG := hid hgg
    go_wp2_with fail
    obtain ⟨w1, hw1⟩ : ∃ W, W = w.alloc (.cells #[.int .i64 F, .int .u32 (S : Int), .slice A n c] 25) := ⟨_, rfl⟩
    rw [← hw1, ← hgg]
    obtain ⟨c0, c1, c2⟩ := blk3c (show w1.heap[g]? = some (.cells #[.int .i64 F, .int .u32 (S : Int), .slice A n c] 25 (0, 0)) by rw [hw1, hgg]; exact heap_new _ _)
    have hf1 : Fr No w w1 := by rw [hw1]; exact (Fr.refl No w).alloc _
    have hg1 : g < w1.heap.size := lt_of_cell c0
    have HF := hid hf1
    have HD := hid (HN.out.2.fr0 hf1)
    have hwS : IntKind.i64.wrap (S : Int) = (S : Int) := w64 _ (by omega) (by omega)
    clear hf1 hw1 hgg
    go_region_held3 (fun w' => w'.cell? ⟨g, 0, none⟩ = some (.int .i64 F) ∧ w'.cell? ⟨g, 1, none⟩ = some (.int .u32 (S : Int)) ∧ w'.cell? ⟨g, 2, none⟩ = some (.slice A n c))
      (first | assumption | (refine keep3a ?_ (by assumption); first | omega | (simp; omega)) | exact keep3 N4.out (by first | omega | (simp; omega)) (fun h => h) (by assumption) | exact keep3 N3.out.2.2.2.1 (by first | omega | (simp; omega)) (fun h => h) (by assumption) | exact keep3 N2.out.2.2.2.1 (by first | omega | (simp; omega)) (fun h => h) (by assumption) | exact ⟨c0, c1, c2⟩)
      (first
        | (go_at_call 27; have := N2; (with_reducible refine (putBig_calls 4 (n : Int) _ (by omega)).mono ?_); rw [cut8_4]; rintro e w3 ⟨v3, rfl, hnew3⟩; obtain ⟨A3, n3, c3', rfl, N3⟩ := hnew3.use; clear hnew3; obtain rfl : n3 = 4 := by rw [← N3.out.1, putBE_length]
           have hg3 : g < w3.heap.size := by have := N3.out.2.2.2.1.size; (try simp at this); omega)
        | (go_at_call 27; (with_reducible refine (putBig_calls 4 (S : Int) _ (by omega)).mono ?_); rw [cut8_4]; rintro e w2 ⟨v2, rfl, hnew2⟩; obtain ⟨A2, n2, c2', rfl, N2⟩ := hnew2.use; clear hnew2; obtain rfl : n2 = 4 := by rw [← N2.out.1, putBE_length]
           have hg2 : g < w2.heap.size := by have := N2.out.2.2.2.1.size; (try simp at this); omega)
        | (go_at_call 26; refine (concat_calls _ 4 4 [.slice (some ⟨_, 0, none⟩) 1 1, .slice A2 4 c2', .slice A3 4 c3', .slice A n c] [[HK.byteOf F], putBE 4 (S : Int), putBE 4 (n : Int), D] rfl _
            (by refine rdS4 (by first | rfl | simp) rfl N2.out.1 N3.out.1 HN.out.1 ?_ ?_ ?_ ?_
                all_goals repeat (first | with_reducible exact HD.out | with_reducible exact N2.out.2.1 | with_reducible exact N3.out.2.1 | exact rd1 (by first | rfl | simp) _ | with_reducible refine Rd.fr0 ?_ N3.out.2.2.2.1 | with_reducible refine Rd.fr0 ?_ N2.out.2.2.2.1 | with_reducible refine Rd.drew ?_ | with_reducible refine Rd.alloc ?_ _))
            (by rw [← HN.out.1, tokO_flat, tokO_length, HN.out.1]; omega) (by decide)).mono ?_; rw [show [[HK.byteOf F], putBE 4 (S : Int), putBE 4 (n : Int), D].flatten = tokO F S D by rw [← HN.out.1, tokO_flat]]; rintro e w4 ⟨v4, rfl, hnew4⟩
           have hF4 : Fr No w w4 := by
             refine Fr.then ?_ hnew4.2
             repeat (first | with_reducible exact HF.out | with_reducible refine Fr.then ?_ N3.out.2.2.2.1 | with_reducible refine Fr.then ?_ N2.out.2.2.2.1 | with_reducible refine Fr.drew ?_ | with_reducible refine Fr.alloc ?_ _)
           have hsz4 : w.heap.size ≤ w1.heap.size := HF.out.size
           have hsz5 : w1.heap.size ≤ w2.heap.size := by have := N2.out.2.2.2.1.size; (try simp at this); omega
           have hsz6 : w2.heap.size ≤ w3.heap.size := by have := N3.out.2.2.2.1.size; (try simp at this); omega
           have hN4 : New B w w4 v4 (tokO F S D) := new_from hnew4 hF4 (by first | omega | (simp; omega))
           have hg4 : g < w4.heap.size := Nat.lt_of_lt_of_le (by first | omega | (simp; omega)) hnew4.2.size
           have N4 := hid hnew4.2
           clear hF4 hnew4 hsz4 hsz5 hsz6))
    all_goals
      obtain ⟨A4, n4, c4, rfl, H4⟩ := hN4.use
      clear hN4
      obtain rfl : n4 = n + 9 := by rw [← H4.out.1, tokO_length, HN.out.1]
      go_wp2_with fail
      refine (of_calls _ 1 1 [.slice A4 (n + 9) c4] [tokO F S D] rfl _ (rdS1 rfl H4.out.1 H4.out.2.1) (by simp only [List.flatten_cons, List.flatten_nil, List.append_nil, H4.out.1]; omega) (by decide)).mono ?_
      rw [show [tokO F S D].flatten = tokO F S D by simp]
      rintro e w5 ⟨rfl, rfl⟩
      have hcl := crcM_lt 0 (tokO F S D)
      obtain ⟨C, hC⟩ : ∃ C, C = crcOf (tokO F S D) := ⟨_, rfl⟩
      have hCl : C < 4294967296 := by rw [hC]; exact hcl
      have HC := hid hC
      rw [← hC]
      clear hC hcl
      go_wp2_with fail
      refine (putLittle_calls 4 (C : Int) _ (by omega)).mono ?_
      rw [cut8_4]
      rintro e w6 ⟨v6, rfl, hnew6⟩
      obtain ⟨A6, n6, c6, rfl, N6⟩ := hnew6.use
      clear hnew6
      obtain rfl : n6 = 4 := by rw [← N6.out.1, putLE_length]
      obtain ⟨ob4, hrow4, hob4⟩ := H4.out.2.2.2.2
      have HR4 := hid (And.intro (hrow4.fr (((Fr.refl No w4).alloc (.cells #[.slice A4 (n + 9) c4] 23)).then N6.out.2.2.2.1) (fun _ _ h => h)) hob4)
      clear hrow4 hob4
      go_wp2_with (at_builtin; refine wpList_app slU8 rfl (.tmp 35) (.tmp 40) rfl rfl HR4.out.1 rfl (by rw [List.length_map, N6.out.1]) (Rd.cells.1 N6.out.2.1) (oneB _) (by omega) (by omega) ?_; intro A7 c7 w7 ob7 hrow7 hfr7 hob7)
      go_ret2
      have hsz := H4.out.2.2.2.1.size
      have hsz6 := N6.out.2.2.2.1.size
      rw [World.size_alloc] at hsz6
      rw [HS.out.1, HS.out.2]
      refine ⟨_, rfl, New.mk' rfl (by rw [sealB_length, tokO_length, HN.out.1]) (by rw [show (sealB (tokO F S D)).map B = (tokO F S D).map B ++ (putLE 4 (C : Int)).map B by rw [HC.out, ← List.map_append]; rfl]; exact hrow7) (fun k hk => ?_) (((H4.out.2.2.2.1.alloc _).then N6.out.2.2.2.1).fresh hfr7 HR4.out.2)⟩
      rcases hob7 with h | ⟨j, h, hj⟩
      · exact HR4.out.2 k (by rw [← h]; exact hk)
      · rw [h] at hk; injection hk with hk; omega
  · have HS := hid (show tokB F S D = [] ∧ tokE F n = 1 from ⟨by unfold tokB tokE; rw [HN.out.1, if_neg hE]; rfl, by unfold tokE; rw [if_neg hE]⟩)
    unfold tokV
    by_cases h1 : F < 0
    · clear hE
      go_enter Try.func10, Try.ntmps10
      go_wp2_with fail
      go_ret2
      rw [HS.out.1, HS.out.2]
      exact ⟨_, rfl, NewR.nil, (Fr.refl No w).alloc _⟩
    · by_cases h2 : 16 ≤ F
      · clear hE
        go_enter Try.func10, Try.ntmps10
        go_wp2_with fail
        go_ret2
        rw [HS.out.1, HS.out.2]
        exact ⟨_, rfl, NewR.nil, (Fr.refl No w).alloc _⟩
      · have h3 : 1048576 < (n : Int) := by omega
        clear hE
        go_enter Try.func10, Try.ntmps10
        go_wp2_with fail
        go_ret2
        rw [HS.out.1, HS.out.2]
        exact ⟨_, rfl, NewR.nil, (Fr.refl No w).alloc _⟩
end Go.Proofs.Ytponiapdpecioaa

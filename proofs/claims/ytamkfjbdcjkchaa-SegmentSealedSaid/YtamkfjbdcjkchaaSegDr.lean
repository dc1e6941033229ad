/- The document's Read of messages. -/
import Derived.Test.YtamkfjbdcjkchaaSegMay
import Derived.Test.YtamkfjbdcjkchaaSegRd
import Derived.Test.YtamkfjbdcjkchaaSegP3
import Derived.Deep.CutBlock
namespace Go.Proofs.Ytamkfjbdcjkchaa
open Go.RowKit Go.Proofs.HK
set_option linter.unusedVariables false
set_option linter.unusedSimpArgs false
attribute [local go_sem] max2_int min2_int max_two min_two
set_option maxRecDepth 100000 in
theorem num_calls (A : Option Addr) (bs : List UInt8) (n c : Nat) (w : World) (hn : bs.length = n) (hr : Rd B w A bs) (hc : n ≤ c) (hl : n ≤ 2097152) (a k : Nat) (h : a + k ≤ n) (hk : k ≤ 7) :
    Calls Try.prog 35 #[.slice A n c, .int .i64 (a : Int), .int .i64 (k : Int)] w fun e w' => e = .returned (.int .i64 (at_ bs a k : Nat)) ∧ w' = w := by
  have hcut := cut_lh slU8 A n c (a : Int) ((a : Int) + (k : Int)) a k rfl rfl (by omega)
  have hlen : ((bs.drop a).take k).length = k := by rw [List.length_take, List.length_drop, hn]; omega
  have HR := hid ((hr.cutA a c (by rw [hn]; exact hc) (by rw [hn]; omega)).take k)
  have HL := hid hlen
  have hnot : ¬ ((n : Int) < (a : Int) + (k : Int)) := by omega
  clear hn hr hlen
  go_enter Try.func35, Try.ntmps35
  go_wp2_with fail
  refine (refNumber_calls _ ((bs.drop a).take k) k _ HL.out _ HR.out (by rw [HL.out]; exact hk)).mono ?_
  rintro e w2 ⟨rfl, hw2⟩
  rw [hw2]
  clear hw2 w2
  go_wp2_with fail
  go_ret
  exact ⟨rfl, rfl⟩
theorem read_facts (bs : List UInt8) (m k : Nat) (hm : bs.length = m) (hk : k = m - 4) (h9 : 9 ≤ m) (hc : crcOf (bs.take k) = le (bs.drop k)) :
    srdE bs = (if rrB (bs.take k) then 0 else 3) ∧ srdM bs = (if rrB (bs.take k) then rrM (bs.take k) else zeroM) := by
  have h5 : 5 ≤ (bs.take k).length := by rw [List.length_take]; omega
  obtain ⟨p1, p2⟩ := pr_eq h5
  have hE : srdE bs = (if rrB (bs.take k) then 0 else 3) := by
    unfold srdE
    rw [if_neg (by omega), hm, ← hk, if_neg (fun h => h hc), p1]
  refine ⟨hE, ?_⟩
  unfold srdM
  rw [hE, hm, ← hk]
  by_cases hb : rrB (bs.take k) = true
  · rw [if_pos hb, if_pos rfl, if_pos hb]
    exact p2 (by rw [p1]; exact hb)
  · rw [if_neg hb, if_neg (by decide), if_neg hb]
theorem at_drop (o : List UInt8) (d a k : Nat) : at_ (o.drop d) a k = at_ o (d + a) k := by
  unfold at_
  rw [List.drop_drop]
/-- The end of a way that refuses. -/
theorem end_no {w W : World} {g : Nat} {E : Int} (hf : Fr No w W) (hg : w.heap.size ≤ g) (b0 b1 b2 b3 b4 b5 b6 b7 b8 b9 b10 b11 : Value) : Fr No w ((((((((((((W.setCell ⟨g, 0, none⟩ b0).setCell ⟨g, 1, none⟩ b1).setCell ⟨g, 2, none⟩ b2).setCell ⟨g, 3, none⟩ b3).setCell ⟨g, 4, none⟩ b4).setCell ⟨g, 5, none⟩ b5).setCell ⟨g, 6, none⟩ b6).setCell ⟨g, 7, none⟩ b7).setCell ⟨g, 8, none⟩ b8).setCell ⟨g, 9, none⟩ b9).setCell ⟨g, 10, none⟩ b10).setCell ⟨g, 11, none⟩ b11) :=
  hf.trans (fr12 W g b0 b1 b2 b3 b4 b5 b6 b7 b8 b9 b10 b11) (fun k hk e => by have e : k = g := e; omega)
theorem keep12 {W : World} {g : Nat} {ad : Addr} {v : Value} (hn : ad.block ≠ g) (h : W.cell? ad = some v) (b0 b1 b2 b3 b4 b5 b6 b7 b8 b9 b10 b11 : Value) :
    ((((((((((((W.setCell ⟨g, 0, none⟩ b0).setCell ⟨g, 1, none⟩ b1).setCell ⟨g, 2, none⟩ b2).setCell ⟨g, 3, none⟩ b3).setCell ⟨g, 4, none⟩ b4).setCell ⟨g, 5, none⟩ b5).setCell ⟨g, 6, none⟩ b6).setCell ⟨g, 7, none⟩ b7).setCell ⟨g, 8, none⟩ b8).setCell ⟨g, 9, none⟩ b9).setCell ⟨g, 10, none⟩ b10).setCell ⟨g, 11, none⟩ b11).cell? ad = some v := by
  exact ((fr12 W g b0 b1 b2 b3 b4 b5 b6 b7 b8 b9 b10 b11).cell (lt_of_cell h) (fun e => hn e)).trans h
theorem rrM_lens (o : List UInt8) (h : o.length ≤ 2097152) : (rrM o).R.length ≤ 140737488355328 ∧ (rrM o).D.length ≤ 140737488355328 := by
  have h1 := at_lt o 9 1
  unfold rrM
  simp only
  repeat' split
  all_goals simp only [List.length_nil, pairsAt_length, List.length_drop]
  all_goals refine ⟨?_, ?_⟩
  all_goals omega
set_option maxRecDepth 100000 in
set_option maxHeartbeats 12800000 in
theorem refRead_calls (A : Option Addr) (bs : List UInt8) (m c : Nat) (w : World) (hn : bs.length = m) (hr : Rd B w A bs) (hc : m ≤ c) (hl : m ≤ 2097152) :
    Calls Try.prog 14 #[.slice A m c] w (RetM w (srdM bs) (srdE bs)) := by
  have HN := hid (And.intro hn hr)
  clear hn hr
  obtain ⟨g, hgg⟩ : ∃ g, g = w.heap.size := ⟨_, rfl⟩
  have HGG := hid (show g = w.heap.size ∧ w.heap.size ≤ g from ⟨hgg, by omega⟩)
  obtain ⟨w1, hw1⟩ : ∃ W, W = (w.alloc (.cells #[.int .i64 0, .int .u32 0, .int .i64 0, .int .u32 0, .int .i64 0, .int .i64 0, .int .i64 0, .int .i64 0, .int .i64 0, .int .i64 0, .slice none 0 0, .slice none 0 0] 26)).alloc (.cells #[.int .i64 0, .int .u32 0, .int .i64 0, .int .u32 0, .int .i64 0, .int .i64 0, .int .i64 0, .int .i64 0, .int .i64 0, .int .i64 0, .slice none 0 0, .slice none 0 0] 26) := ⟨_, rfl⟩
  have hb2 : w1.heap[g]? = some (.cells #[.int .i64 0, .int .u32 0, .int .i64 0, .int .u32 0, .int .i64 0, .int .i64 0, .int .i64 0, .int .i64 0, .int .i64 0, .int .i64 0, .slice none 0 0, .slice none 0 0] 26 (0, 0)) := by
    rw [hw1, hgg]; exact (((Fr.refl No (w.alloc _)).alloc _).block w.heap.size (by simp) (fun h => h)).trans (heap_new w _)
  have hb4 : w1.heap[g + 1]? = some (.cells #[.int .i64 0, .int .u32 0, .int .i64 0, .int .u32 0, .int .i64 0, .int .i64 0, .int .i64 0, .int .i64 0, .int .i64 0, .int .i64 0, .slice none 0 0, .slice none 0 0] 26 (0, 0)) := by
    have := heap_new (w.alloc (.cells #[.int .i64 0, .int .u32 0, .int .i64 0, .int .u32 0, .int .i64 0, .int .i64 0, .int .i64 0, .int .i64 0, .int .i64 0, .int .i64 0, .slice none 0 0, .slice none 0 0] 26)) (.cells #[.int .i64 0, .int .u32 0, .int .i64 0, .int .u32 0, .int .i64 0, .int .i64 0, .int .i64 0, .int .i64 0, .int .i64 0, .int .i64 0, .slice none 0 0, .slice none 0 0] 26)
    rw [World.size_alloc, ← hgg] at this
    rw [hw1]; exact this
  have hf1 : Fr No w w1 := by rw [hw1]; exact ((Fr.refl No w).alloc _).alloc _
  have hG : ∀ W, Fr No w1 W → W.heap[g]? = some (.cells #[.int .i64 0, .int .u32 0, .int .i64 0, .int .u32 0, .int .i64 0, .int .i64 0, .int .i64 0, .int .i64 0, .int .i64 0, .int .i64 0, .slice none 0 0, .slice none 0 0] 26 (0, 0)) ∧ W.heap[g + 1]? = some (.cells #[.int .i64 0, .int .u32 0, .int .i64 0, .int .u32 0, .int .i64 0, .int .i64 0, .int .i64 0, .int .i64 0, .int .i64 0, .int .i64 0, .slice none 0 0, .slice none 0 0] 26 (0, 0)) ∧ Fr No w W := fun W hf =>
    ⟨(hf.block g (Array.getElem?_eq_some_iff.1 hb2).1 (fun h => h)).trans hb2, (hf.block (g + 1) (Array.getElem?_eq_some_iff.1 hb4).1 (fun h => h)).trans hb4, hf1.then hf⟩
  have HG := hid hG
  have HB1 := hid hf1.drew
  have HF1 := hid hf1
  have HW1 := hid hw1
  have hgs : g < w1.heap.size := (Array.getElem?_eq_some_iff.1 hb2).1
  clear hgg hw1 hb2 hb4 hf1 hG
  by_cases h13 : m < 9
  · have HE := hid (show srdE bs = 2 ∧ srdM bs = zeroM from by
      have h : srdE bs = 2 := by unfold srdE; rw [if_pos (by rw [HN.out.1]; exact h13)]
      exact ⟨h, srdM_no h (by decide)⟩)
    have h13' : (m : Int) - 4 < 5 := by omega
    go_enter Try.func14, Try.ntmps14
    go_upto_region 2 with fail
    rw [← HW1.out, ← HGG.out.1]
    have HV := hid (HG.out w1 (Fr.refl No w1))
    obtain ⟨x0, x1, x2, x3, x4, x5, x6, x7, x8, x9, x10, x11⟩ := blk12 HV.out.1
    have z := free12 HV.out.1
    obtain ⟨y0, y1, y2, y3, y4, y5, y6, y7, y8, y9, y10, y11⟩ := blk12 HV.out.2.1
    go_wp2_with fail
    refine ret_cell2 rfl (g := g) rfl rfl (load_msg (set12 HV.out.1 _ _ _ _ _ _ _ _ _ _ _ _)) rfl ?_
    rw [HE.out.1, HE.out.2]
    exact ⟨none, 0, 0, none, 0, 0, rfl, RM.none rfl rfl, end_no (E := 0) HV.out.2.2 HGG.out.2 _ _ _ _ _ _ _ _ _ _ _ _⟩
  · have hm4 : (m : Int) - 4 = ((m - 4 : Nat) : Int) := by omega
    obtain ⟨k, hk⟩ : ∃ k, k = m - 4 := ⟨_, rfl⟩
    rw [← hk] at hm4
    have hk5 : 5 ≤ k := by omega
    obtain ⟨o, ho⟩ : ∃ o, o = bs.take k := ⟨_, rfl⟩
    obtain ⟨L, hL⟩ : ∃ L, L = le (bs.drop k) := ⟨_, rfl⟩
    have hd4 : (bs.drop k).length = 4 := by rw [List.length_drop, HN.out.1]; omega
    have hLl : L < 4294967296 := by have := le_lt (bs.drop k); rw [hd4] at this; rw [hL]; omega
    obtain ⟨C, hC⟩ : ∃ C, C = crcOf o := ⟨_, rfl⟩
    have hCl : C < 4294967296 := by rw [hC]; exact crcM_lt _ _
    have HLB := hid (show L = be (bs.drop k).reverse by rw [hL, le_eq_be])
    have HCC := hid hC
    have HD4 := hid hd4
    have hcut := cut_h slU8 A m c (k : Int) k rfl (by omega)
    have hcut2 := cut_l slU8 A m c (k : Int) k rfl (by omega)
    rw [show m - k = 4 by omega] at hcut2
    have htk : o.length = k := by rw [ho, List.length_take, HN.out.1]; omega
    have hrd : ∀ W, Rd B W A bs → Rd B W A o := fun W h => by rw [ho]; exact h.take k
    have HT := hid (And.intro htk (And.intro ho hrd))
    have HRD := hid ((HN.out.2.fr0 HB1.out).cutA k c (by rw [HN.out.1]; exact hc) (by rw [HN.out.1]; omega))
    have hge9 : ¬ ((k : Int) < 5) := by omega
    have hwL : IntKind.u32.wrap (L : Int) = (L : Int) := wraps_u32 _ (by omega) (by omega)
    by_cases hS : C = L
    · have hE3 := read_facts bs m k HN.out.1 hk (by omega) (by rw [← ho, ← hC, ← hL]; exact hS)
      rw [← ho] at hE3
      have HE3 := hid hE3
      have hne : ((C : Int) != (L : Int)) = false := by rw [hS]; simp
      have HKM := hid hk
      clear hk hL hC hd4 htk ho hrd hS hE3
      go_enter Try.func14, Try.ntmps14
      go_upto_region 2 with fail
      rw [← HW1.out, ← HGG.out.1]
      go_upto_region 5 with fail
      refine wp_region_held_drew (S := (fun _ => True)) (by kernel_rfl) trivial (fun hHeld => ?_)
      refine takeD (i := 0) (d := some 15) (v := .slice A m c) rfl rfl (by kernel_rfl) (by kernel_rfl) (by kernel_rfl) (fun _ _ _ h => h) (by rfl) ?_ (by first | assumption | trivial) ?_
      · intro w' hSw
        (try dsimp only at hSw)
        go_simp
        first | done | rfl
      (try simp only [Act.put, List.setIfInBounds_toArray, List.set_cons_zero, List.set_cons_succ])
      refine takeD (i := 1) (d := some 16) (v := .int .i64 (k : Int)) rfl rfl (by kernel_rfl) (by kernel_rfl) (by kernel_rfl) (fun _ _ _ h => h) (by rfl) ?_ (by first | assumption | trivial) ?_
      · intro w' hSw
        (try dsimp only at hSw)
        go_simp
        first | done | rfl
      (try simp only [Act.put, List.setIfInBounds_toArray, List.set_cons_zero, List.set_cons_succ])
      refine takeD (i := 2) (d := some 17) (v := .slice A k c) rfl rfl (by kernel_rfl) (by kernel_rfl) (by kernel_rfl) (fun _ _ _ h => h) (by rfl) ?_ (by first | assumption | trivial) ?_
      · intro w' hSw
        (try dsimp only at hSw)
        go_simp
        first | done | rfl
      (try simp only [Act.put, List.setIfInBounds_toArray, List.set_cons_zero, List.set_cons_succ])
      refine takeD (i := 4) (d := some 19) (v := .slice A m c) rfl rfl (by kernel_rfl) (by kernel_rfl) (by kernel_rfl) (fun _ _ _ h => h) (by rfl) ?_ (by first | assumption | trivial) ?_
      · intro w' hSw
        (try dsimp only at hSw)
        go_simp
        first | done | rfl
      (try simp only [Act.put, List.setIfInBounds_toArray, List.set_cons_zero, List.set_cons_succ])
      refine takeD (i := 5) (d := some 20) (v := .int .i64 (k : Int)) rfl rfl (by kernel_rfl) (by kernel_rfl) (by kernel_rfl) (fun _ _ _ h => h) (by rfl) ?_ (by first | assumption | trivial) ?_
      · intro w' hSw
        (try dsimp only at hSw)
        go_simp
        first | done | rfl
      (try simp only [Act.put, List.setIfInBounds_toArray, List.set_cons_zero, List.set_cons_succ])
      refine takeD (i := 6) (d := some 21) (v := .slice (cutA A c k 1) 4 (c - k)) rfl rfl (by kernel_rfl) (by kernel_rfl) (by kernel_rfl) (fun _ _ _ h => h) (by rfl) ?_ (by first | assumption | trivial) ?_
      · intro w' hSw
        (try dsimp only at hSw)
        go_simp
        first | done | rfl
      (try simp only [Act.put, List.setIfInBounds_toArray, List.set_cons_zero, List.set_cons_succ])
      refine oneD (i := 3) (by kernel_rfl) rfl (fun KK hK => ?_)
      go_simp
      go_at_call 32
      refine (refOf_calls A o k c HT.out.1 _ (HT.out.2.2 _ (HN.out.2.fr0 HB1.out)) (by omega)).mono ?_
      rw [← HCC.out]
      rintro e w5 ⟨rfl, h5⟩
      rw [h5]
      clear h5 w5
      refine hK.out _ _ trivial (fun hHeld => ?_)
      clear hK KK
      (try simp only [Act.put, List.setIfInBounds_toArray, List.set_cons_zero, List.set_cons_succ])
      refine oneD (i := 7) (by kernel_rfl) rfl (fun KK hK => ?_)
      go_simp
      go_at_call 34
      refine (refTurned_calls _ (bs.drop k) 4 _ HD4.out _ (HRD.out) (by rw [HD4.out]; decide)).mono ?_
      rintro e w6 ⟨v6, rfl, hnew6⟩
      obtain ⟨A6, n6, c6, rfl, N6⟩ := hnew6.use
      clear hnew6
      obtain rfl : n6 = 4 := by rw [← N6.out.1, List.length_reverse, HD4.out]
      refine hK.out _ _ trivial (fun hHeld => ?_)
      clear hK KK
      (try simp only [Act.put, List.setIfInBounds_toArray, List.set_cons_zero, List.set_cons_succ])
      refine oneD (i := 8) (by kernel_rfl) rfl (fun KK hK => ?_)
      go_simp
      go_at_call 33
      refine (refNumber_calls A6 (bs.drop k).reverse 4 c6 N6.out.1 _ N6.out.2.1 (by rw [N6.out.1]; decide)).mono ?_
      rw [← HLB.out]
      rintro e w7 ⟨rfl, h7⟩
      rw [h7]
      clear h7 w7
      refine hK.out _ _ trivial (fun hHeld => ?_)
      clear hK KK
      (try simp only [Act.put, List.setIfInBounds_toArray, List.set_cons_zero, List.set_cons_succ])
      refine takeD (i := 9) (d := some 24) (v := .int .u32 (L : Int)) rfl rfl (by kernel_rfl) (by kernel_rfl) (by kernel_rfl) (fun _ _ _ h => h) (by rfl) ?_ (by first | assumption | trivial) ?_
      · intro w' hSw
        (try dsimp only at hSw)
        go_simp
        first | done | rfl
      (try simp only [Act.put, List.setIfInBounds_toArray, List.set_cons_zero, List.set_cons_succ])
      refine takeD (i := 10) (d := some 25) (v := .bool ((C : Int) != (L : Int))) rfl rfl (by kernel_rfl) (by kernel_rfl) (by kernel_rfl) (fun _ _ _ h => h) (by rfl) ?_ (by first | assumption | trivial) ?_
      · intro w' hSw
        (try dsimp only at hSw)
        go_simp
        first | done | rfl
      (try simp only [Act.put, List.setIfInBounds_toArray, List.set_cons_zero, List.set_cons_succ])
      refine wpAnyH_done (by kernel_rfl) ?_ _
      clear hHeld
      have HF6 := hid (show Fr No w1 w6 from ((Fr.refl No w1).drew).then N6.out.2.2.2.1)
      obtain ⟨ad, rfl, hcb⟩ := HN.out.2 (by rw [HN.out.1]; omega)
      obtain ⟨Kn, hKn⟩ : ∃ q, q = at_ o 0 1 := ⟨_, rfl⟩
      obtain ⟨U, hU⟩ : ∃ q, q = at_ o 1 4 := ⟨_, rfl⟩
      have hKb : Kn < 256 := by rw [hKn]; exact at_lt o 0 1
      have hUb : U < 4294967296 := by rw [hU]; exact at_lt o 1 4
      have h0 : 0 < bs.length := by rw [HN.out.1]; omega
      have hc0 : w.cell? ad = some (.int .u8 (Kn : Int)) := by
        have h := hcb 0 h0
        refine (show w.cell? ad = some (B bs[0]) from h).trans ?_
        rw [hKn]
        congr 1
        unfold B at_
        rw [HT.out.2.1]
        obtain ⟨x, xs, e⟩ : ∃ x xs, bs = x :: xs := by
          cases bs with
          | nil => simp at h0
          | cons x xs => exact ⟨x, xs, rfl⟩
        subst e
        obtain ⟨k', rfl⟩ : ∃ k', k = k' + 1 := ⟨k - 1, by omega⟩
        simp [be, beN]
      have HC6 := hid (show w6.drew.cell? ad = some (.int .u8 (Kn : Int)) from ((HF1.out.then HF6.out).cell (lt_of_cell hc0) (fun h => h)).trans hc0)
      have HCA := hid (show (w6.drew.alloc (.cells #[.int .i64 0, .int .u32 0, .int .i64 0, .int .u32 0, .int .i64 0, .int .i64 0, .int .i64 0, .int .i64 0, .int .i64 0, .int .i64 0, .slice none 0 0, .slice none 0 0] 26)).cell? ad = some (.int .u8 (Kn : Int)) from ((HF1.out.then (HF6.out.drew.alloc _)).cell (lt_of_cell hc0) (fun h => h)).trans hc0)
      have HADB := hid (show ad.block < w1.heap.size from Nat.lt_of_lt_of_le (lt_of_cell hc0) HF1.out.size)
      have hcu1 := cut_lh slU8 (some ad) m c 1 5 1 4 rfl rfl (by omega)
      have HR1 := hid (show ((bs.drop 1).take 4).length = 4 ∧ Rd B w1 (cutA (some ad) c 1 1) ((bs.drop 1).take 4) ∧ be ((bs.drop 1).take 4) = U from
        ⟨by rw [List.length_take, List.length_drop, HN.out.1]; omega, ((HN.out.2.fr0 HF1.out).cutA 1 c (by rw [HN.out.1]; exact hc) (by rw [HN.out.1]; omega)).take 4, by
          rw [hU]; unfold at_; rw [HT.out.2.1, List.drop_take, List.take_take, Nat.min_eq_left (by omega)]⟩)
      have hwU : IntKind.u32.wrap (U : Int) = (U : Int) := wraps_u32 _ (by omega) (by omega)
      have hwKn : IntKind.i64.wrap (Kn : Int) = (Kn : Int) := w64 _ (by omega) (by omega)
      have hm0 : 0 < m := by omega
      have HKU := hid (And.intro hKn hU)
      clear hKn hU hc0 hcb h0
      go_upto_region 7 with fail
      go_cut [6] (fun s6 wx => ∃ g6, s6 = .pointer (some ⟨g6, 0, none⟩) ∧ w1.heap.size ≤ g6 ∧ wx.heap[g6]? = some (.cells #[.int .i64 (Kn : Int), .int .u32 (U : Int), .int .i64 0, .int .u32 0, .int .i64 0, .int .i64 0, .int .i64 0, .int .i64 0, .int .i64 0, .int .i64 0, .slice none 0 0, .slice none 0 0] 26 (0, 0)) ∧ Fr No w1 wx)
      case first =>
        refine wp_region_held_drew (S := (fun W => W.cell? ad = some (.int .u8 (Kn : Int)))) (by kernel_rfl) HC6.out (fun hHeld => ?_)
        refine takeD (i := 0) (d := some 27) (v := .slice (some ad) m c) rfl rfl (by kernel_rfl) (by kernel_rfl) (by kernel_rfl) (fun _ _ _ h => h) (by rfl) ?_ (by first | assumption | trivial) ?_
        · intro w' hSw
          (try dsimp only at hSw)
          go_simp
          first | done | rfl
        (try simp only [Act.put, List.setIfInBounds_toArray, List.set_cons_zero, List.set_cons_succ])
        refine takeD (i := 1) (d := some 28) (v := .pointer (some ad)) rfl rfl (by kernel_rfl) (by kernel_rfl) (by kernel_rfl) (fun _ _ _ h => h) (by rfl) ?_ (by first | assumption | trivial) ?_
        · intro w' hSw
          (try dsimp only at hSw)
          go_simp
          first | done | rfl
        (try simp only [Act.put, List.setIfInBounds_toArray, List.set_cons_zero, List.set_cons_succ])
        refine takeD (i := 2) (d := some 29) (v := .int .u8 (Kn : Int)) rfl rfl (by kernel_rfl) (by kernel_rfl) (by kernel_rfl) (fun _ _ _ h => h) (by rfl) ?_ (by first | assumption | trivial) ?_
        · intro w' hSw
          (try dsimp only at hSw)
          go_simp
          first | done | rfl
        (try simp only [Act.put, List.setIfInBounds_toArray, List.set_cons_zero, List.set_cons_succ])
        refine takeD (i := 3) (d := some 30) (v := .int .i64 (Kn : Int)) rfl rfl (by kernel_rfl) (by kernel_rfl) (by kernel_rfl) (fun _ _ _ h => h) (by rfl) ?_ (by first | assumption | trivial) ?_
        · intro w' hSw
          (try dsimp only at hSw)
          go_simp
          first | done | rfl
        (try simp only [Act.put, List.setIfInBounds_toArray, List.set_cons_zero, List.set_cons_succ])
        refine takeD (i := 4) (d := some 31) (v := .slice (some ad) m c) rfl rfl (by kernel_rfl) (by kernel_rfl) (by kernel_rfl) (fun _ _ _ h => h) (by rfl) ?_ (by first | assumption | trivial) ?_
        · intro w' hSw
          (try dsimp only at hSw)
          go_simp
          first | done | rfl
        (try simp only [Act.put, List.setIfInBounds_toArray, List.set_cons_zero, List.set_cons_succ])
        refine takeD (i := 5) (d := some 32) (v := .slice (cutA (some ad) c 1 1) 4 (c - 1)) rfl rfl (by kernel_rfl) (by kernel_rfl) (by kernel_rfl) (fun _ _ _ h => h) (by rfl) ?_ (by first | assumption | trivial) ?_
        · intro w' hSw
          (try dsimp only at hSw)
          go_simp
          first | done | rfl
        (try simp only [Act.put, List.setIfInBounds_toArray, List.set_cons_zero, List.set_cons_succ])
        refine wpAnyH_ready (rs := [6, 9]) (by kernel_rfl) (by simp) (AllReadyH.cons rfl (fun KK hK => ?_) (AllReadyH.cons rfl (fun KK hK => ?_) AllReadyH.nil))
        · skip
          go_simp
          go_at_call 33
          refine (refNumber_calls _ ((bs.drop 1).take 4) 4 _ HR1.out.1 _ (HR1.out.2.1.fr0 HF6.out.drew) (by rw [HR1.out.1]; decide)).mono ?_
          rw [HR1.out.2.2]
          rintro e w7 ⟨rfl, h7⟩
          rw [h7]
          clear h7 w7
          refine hK.out _ _ HC6.out (fun hHeld => ?_)
          clear hK KK
          (try simp only [Act.put, List.setIfInBounds_toArray, List.set_cons_zero, List.set_cons_succ])
          refine takeD (i := 7) (d := some 34) (v := .int .u32 (U : Int)) rfl rfl (by kernel_rfl) (by kernel_rfl) (by kernel_rfl) (fun _ _ _ h => h) (by rfl) ?_ (by first | assumption | trivial) ?_
          · intro w' hSw
            (try dsimp only at hSw)
            go_simp
            first | done | rfl
          (try simp only [Act.put, List.setIfInBounds_toArray, List.set_cons_zero, List.set_cons_succ])
          refine takeD (i := 8) (d := some 35) (v := .agg #[.int .i64 (Kn : Int), .int .u32 (U : Int), .int .i64 0, .int .u32 0, .int .i64 0, .int .i64 0, .int .i64 0, .int .i64 0, .int .i64 0, .int .i64 0, .slice none 0 0, .slice none 0 0]) rfl rfl (by kernel_rfl) (by kernel_rfl) (by kernel_rfl) (fun _ _ _ h => h) (by rfl) ?_ (by first | assumption | trivial) ?_
          · intro w' hSw
            (try dsimp only at hSw)
            go_simp
            first | done | rfl
          (try simp only [Act.put, List.setIfInBounds_toArray, List.set_cons_zero, List.set_cons_succ])
          refine oneD (i := 9) (by kernel_rfl) rfl (fun KK hK => ?_)
          go_simp
          refine hK.out _ _ (HCA.out) (fun hHeld => ?_)
          clear hK KK
          (try simp only [Act.put, List.setIfInBounds_toArray, List.set_cons_zero, List.set_cons_succ])
          obtain ⟨W7, hW7⟩ : ∃ W, W = w6.drew.alloc (.cells #[.int .i64 0, .int .u32 0, .int .i64 0, .int .u32 0, .int .i64 0, .int .i64 0, .int .i64 0, .int .i64 0, .int .i64 0, .int .i64 0, .slice none 0 0, .slice none 0 0] 26) := ⟨_, rfl⟩
          obtain ⟨g6, hg6⟩ : ∃ q, q = w6.heap.size := ⟨_, rfl⟩
          have hb6 : W7.heap[g6]? = some (.cells #[.int .i64 0, .int .u32 0, .int .i64 0, .int .u32 0, .int .i64 0, .int .i64 0, .int .i64 0, .int .i64 0, .int .i64 0, .int .i64 0, .slice none 0 0, .slice none 0 0] 26 (0, 0)) := by rw [hW7, hg6]; exact heap_new w6.drew _
          have hgl : w1.heap.size ≤ g6 := by rw [hg6]; exact HF6.out.size
          have HF7 := hid (show Fr No w1 W7 from by rw [hW7]; exact HF6.out.drew.alloc _)
          have HCA2 := hid (show W7.cell? ad = some (.int .u8 (Kn : Int)) from by rw [hW7]; exact HCA.out)
          obtain ⟨x0, x1, x2, x3, x4, x5, x6, x7, x8, x9, x10, x11⟩ := blk12 hb6
          have z := free12 hb6
          have hadne : ad.block ≠ g6 := by have := HADB.out; omega
          first | rw [← hW7] | rw [show (w6.alloc (.cells #[.int .i64 0, .int .u32 0, .int .i64 0, .int .u32 0, .int .i64 0, .int .i64 0, .int .i64 0, .int .i64 0, .int .i64 0, .int .i64 0, .slice none 0 0, .slice none 0 0] 26)).drew = W7 from by rw [hW7]; rfl]
          rw [← hg6]
          clear hW7 hg6
          refine oneD (i := 10) (by kernel_rfl) rfl (fun KK hK => ?_)
          go_simp
          refine hK.out _ _ (keep12 hadne HCA2.out _ _ _ _ _ _ _ _ _ _ _ _) (fun hHeld => ?_)
          clear hK KK
          (try simp only [Act.put, List.setIfInBounds_toArray, List.set_cons_zero, List.set_cons_succ])
          refine wpAnyH_done (by kernel_rfl) ?_ _
          clear hHeld
          go_wp2_with fail
          go_meet
          exact ⟨g6, rfl, hgl, set12 hb6 _ _ _ _ _ _ _ _ _ _ _ _, HF7.out.trans (fr12 W7 g6 _ _ _ _ _ _ _ _ _ _ _ _) (fun k hk e => by have e : k = g6 := e; omega)⟩
        · skip
          go_simp
          refine hK.out _ _ (HCA.out) (fun hHeld => ?_)
          clear hK KK
          (try simp only [Act.put, List.setIfInBounds_toArray, List.set_cons_zero, List.set_cons_succ])
          refine oneD (i := 6) (by kernel_rfl) rfl (fun KK hK => ?_)
          go_simp
          go_at_call 33
          refine (refNumber_calls _ ((bs.drop 1).take 4) 4 _ HR1.out.1 _ (HR1.out.2.1.fr0 (HF6.out.drew.alloc _)) (by rw [HR1.out.1]; decide)).mono ?_
          rw [HR1.out.2.2]
          rintro e w7 ⟨rfl, h7⟩
          rw [h7]
          clear h7 w7
          refine hK.out _ _ HCA.out (fun hHeld => ?_)
          clear hK KK
          (try simp only [Act.put, List.setIfInBounds_toArray, List.set_cons_zero, List.set_cons_succ])
          refine takeD (i := 7) (d := some 34) (v := .int .u32 (U : Int)) rfl rfl (by kernel_rfl) (by kernel_rfl) (by kernel_rfl) (fun _ _ _ h => h) (by rfl) ?_ (by first | assumption | trivial) ?_
          · intro w' hSw
            (try dsimp only at hSw)
            go_simp
            first | done | rfl
          (try simp only [Act.put, List.setIfInBounds_toArray, List.set_cons_zero, List.set_cons_succ])
          refine takeD (i := 8) (d := some 35) (v := .agg #[.int .i64 (Kn : Int), .int .u32 (U : Int), .int .i64 0, .int .u32 0, .int .i64 0, .int .i64 0, .int .i64 0, .int .i64 0, .int .i64 0, .int .i64 0, .slice none 0 0, .slice none 0 0]) rfl rfl (by kernel_rfl) (by kernel_rfl) (by kernel_rfl) (fun _ _ _ h => h) (by rfl) ?_ (by first | assumption | trivial) ?_
          · intro w' hSw
            (try dsimp only at hSw)
            go_simp
            first | done | rfl
          (try simp only [Act.put, List.setIfInBounds_toArray, List.set_cons_zero, List.set_cons_succ])
          obtain ⟨W7, hW7⟩ : ∃ W, W = w6.drew.alloc (.cells #[.int .i64 0, .int .u32 0, .int .i64 0, .int .u32 0, .int .i64 0, .int .i64 0, .int .i64 0, .int .i64 0, .int .i64 0, .int .i64 0, .slice none 0 0, .slice none 0 0] 26) := ⟨_, rfl⟩
          obtain ⟨g6, hg6⟩ : ∃ q, q = w6.heap.size := ⟨_, rfl⟩
          have hb6 : W7.heap[g6]? = some (.cells #[.int .i64 0, .int .u32 0, .int .i64 0, .int .u32 0, .int .i64 0, .int .i64 0, .int .i64 0, .int .i64 0, .int .i64 0, .int .i64 0, .slice none 0 0, .slice none 0 0] 26 (0, 0)) := by rw [hW7, hg6]; exact heap_new w6.drew _
          have hgl : w1.heap.size ≤ g6 := by rw [hg6]; exact HF6.out.size
          have HF7 := hid (show Fr No w1 W7 from by rw [hW7]; exact HF6.out.drew.alloc _)
          have HCA2 := hid (show W7.cell? ad = some (.int .u8 (Kn : Int)) from by rw [hW7]; exact HCA.out)
          obtain ⟨x0, x1, x2, x3, x4, x5, x6, x7, x8, x9, x10, x11⟩ := blk12 hb6
          have z := free12 hb6
          have hadne : ad.block ≠ g6 := by have := HADB.out; omega
          first | rw [← hW7] | rw [show (w6.alloc (.cells #[.int .i64 0, .int .u32 0, .int .i64 0, .int .u32 0, .int .i64 0, .int .i64 0, .int .i64 0, .int .i64 0, .int .i64 0, .int .i64 0, .slice none 0 0, .slice none 0 0] 26)).drew = W7 from by rw [hW7]; rfl]
          rw [← hg6]
          clear hW7 hg6
          refine oneD (i := 10) (by kernel_rfl) rfl (fun KK hK => ?_)
          go_simp
          refine hK.out _ _ (keep12 hadne HCA2.out _ _ _ _ _ _ _ _ _ _ _ _) (fun hHeld => ?_)
          clear hK KK
          (try simp only [Act.put, List.setIfInBounds_toArray, List.set_cons_zero, List.set_cons_succ])
          refine wpAnyH_done (by kernel_rfl) ?_ _
          clear hHeld
          go_wp2_with fail
          go_meet
          exact ⟨g6, rfl, hgl, set12 hb6 _ _ _ _ _ _ _ _ _ _ _ _, HF7.out.trans (fr12 W7 g6 _ _ _ _ _ _ _ _ _ _ _ _) (fun k hk e => by have e : k = g6 := e; omega)⟩
      case rest =>
        obtain ⟨g6, rfl, hgl, hm8, hf8⟩ := hcut
        obtain ⟨w8, rfl⟩ : ∃ x : World, x = wc := ⟨_, rfl⟩
        have HM8 := hid (And.intro hm8 hf8)
        clear hm8 hf8
        obtain ⟨Ln, hLn⟩ : ∃ q, q = k - 5 := ⟨_, rfl⟩
        obtain ⟨A8, hA8⟩ : ∃ q, q = cutA (some ad) c 5 1 := ⟨_, rfl⟩
        obtain ⟨c8, hc8⟩ : ∃ q, q = c - 5 := ⟨_, rfl⟩
        have hcu5 := cut_lh slU8 (some ad) m c 5 (k : Int) 5 Ln rfl (by omega) (by omega)
        rw [← hA8, ← hc8] at hcu5
        have HP8 := hid (show (o.drop 5).length = Ln ∧ ∀ W, Fr No w1 W → Rd B W A8 (o.drop 5) from ⟨by rw [List.length_drop, HT.out.1, hLn], fun W hf => by
          have h := ((HN.out.2.fr0 (HF1.out.then hf)).cutA 5 c (by rw [HN.out.1]; exact hc) (by rw [HN.out.1]; omega)).take Ln
          rw [hA8, HT.out.2.1, List.drop_take, ← hLn]
          exact h⟩)
        have HC8 := hid (show Ln ≤ c8 by omega)
        have hLb : Ln ≤ 2097152 := by omega
        have HRR := hid (show rrM o = rrM o ∧ ((at_ o 0 1 : Nat) : Int) = (Kn : Int) ∧ o.length = Ln + 5 from ⟨rfl, by rw [HKU.out.1], by rw [HT.out.1]; omega⟩)
        have HNUM := hid (show ∀ W, Fr No w1 W → ∀ a q : Nat, a + q ≤ Ln → q ≤ 7 → Calls Try.prog 35 #[.slice A8 Ln c8, .int .i64 (a : Int), .int .i64 (q : Int)] W fun e w' => e = .returned (.int .i64 ((at_ o (5 + a) q : Nat) : Int)) ∧ w' = W from fun W hf a q h1 h2 => by
          have h := num_calls A8 (o.drop 5) Ln c8 W HP8.out.1 (HP8.out.2 W hf) HC8.out hLb a q h1 h2
          rw [at_drop] at h
          exact h)
        have hS6 : IntKind.u32.wrap ((at_ o 6 4 : Nat) : Int) = ((at_ o 6 4 : Nat) : Int) := by
          have := at_lt o 6 4
          exact wraps_u32 _ (by omega) (by omega)
        obtain ⟨m0, m1, m2, m3, m4, m5, m6, m7, m8, m9, m10, m11⟩ := blk12 HM8.out.1
        clear hcut hcut2 hcu1 hLn hA8 hc8
        go_upto_block 0 with fail
        clear m0 m1 m2 m3 m4 m5 m6 m7 m8 m9 m10 m11 hcu5
        go_cut [] (fun wx => ∃ rA rn rc dA dn dc, wx.heap[g6]? = some (.cells (mC (rrM o) (.slice rA rn rc) (.slice dA dn dc)) 26 (0, 0)) ∧ RM w1.heap.size wx (rrM o) rA rn rc dA dn dc ∧ Fr No w1 wx ∧ okL (at_ o 0 1 : Nat) o.length (at_ o 9 1) = true)
        case first =>
          have hcs : (Kn = 1 ∧ ((Kn : Int) == 1) = true) ∨ (Kn = 2 ∧ ((Kn : Int) == 1) = false ∧ ((Kn : Int) == 2) = true) ∨ (Kn = 3 ∧ ((Kn : Int) == 1) = false ∧ ((Kn : Int) == 2) = false ∧ ((Kn : Int) == 3) = true) ∨ (Kn = 4 ∧ ((Kn : Int) == 1) = false ∧ ((Kn : Int) == 2) = false ∧ ((Kn : Int) == 3) = false ∧ ((Kn : Int) == 4) = true) ∨
              (Kn = 5 ∧ ((Kn : Int) == 1) = false ∧ ((Kn : Int) == 2) = false ∧ ((Kn : Int) == 3) = false ∧ ((Kn : Int) == 4) = false ∧ ((Kn : Int) == 5) = true) ∨ ((¬ Kn = 1 ∧ ¬ Kn = 2 ∧ ¬ Kn = 3 ∧ ¬ Kn = 4 ∧ ¬ Kn = 5) ∧ ((Kn : Int) == 1) = false ∧ ((Kn : Int) == 2) = false ∧ ((Kn : Int) == 3) = false ∧ ((Kn : Int) == 4) = false ∧ ((Kn : Int) == 5) = false) := by
            have h : Kn = 1 ∨ Kn = 2 ∨ Kn = 3 ∨ Kn = 4 ∨ Kn = 5 ∨ (¬ Kn = 1 ∧ ¬ Kn = 2 ∧ ¬ Kn = 3 ∧ ¬ Kn = 4 ∧ ¬ Kn = 5) := by omega
            rcases h with h | h | h | h | h | h
            · subst h; exact .inl ⟨rfl, rfl⟩
            · subst h; exact .inr (.inl ⟨rfl, rfl, rfl⟩)
            · subst h; exact .inr (.inr (.inl ⟨rfl, rfl, rfl, rfl⟩))
            · subst h; exact .inr (.inr (.inr (.inl ⟨rfl, rfl, rfl, rfl, rfl⟩)))
            · subst h; exact .inr (.inr (.inr (.inr (.inl ⟨rfl, rfl, rfl, rfl, rfl, rfl⟩))))
            · exact .inr (.inr (.inr (.inr (.inr ⟨h, by simp; omega, by simp; omega, by simp; omega, by simp; omega, by simp; omega⟩))))
          rcases hcs with ⟨hk, e1⟩ | ⟨hk, e1, e2⟩ | ⟨hk, e1, e2, e3⟩ | ⟨hk, e1, e2, e3, e4⟩ | ⟨hk, e1, e2, e3, e4, e5⟩ | ⟨hk, e1, e2, e3, e4, e5⟩
          all_goals
            have HKn := hid hk
            clear hk
          · -- 1
            have HRM := hid (show rrM o = (⟨(Kn : Int), U, ((at_ o 5 1 : Nat) : Int), (at_ o 6 4), 0, ((at_ o 10 4 : Nat) : Int), 0, 0, 0, 0, [], []⟩ : MsgS) from by have hk := HKn.out; unfold rrM; simp only; rw [HRR.out.2.1, ← HKU.out.2]; simp [hk])
            have hok : okL (at_ o 0 1 : Nat) o.length (at_ o 9 1) = decide (Ln = 9) := by rw [HRR.out.2.1, HRR.out.2.2]; unfold okL; simp only [HKn.out]; simp; try omega
            by_cases hL : Ln = 9
            · skip
              have HOK := hid (show okL (at_ o 0 1 : Nat) o.length (at_ o 9 1) = true from by rw [hok]; exact decide_eq_true hL)
              have hln : ((Ln : Int) != 9) = false := by rw [hL]; rfl
              have HLN := hid hL
              have hLge : 9 ≤ Ln := by omega
              clear hok hL
              obtain ⟨x0, x1, x2, x3, x4, x5, x6, x7, x8, x9, x10, x11⟩ := blk12 HM8.out.1
              have z := free12 HM8.out.1
              go_wp2_with fail
              refine (HNUM.out _ HM8.out.2 0 1 (by omega) (by omega)).mono ?_
              rintro e wn ⟨rfl, hwn⟩
              rw [hwn]
              clear hwn wn
              go_wp2_with fail
              obtain ⟨w9, hw9⟩ : ∃ W, W = w8.setCell ⟨g6, 2, none⟩ (.int .i64 ((at_ o 5 1 : Nat) : Int)) := ⟨_, rfl⟩
              rw [← hw9]
              have HM9 := hid (show w9.heap[g6]? = some (.cells #[.int .i64 (Kn : Int), .int .u32 (U : Int), .int .i64 ((at_ o 5 1 : Nat) : Int), .int .u32 0, .int .i64 0, .int .i64 0, .int .i64 0, .int .i64 0, .int .i64 0, .int .i64 0, .slice none 0 0, .slice none 0 0] 26 (0, 0)) ∧ Fr No w1 w9 from by rw [hw9]; exact ⟨st2 HM8.out.1 _, HM8.out.2.setCell (p := ⟨g6, 2, none⟩) (fun h => absurd h (Nat.not_lt.2 hgl)) _⟩)
              clear hw9
              clear x0 x1 x2 x3 x4 x5 x6 x7 x8 x9 x10 x11 z
              obtain ⟨x0, x1, x2, x3, x4, x5, x6, x7, x8, x9, x10, x11⟩ := blk12 HM9.out.1
              have z := free12 HM9.out.1
              go_wp2_with fail
              refine (HNUM.out _ HM9.out.2 1 4 (by omega) (by omega)).mono ?_
              rintro e wn ⟨rfl, hwn⟩
              rw [hwn]
              clear hwn wn
              go_wp2_with fail
              obtain ⟨w10, hw10⟩ : ∃ W, W = w9.setCell ⟨g6, 3, none⟩ (.int .u32 ((at_ o 6 4 : Nat) : Int)) := ⟨_, rfl⟩
              rw [← hw10]
              have HM10 := hid (show w10.heap[g6]? = some (.cells #[.int .i64 (Kn : Int), .int .u32 (U : Int), .int .i64 ((at_ o 5 1 : Nat) : Int), .int .u32 ((at_ o 6 4 : Nat) : Int), .int .i64 0, .int .i64 0, .int .i64 0, .int .i64 0, .int .i64 0, .int .i64 0, .slice none 0 0, .slice none 0 0] 26 (0, 0)) ∧ Fr No w1 w10 from by rw [hw10]; exact ⟨st3 HM9.out.1 _, HM9.out.2.setCell (p := ⟨g6, 3, none⟩) (fun h => absurd h (Nat.not_lt.2 hgl)) _⟩)
              clear hw10
              clear x0 x1 x2 x3 x4 x5 x6 x7 x8 x9 x10 x11 z
              obtain ⟨x0, x1, x2, x3, x4, x5, x6, x7, x8, x9, x10, x11⟩ := blk12 HM10.out.1
              have z := free12 HM10.out.1
              go_wp2_with fail
              refine (HNUM.out _ HM10.out.2 5 4 (by omega) (by omega)).mono ?_
              rintro e wn ⟨rfl, hwn⟩
              rw [hwn]
              clear hwn wn
              go_wp2_with fail
              obtain ⟨w11, hw11⟩ : ∃ W, W = w10.setCell ⟨g6, 5, none⟩ (.int .i64 ((at_ o 10 4 : Nat) : Int)) := ⟨_, rfl⟩
              rw [← hw11]
              have HM11 := hid (show w11.heap[g6]? = some (.cells #[.int .i64 (Kn : Int), .int .u32 (U : Int), .int .i64 ((at_ o 5 1 : Nat) : Int), .int .u32 ((at_ o 6 4 : Nat) : Int), .int .i64 0, .int .i64 ((at_ o 10 4 : Nat) : Int), .int .i64 0, .int .i64 0, .int .i64 0, .int .i64 0, .slice none 0 0, .slice none 0 0] 26 (0, 0)) ∧ Fr No w1 w11 from by rw [hw11]; exact ⟨st5 HM10.out.1 _, HM10.out.2.setCell (p := ⟨g6, 5, none⟩) (fun h => absurd h (Nat.not_lt.2 hgl)) _⟩)
              clear hw11
              clear x0 x1 x2 x3 x4 x5 x6 x7 x8 x9 x10 x11 z
              go_meet
              exact ⟨none, 0, 0, none, 0, 0, by rw [HRM.out]; exact HM11.out.1, RM.none (by rw [HRM.out]) (by rw [HRM.out]), HM11.out.2, HOK.out⟩
            · skip
              have hno : decide (Ln = 9) = false := decide_eq_false hL
              have HE := hid (show srdE bs = 3 ∧ srdM bs = zeroM from by rw [HE3.out.1, HE3.out.2]; unfold rrB; rw [hok, hno]; exact ⟨rfl, rfl⟩)
              have hln : ((Ln : Int) != 9) = true := by rw [bne_iff_ne]; omega
              clear hok hno hL
              have HV := hid (HG.out w8 HM8.out.2)
              obtain ⟨x0, x1, x2, x3, x4, x5, x6, x7, x8, x9, x10, x11⟩ := blk12 HV.out.1
              have z := free12 HV.out.1
              obtain ⟨y0, y1, y2, y3, y4, y5, y6, y7, y8, y9, y10, y11⟩ := blk12 HV.out.2.1
              go_wp2_with fail
              refine ret_cell2 rfl (g := g) rfl rfl (load_msg (set12 HV.out.1 _ _ _ _ _ _ _ _ _ _ _ _)) rfl ?_
              rw [HE.out.1, HE.out.2]
              exact ⟨none, 0, 0, none, 0, 0, rfl, RM.none rfl rfl, end_no (E := 0) HV.out.2.2 HGG.out.2 _ _ _ _ _ _ _ _ _ _ _ _⟩
          · -- 2
            have HRM := hid (show rrM o = (⟨(Kn : Int), U, ((at_ o 5 1 : Nat) : Int), (at_ o 6 4), ((at_ o 10 4 : Nat) : Int), ((at_ o 14 4 : Nat) : Int), ((at_ o 18 2 : Nat) : Int), 0, 0, 0, [], []⟩ : MsgS) from by have hk := HKn.out; unfold rrM; simp only; rw [HRR.out.2.1, ← HKU.out.2]; simp [hk])
            have hok : okL (at_ o 0 1 : Nat) o.length (at_ o 9 1) = decide (Ln = 15) := by rw [HRR.out.2.1, HRR.out.2.2]; unfold okL; simp only [HKn.out]; simp; try omega
            by_cases hL : Ln = 15
            · skip
              have HOK := hid (show okL (at_ o 0 1 : Nat) o.length (at_ o 9 1) = true from by rw [hok]; exact decide_eq_true hL)
              have hln : ((Ln : Int) != 15) = false := by rw [hL]; rfl
              have HLN := hid hL
              have hLge : 15 ≤ Ln := by omega
              clear hok hL
              obtain ⟨x0, x1, x2, x3, x4, x5, x6, x7, x8, x9, x10, x11⟩ := blk12 HM8.out.1
              have z := free12 HM8.out.1
              go_wp2_with fail
              refine (HNUM.out _ HM8.out.2 0 1 (by omega) (by omega)).mono ?_
              rintro e wn ⟨rfl, hwn⟩
              rw [hwn]
              clear hwn wn
              go_wp2_with fail
              obtain ⟨w9, hw9⟩ : ∃ W, W = w8.setCell ⟨g6, 2, none⟩ (.int .i64 ((at_ o 5 1 : Nat) : Int)) := ⟨_, rfl⟩
              rw [← hw9]
              have HM9 := hid (show w9.heap[g6]? = some (.cells #[.int .i64 (Kn : Int), .int .u32 (U : Int), .int .i64 ((at_ o 5 1 : Nat) : Int), .int .u32 0, .int .i64 0, .int .i64 0, .int .i64 0, .int .i64 0, .int .i64 0, .int .i64 0, .slice none 0 0, .slice none 0 0] 26 (0, 0)) ∧ Fr No w1 w9 from by rw [hw9]; exact ⟨st2 HM8.out.1 _, HM8.out.2.setCell (p := ⟨g6, 2, none⟩) (fun h => absurd h (Nat.not_lt.2 hgl)) _⟩)
              clear hw9
              clear x0 x1 x2 x3 x4 x5 x6 x7 x8 x9 x10 x11 z
              obtain ⟨x0, x1, x2, x3, x4, x5, x6, x7, x8, x9, x10, x11⟩ := blk12 HM9.out.1
              have z := free12 HM9.out.1
              go_wp2_with fail
              refine (HNUM.out _ HM9.out.2 1 4 (by omega) (by omega)).mono ?_
              rintro e wn ⟨rfl, hwn⟩
              rw [hwn]
              clear hwn wn
              go_wp2_with fail
              obtain ⟨w10, hw10⟩ : ∃ W, W = w9.setCell ⟨g6, 3, none⟩ (.int .u32 ((at_ o 6 4 : Nat) : Int)) := ⟨_, rfl⟩
              rw [← hw10]
              have HM10 := hid (show w10.heap[g6]? = some (.cells #[.int .i64 (Kn : Int), .int .u32 (U : Int), .int .i64 ((at_ o 5 1 : Nat) : Int), .int .u32 ((at_ o 6 4 : Nat) : Int), .int .i64 0, .int .i64 0, .int .i64 0, .int .i64 0, .int .i64 0, .int .i64 0, .slice none 0 0, .slice none 0 0] 26 (0, 0)) ∧ Fr No w1 w10 from by rw [hw10]; exact ⟨st3 HM9.out.1 _, HM9.out.2.setCell (p := ⟨g6, 3, none⟩) (fun h => absurd h (Nat.not_lt.2 hgl)) _⟩)
              clear hw10
              clear x0 x1 x2 x3 x4 x5 x6 x7 x8 x9 x10 x11 z
              obtain ⟨x0, x1, x2, x3, x4, x5, x6, x7, x8, x9, x10, x11⟩ := blk12 HM10.out.1
              have z := free12 HM10.out.1
              go_wp2_with fail
              refine (HNUM.out _ HM10.out.2 5 4 (by omega) (by omega)).mono ?_
              rintro e wn ⟨rfl, hwn⟩
              rw [hwn]
              clear hwn wn
              go_wp2_with fail
              obtain ⟨w11, hw11⟩ : ∃ W, W = w10.setCell ⟨g6, 4, none⟩ (.int .i64 ((at_ o 10 4 : Nat) : Int)) := ⟨_, rfl⟩
              rw [← hw11]
              have HM11 := hid (show w11.heap[g6]? = some (.cells #[.int .i64 (Kn : Int), .int .u32 (U : Int), .int .i64 ((at_ o 5 1 : Nat) : Int), .int .u32 ((at_ o 6 4 : Nat) : Int), .int .i64 ((at_ o 10 4 : Nat) : Int), .int .i64 0, .int .i64 0, .int .i64 0, .int .i64 0, .int .i64 0, .slice none 0 0, .slice none 0 0] 26 (0, 0)) ∧ Fr No w1 w11 from by rw [hw11]; exact ⟨st4 HM10.out.1 _, HM10.out.2.setCell (p := ⟨g6, 4, none⟩) (fun h => absurd h (Nat.not_lt.2 hgl)) _⟩)
              clear hw11
              clear x0 x1 x2 x3 x4 x5 x6 x7 x8 x9 x10 x11 z
              obtain ⟨x0, x1, x2, x3, x4, x5, x6, x7, x8, x9, x10, x11⟩ := blk12 HM11.out.1
              have z := free12 HM11.out.1
              go_wp2_with fail
              refine (HNUM.out _ HM11.out.2 9 4 (by omega) (by omega)).mono ?_
              rintro e wn ⟨rfl, hwn⟩
              rw [hwn]
              clear hwn wn
              go_wp2_with fail
              obtain ⟨w12, hw12⟩ : ∃ W, W = w11.setCell ⟨g6, 5, none⟩ (.int .i64 ((at_ o 14 4 : Nat) : Int)) := ⟨_, rfl⟩
              rw [← hw12]
              have HM12 := hid (show w12.heap[g6]? = some (.cells #[.int .i64 (Kn : Int), .int .u32 (U : Int), .int .i64 ((at_ o 5 1 : Nat) : Int), .int .u32 ((at_ o 6 4 : Nat) : Int), .int .i64 ((at_ o 10 4 : Nat) : Int), .int .i64 ((at_ o 14 4 : Nat) : Int), .int .i64 0, .int .i64 0, .int .i64 0, .int .i64 0, .slice none 0 0, .slice none 0 0] 26 (0, 0)) ∧ Fr No w1 w12 from by rw [hw12]; exact ⟨st5 HM11.out.1 _, HM11.out.2.setCell (p := ⟨g6, 5, none⟩) (fun h => absurd h (Nat.not_lt.2 hgl)) _⟩)
              clear hw12
              clear x0 x1 x2 x3 x4 x5 x6 x7 x8 x9 x10 x11 z
              obtain ⟨x0, x1, x2, x3, x4, x5, x6, x7, x8, x9, x10, x11⟩ := blk12 HM12.out.1
              have z := free12 HM12.out.1
              go_wp2_with fail
              refine (HNUM.out _ HM12.out.2 13 2 (by omega) (by omega)).mono ?_
              rintro e wn ⟨rfl, hwn⟩
              rw [hwn]
              clear hwn wn
              go_wp2_with fail
              obtain ⟨w13, hw13⟩ : ∃ W, W = w12.setCell ⟨g6, 6, none⟩ (.int .i64 ((at_ o 18 2 : Nat) : Int)) := ⟨_, rfl⟩
              rw [← hw13]
              have HM13 := hid (show w13.heap[g6]? = some (.cells #[.int .i64 (Kn : Int), .int .u32 (U : Int), .int .i64 ((at_ o 5 1 : Nat) : Int), .int .u32 ((at_ o 6 4 : Nat) : Int), .int .i64 ((at_ o 10 4 : Nat) : Int), .int .i64 ((at_ o 14 4 : Nat) : Int), .int .i64 ((at_ o 18 2 : Nat) : Int), .int .i64 0, .int .i64 0, .int .i64 0, .slice none 0 0, .slice none 0 0] 26 (0, 0)) ∧ Fr No w1 w13 from by rw [hw13]; exact ⟨st6 HM12.out.1 _, HM12.out.2.setCell (p := ⟨g6, 6, none⟩) (fun h => absurd h (Nat.not_lt.2 hgl)) _⟩)
              clear hw13
              clear x0 x1 x2 x3 x4 x5 x6 x7 x8 x9 x10 x11 z
              go_meet
              exact ⟨none, 0, 0, none, 0, 0, by rw [HRM.out]; exact HM13.out.1, RM.none (by rw [HRM.out]) (by rw [HRM.out]), HM13.out.2, HOK.out⟩
            · skip
              have hno : decide (Ln = 15) = false := decide_eq_false hL
              have HE := hid (show srdE bs = 3 ∧ srdM bs = zeroM from by rw [HE3.out.1, HE3.out.2]; unfold rrB; rw [hok, hno]; exact ⟨rfl, rfl⟩)
              have hln : ((Ln : Int) != 15) = true := by rw [bne_iff_ne]; omega
              clear hok hno hL
              have HV := hid (HG.out w8 HM8.out.2)
              obtain ⟨x0, x1, x2, x3, x4, x5, x6, x7, x8, x9, x10, x11⟩ := blk12 HV.out.1
              have z := free12 HV.out.1
              obtain ⟨y0, y1, y2, y3, y4, y5, y6, y7, y8, y9, y10, y11⟩ := blk12 HV.out.2.1
              go_wp2_with fail
              refine ret_cell2 rfl (g := g) rfl rfl (load_msg (set12 HV.out.1 _ _ _ _ _ _ _ _ _ _ _ _)) rfl ?_
              rw [HE.out.1, HE.out.2]
              exact ⟨none, 0, 0, none, 0, 0, rfl, RM.none rfl rfl, end_no (E := 0) HV.out.2.2 HGG.out.2 _ _ _ _ _ _ _ _ _ _ _ _⟩
          · -- 3
            have HRM := hid (show rrM o = (⟨(Kn : Int), U, 0, 0, 0, 0, 0, ((at_ o 5 4 : Nat) : Int), ((at_ o 9 1 : Nat) : Int), 0, [], o.drop 10⟩ : MsgS) from by have hk := HKn.out; unfold rrM; simp only; rw [HRR.out.2.1, ← HKU.out.2]; simp [hk])
            have hok : okL (at_ o 0 1 : Nat) o.length (at_ o 9 1) = decide (5 ≤ Ln) := by rw [HRR.out.2.1, HRR.out.2.2]; unfold okL; simp only [HKn.out]; simp; try omega
            by_cases hL : 5 ≤ Ln
            · skip
              have HOK := hid (show okL (at_ o 0 1 : Nat) o.length (at_ o 9 1) = true from by rw [hok]; exact decide_eq_true hL)
              have hln : ¬ ((Ln : Int) < 5) := by omega
              have hcut5 := cut_l slU8 A8 Ln c8 5 5 rfl (by omega)
              have HD5 := hid (show (o.drop 10).length = Ln - 5 ∧ ∀ W, Fr No w1 W → Rd B W (cutA A8 c8 5 1) (o.drop 10) from ⟨by rw [List.length_drop, HRR.out.2.2]; omega, fun W hf => by have h := (HP8.out.2 W hf).cutA 5 c8 (by rw [HP8.out.1]; exact HC8.out) (by rw [HP8.out.1]; omega); rw [List.drop_drop] at h; exact h⟩)
              clear hok
              obtain ⟨x0, x1, x2, x3, x4, x5, x6, x7, x8, x9, x10, x11⟩ := blk12 HM8.out.1
              have z := free12 HM8.out.1
              go_wp2_with fail
              refine (HNUM.out _ HM8.out.2 0 4 (by omega) (by omega)).mono ?_
              rintro e wn ⟨rfl, hwn⟩
              rw [hwn]
              clear hwn wn
              go_wp2_with fail
              obtain ⟨w9, hw9⟩ : ∃ W, W = w8.setCell ⟨g6, 7, none⟩ (.int .i64 ((at_ o 5 4 : Nat) : Int)) := ⟨_, rfl⟩
              rw [← hw9]
              have HM9 := hid (show w9.heap[g6]? = some (.cells #[.int .i64 (Kn : Int), .int .u32 (U : Int), .int .i64 0, .int .u32 0, .int .i64 0, .int .i64 0, .int .i64 0, .int .i64 ((at_ o 5 4 : Nat) : Int), .int .i64 0, .int .i64 0, .slice none 0 0, .slice none 0 0] 26 (0, 0)) ∧ Fr No w1 w9 from by rw [hw9]; exact ⟨st7 HM8.out.1 _, HM8.out.2.setCell (p := ⟨g6, 7, none⟩) (fun h => absurd h (Nat.not_lt.2 hgl)) _⟩)
              clear hw9
              clear x0 x1 x2 x3 x4 x5 x6 x7 x8 x9 x10 x11 z
              obtain ⟨x0, x1, x2, x3, x4, x5, x6, x7, x8, x9, x10, x11⟩ := blk12 HM9.out.1
              have z := free12 HM9.out.1
              go_wp2_with fail
              refine (HNUM.out _ HM9.out.2 4 1 (by omega) (by omega)).mono ?_
              rintro e wn ⟨rfl, hwn⟩
              rw [hwn]
              clear hwn wn
              go_upto_region 29 with fail
              obtain ⟨w10, hw10⟩ : ∃ W, W = w9.setCell ⟨g6, 8, none⟩ (.int .i64 ((at_ o 9 1 : Nat) : Int)) := ⟨_, rfl⟩
              rw [← hw10]
              have HM10 := hid (show w10.heap[g6]? = some (.cells #[.int .i64 (Kn : Int), .int .u32 (U : Int), .int .i64 0, .int .u32 0, .int .i64 0, .int .i64 0, .int .i64 0, .int .i64 ((at_ o 5 4 : Nat) : Int), .int .i64 ((at_ o 9 1 : Nat) : Int), .int .i64 0, .slice none 0 0, .slice none 0 0] 26 (0, 0)) ∧ Fr No w1 w10 from by rw [hw10]; exact ⟨st8 HM9.out.1 _, HM9.out.2.setCell (p := ⟨g6, 8, none⟩) (fun h => absurd h (Nat.not_lt.2 hgl)) _⟩)
              clear hw10
              clear x0 x1 x2 x3 x4 x5 x6 x7 x8 x9 x10 x11 z
              obtain ⟨x0, x1, x2, x3, x4, x5, x6, x7, x8, x9, x10, x11⟩ := blk12 HM10.out.1
              have z := free12 HM10.out.1
              go_wp2_with (at_builtin; refine wpList_app slU8 rfl (.tmp 91) (.tmp 93) rfl rfl (Row.new w10 1 0 [] _ rfl (by omega)) rfl (by rw [List.length_map, HD5.out.1]; omega) (Rd.cells.1 ((HD5.out.2 _ HM10.out.2).alloc _)) (oneB _) (by omega) (by omega) ?_; intro A9 c9 wa ob9 hv9 hf9 hob9; simp only [Nat.zero_add, List.nil_append] at hv9 ⊢; have hb9 := (hf9.block g6 (by rw [World.size_alloc]; have := (Array.getElem?_eq_some_iff.1 HM10.out.1).1; omega) (fun e => by injection e with e; have := (Array.getElem?_eq_some_iff.1 HM10.out.1).1; omega)).trans ((((Fr.refl No w10).alloc (.cells #[] 5)).block g6 (Array.getElem?_eq_some_iff.1 HM10.out.1).1 (fun h => h)).trans HM10.out.1); have s11 := (blk12 hb9).2.2.2.2.2.2.2.2.2.2.2; have f11 : wa.frozen? ⟨g6, 11, none⟩ = false := free12 hb9 11)
              go_meet
              have hk9 := some_le (m := w10.heap.size) (hob9.imp id (fun ⟨k, a, b⟩ => ⟨k, a, by simp at b; omega⟩)) (Nat.le_refl _)
              have hfa : Fr No w1 wa := HM10.out.2.then (((Fr.refl No w10).alloc _).fresh hf9 (fun k e => by injection e with e; omega))
              have hszw : w1.heap.size ≤ w10.heap.size ∧ g6 < w10.heap.size := ⟨HM10.out.2.size, (Array.getElem?_eq_some_iff.1 HM10.out.1).1⟩
              refine ⟨none, 0, 0, A9, Ln - 5, c9, by rw [HRM.out]; exact st11 hb9 _, ?_, hfa.setCell (p := ⟨g6, 11, none⟩) (fun h => absurd h (Nat.not_lt.2 hgl)) _, HOK.out⟩
              rw [HRM.out]
              have hfs : Fr (HK.One g6) wa (wa.setCell ⟨g6, 11, none⟩ (.slice A9 (Ln - 5) c9)) := Fr.set1 wa g6 11 _
              have hdd := hv9.rd
              exact ⟨rfl, hdd.2.2.2, fun h => by simp [rngC] at h, hdd.1.fr hfs (fun ad e h => by have h1 := hk9 _ (hdd.2.2.1 ad e); have h2 : ad.block = g6 := h; omega), Nat.le_refl _, hdd.2.1, fun _ h => by (cases h), fun ad e => by have h1 := hk9 _ (hdd.2.2.1 ad e); omega⟩
            · skip
              have hno : decide (5 ≤ Ln) = false := decide_eq_false hL
              have HE := hid (show srdE bs = 3 ∧ srdM bs = zeroM from by rw [HE3.out.1, HE3.out.2]; unfold rrB; rw [hok, hno]; exact ⟨rfl, rfl⟩)
              have hln : (Ln : Int) < 5 := by omega
              clear hok hno
              have HV := hid (HG.out w8 HM8.out.2)
              obtain ⟨x0, x1, x2, x3, x4, x5, x6, x7, x8, x9, x10, x11⟩ := blk12 HV.out.1
              have z := free12 HV.out.1
              obtain ⟨y0, y1, y2, y3, y4, y5, y6, y7, y8, y9, y10, y11⟩ := blk12 HV.out.2.1
              go_wp2_with fail
              refine ret_cell2 rfl (g := g) rfl rfl (load_msg (set12 HV.out.1 _ _ _ _ _ _ _ _ _ _ _ _)) rfl ?_
              rw [HE.out.1, HE.out.2]
              exact ⟨none, 0, 0, none, 0, 0, rfl, RM.none rfl rfl, end_no (E := 0) HV.out.2.2 HGG.out.2 _ _ _ _ _ _ _ _ _ _ _ _⟩
          · -- 4
            have HRM := hid (show rrM o = (⟨(Kn : Int), U, 0, 0, 0, 0, 0, ((at_ o 5 4 : Nat) : Int), 0, 0, pairsAt o 10 (at_ o 9 1), []⟩ : MsgS) from by have hk := HKn.out; unfold rrM; simp only; rw [HRR.out.2.1, ← HKU.out.2]; simp [hk])
            have hok : okL (at_ o 0 1 : Nat) o.length (at_ o 9 1) = decide (Ln = 5 + 8 * at_ o 9 1) := by rw [HRR.out.2.1, HRR.out.2.2]; unfold okL; simp only [HKn.out]; simp; try omega
            obtain ⟨cn, hcn⟩ : ∃ q, q = at_ o 9 1 := ⟨_, rfl⟩
            have hcb : cn < 256 := by rw [hcn]; exact at_lt o 9 1
            by_cases hL5 : Ln < 5
            · skip
              have hno : decide (Ln = 5 + 8 * at_ o 9 1) = false := decide_eq_false (by omega)
              have HE := hid (show srdE bs = 3 ∧ srdM bs = zeroM from by rw [HE3.out.1, HE3.out.2]; unfold rrB; rw [hok, hno]; exact ⟨rfl, rfl⟩)
              have hln : (Ln : Int) < 5 := by omega
              clear hok hno hcn
              have HV := hid (HG.out w8 HM8.out.2)
              obtain ⟨x0, x1, x2, x3, x4, x5, x6, x7, x8, x9, x10, x11⟩ := blk12 HV.out.1
              have z := free12 HV.out.1
              obtain ⟨y0, y1, y2, y3, y4, y5, y6, y7, y8, y9, y10, y11⟩ := blk12 HV.out.2.1
              go_wp2_with fail
              refine ret_cell2 rfl (g := g) rfl rfl (load_msg (set12 HV.out.1 _ _ _ _ _ _ _ _ _ _ _ _)) rfl ?_
              rw [HE.out.1, HE.out.2]
              exact ⟨none, 0, 0, none, 0, 0, rfl, RM.none rfl rfl, end_no (E := 0) HV.out.2.2 HGG.out.2 _ _ _ _ _ _ _ _ _ _ _ _⟩
            · skip
              have hln5 : ¬ ((Ln : Int) < 5) := by omega
              by_cases hL : Ln = 5 + 8 * cn
              · skip
                have HOK := hid (show okL (at_ o 0 1 : Nat) o.length (at_ o 9 1) = true from by rw [hok, ← hcn]; exact decide_eq_true hL)
                have hln : ((Ln : Int) != 5 + 8 * (cn : Int)) = false := by rw [hL]; simp
                have hL1 : Ln ≤ 5 + 8 * cn := by omega
                have hL2 : 5 + 8 * cn ≤ Ln := by omega
                have HCN := hid hcn
                clear hok hL hcn
                obtain ⟨x0, x1, x2, x3, x4, x5, x6, x7, x8, x9, x10, x11⟩ := blk12 HM8.out.1
                have z := free12 HM8.out.1
                go_wp2_with fail
                refine (HNUM.out _ HM8.out.2 4 1 (by omega) (by omega)).mono ?_
                rintro e wn ⟨rfl, hwn⟩
                rw [hwn]
                clear hwn wn
                rw [show ((at_ o 9 1 : Nat) : Int) = (cn : Int) from by rw [HCN.out]]
                go_wp2_with fail
                refine (HNUM.out _ HM8.out.2 0 4 (by omega) (by omega)).mono ?_
                rintro e wn ⟨rfl, hwn⟩
                rw [hwn]
                clear hwn wn
                go_wp2_with fail
                obtain ⟨w9, hw9⟩ : ∃ W, W = w8.setCell ⟨g6, 7, none⟩ (.int .i64 ((at_ o 5 4 : Nat) : Int)) := ⟨_, rfl⟩
                rw [← hw9]
                have HM9 := hid (show w9.heap[g6]? = some (.cells #[.int .i64 (Kn : Int), .int .u32 (U : Int), .int .i64 0, .int .u32 0, .int .i64 0, .int .i64 0, .int .i64 0, .int .i64 ((at_ o 5 4 : Nat) : Int), .int .i64 0, .int .i64 0, .slice none 0 0, .slice none 0 0] 26 (0, 0)) ∧ Fr No w1 w9 from by rw [hw9]; exact ⟨st7 HM8.out.1 _, HM8.out.2.setCell (p := ⟨g6, 7, none⟩) (fun h => absurd h (Nat.not_lt.2 hgl)) _⟩)
                clear hw9
                clear x0 x1 x2 x3 x4 x5 x6 x7 x8 x9 x10 x11 z
                go_loopw [7] (fun i wr => ∃ (j rc : Nat) (rA : Option Addr) (ob : Option Nat), j ≤ cn ∧ i = .int .i64 (5 + 8 * (j : Int)) ∧ Hid (wr.heap[g6]? = some (.cells #[.int .i64 (Kn : Int), .int .u32 (U : Int), .int .i64 0, .int .u32 0, .int .i64 0, .int .i64 0, .int .i64 0, .int .i64 ((at_ o 5 4 : Nat) : Int), .int .i64 0, .int .i64 0, .slice rA j rc, .slice none 0 0] 26 (0, 0)) ∧ Fr No w1 wr ∧ Row wr 2 (.slice rA j rc) ob j (rngC (pairsAt o 10 j)) ∧ (∀ k, ob = some k → w1.heap.size ≤ k ∧ k ≠ g6))) (fun i _ => 5 + 8 * cn - (intOf i).toNat)
                case atStart => exact ⟨0, 0, none, none, by omega, rfl, HM9.out.1, HM9.out.2, Row.nil _ _, fun k h => by (cases h)⟩
                case round =>
                  obtain ⟨j, rc, rA, ob, hj, rfl, HL⟩ := hrel
                  by_cases hlt : j < cn
                  · have hlt2 : (5 : Int) + 8 * (j : Int) < (Ln : Int) := by omega
                    have hwr9 : (5 : Int) + 8 * (j : Int) + 4 = 9 + 8 * (j : Int) := by omega
                    have hw9w : IntKind.i64.wrap (9 + 8 * (j : Int)) = 9 + 8 * (j : Int) := w64 _ (by omega) (by omega)
                    obtain ⟨a, ha⟩ : ∃ a, a = at_ o (10 + 8 * j) 4 := ⟨_, rfl⟩
                    obtain ⟨b, hb⟩ : ∃ b, b = at_ o (10 + 8 * j + 4) 4 := ⟨_, rfl⟩
                    have HNP := hid (show pairsAt o 10 (j + 1) = pairsAt o 10 j ++ [((a : Int), (b : Int))] from by rw [ha, hb]; rfl)
                    have hn1 : ∀ W, Fr No w1 W → Calls Try.prog 35 #[.slice A8 Ln c8, .int .i64 (5 + 8 * (j : Int)), .int .i64 4] W fun e w' => e = .returned (.int .i64 (a : Int)) ∧ w' = W := fun W hf => by
                      have h := HNUM.out W hf (5 + 8 * j) 4 (by omega) (by omega)
                      rw [show 5 + (5 + 8 * j) = 10 + 8 * j by omega, ← ha] at h
                      rw [show (5 : Int) + 8 * (j : Int) = ((5 + 8 * j : Nat) : Int) by omega]
                      exact h
                    have hn2 : ∀ W, Fr No w1 W → Calls Try.prog 35 #[.slice A8 Ln c8, .int .i64 (9 + 8 * (j : Int)), .int .i64 4] W fun e w' => e = .returned (.int .i64 (b : Int)) ∧ w' = W := fun W hf => by
                      have h := HNUM.out W hf (9 + 8 * j) 4 (by omega) (by omega)
                      rw [show 5 + (9 + 8 * j) = 10 + 8 * j + 4 by omega, ← hb] at h
                      rw [show (9 : Int) + 8 * (j : Int) = ((9 + 8 * j : Nat) : Int) by omega]
                      exact h
                    have HN1 := hid hn1
                    have HN2 := hid hn2
                    clear ha hb hn1 hn2
                    go_upto_region 37 with fail
                    have HL0 := hid HL.out.1
                    have HF0 := hid (show Fr No w1 wr.drew from HL.out.2.1.drew)
                    refine wp_region_held_drew (S := (fun _ => True)) (by kernel_rfl) trivial (fun hHeld => ?_)
                    refine takeD (i := 0) (d := some 120) (v := .pointer (some ⟨g6, 10, none⟩)) rfl rfl (by kernel_rfl) (by kernel_rfl) (by kernel_rfl) (fun _ _ _ h => h) (by rfl) ?_ (by first | assumption | trivial) ?_
                    · intro w' hSw
                      (try dsimp only at hSw)
                      go_simp
                      first | done | rfl
                    (try simp only [Act.put, List.setIfInBounds_toArray, List.set_cons_zero, List.set_cons_succ])
                    refine takeD (i := 2) (d := some 122) (v := .slice A8 Ln c8) rfl rfl (by kernel_rfl) (by kernel_rfl) (by kernel_rfl) (fun _ _ _ h => h) (by rfl) ?_ (by first | assumption | trivial) ?_
                    · intro w' hSw
                      (try dsimp only at hSw)
                      go_simp
                      first | done | rfl
                    (try simp only [Act.put, List.setIfInBounds_toArray, List.set_cons_zero, List.set_cons_succ])
                    refine takeD (i := 3) (d := some 123) (v := .int .i64 (5 + 8 * (j : Int))) rfl rfl (by kernel_rfl) (by kernel_rfl) (by kernel_rfl) (fun _ _ _ h => h) (by rfl) ?_ (by first | assumption | trivial) ?_
                    · intro w' hSw
                      (try dsimp only at hSw)
                      go_simp
                      first | done | rfl
                    (try simp only [Act.put, List.setIfInBounds_toArray, List.set_cons_zero, List.set_cons_succ])
                    refine takeD (i := 5) (d := some 125) (v := .slice A8 Ln c8) rfl rfl (by kernel_rfl) (by kernel_rfl) (by kernel_rfl) (fun _ _ _ h => h) (by rfl) ?_ (by first | assumption | trivial) ?_
                    · intro w' hSw
                      (try dsimp only at hSw)
                      go_simp
                      first | done | rfl
                    (try simp only [Act.put, List.setIfInBounds_toArray, List.set_cons_zero, List.set_cons_succ])
                    refine takeD (i := 6) (d := some 126) (v := .int .i64 (5 + 8 * (j : Int))) rfl rfl (by kernel_rfl) (by kernel_rfl) (by kernel_rfl) (fun _ _ _ h => h) (by rfl) ?_ (by first | assumption | trivial) ?_
                    · intro w' hSw
                      (try dsimp only at hSw)
                      go_simp
                      first | done | rfl
                    (try simp only [Act.put, List.setIfInBounds_toArray, List.set_cons_zero, List.set_cons_succ])
                    refine takeD (i := 7) (d := some 127) (v := .int .i64 (9 + 8 * (j : Int))) rfl rfl (by kernel_rfl) (by kernel_rfl) (by kernel_rfl) (fun _ _ _ h => h) (by rfl) ?_ (by first | assumption | trivial) ?_
                    · intro w' hSw
                      (try dsimp only at hSw)
                      go_simp
                      first | done | rfl
                    (try simp only [Act.put, List.setIfInBounds_toArray, List.set_cons_zero, List.set_cons_succ])
                    refine wpAnyH_ready (rs := [1, 4]) (by kernel_rfl) (by simp) (AllReadyH.cons rfl (fun KK hK => ?_) (AllReadyH.cons rfl (fun KK hK => ?_) AllReadyH.nil))
                    · skip
                      have x10 : wr.drew.cell? ⟨g6, 10, none⟩ = some (.slice rA j rc) := (blk12 HL0.out).2.2.2.2.2.2.2.2.2.2.1
                      go_simp
                      clear x10
                      refine hK.out _ _ trivial (fun hHeld => ?_)
                      clear hK KK
                      (try simp only [Act.put, List.setIfInBounds_toArray, List.set_cons_zero, List.set_cons_succ])
                      refine oneD (i := 4) (by kernel_rfl) rfl (fun KK hK => ?_)
                      go_simp
                      go_at_call 35
                      refine (HN1.out _ HF0.out).mono ?_
                      rintro e wn ⟨rfl, hwn⟩
                      rw [hwn]
                      clear hwn wn
                      refine hK.out _ _ trivial (fun hHeld => ?_)
                      clear hK KK
                      (try simp only [Act.put, List.setIfInBounds_toArray, List.set_cons_zero, List.set_cons_succ])
                      refine oneD (i := 8) (by kernel_rfl) rfl (fun KK hK => ?_)
                      go_simp
                      go_at_call 35
                      refine (HN2.out _ HF0.out).mono ?_
                      rintro e wn ⟨rfl, hwn⟩
                      rw [hwn]
                      clear hwn wn
                      refine hK.out _ _ trivial (fun hHeld => ?_)
                      clear hK KK
                      (try simp only [Act.put, List.setIfInBounds_toArray, List.set_cons_zero, List.set_cons_succ])
                      refine takeD (i := 9) (d := some 129) (v := .agg #[.int .i64 (a : Int), .int .i64 (b : Int)]) rfl rfl (by kernel_rfl) (by kernel_rfl) (by kernel_rfl) (fun _ _ _ h => h) (by rfl) ?_ (by first | assumption | trivial) ?_
                      · intro w' hSw
                        (try dsimp only at hSw)
                        go_simp
                        first | done | rfl
                      (try simp only [Act.put, List.setIfInBounds_toArray, List.set_cons_zero, List.set_cons_succ])
                      refine oneD (i := 10) (by kernel_rfl) rfl (fun KK hK => ?_)
                      go_simp
                      refine hK.out _ _ trivial (fun hHeld => ?_)
                      clear hK KK
                      (try simp only [Act.put, List.setIfInBounds_toArray, List.set_cons_zero, List.set_cons_succ])
                      have hgw : g6 < wr.drew.heap.size := (Array.getElem?_eq_some_iff.1 HL0.out).1
                      refine oneD (i := 11) (by kernel_rfl) rfl (fun KK hK => ?_)
                      refine step_app slRg rfl (.tmp 121) (.tmp 130) rfl rfl (HL.out.2.2.1.fr (S := No) (((Fr.refl No wr).drew).alloc (.cells #[.int .i64 (a : Int), .int .i64 (b : Int)] 53)) (fun _ _ h => h)) rfl (show ([.int .i64 (a : Int), .int .i64 (b : Int)] : List Value).length = 1 * 2 from rfl) (cells_new wr.drew [.int .i64 (a : Int), .int .i64 (b : Int)] 53) (by simp [Value.oneCell']) (by omega) (by omega) ?_
                      intro Ap cp wp obp hvp hfp hobp
                      have hbp := (hfp.block g6 (by simp only [World.size_alloc, World.size_drew] at hgw ⊢; omega) (fun e => (HL.out.2.2.2 g6 e.symm).2 rfl)).trans ((((Fr.refl No wr.drew).alloc (.cells #[.int .i64 (a : Int), .int .i64 (b : Int)] 53)).block g6 hgw (fun h => h)).trans HL0.out)
                      have HBP := hid hbp
                      obtain ⟨x0, x1, x2, x3, x4, x5, x6, x7, x8, x9, x10, x11⟩ := blk12 hbp
                      have z := free12 hbp
                      clear hbp
                      refine hK.out _ _ trivial (fun hHeld => ?_)
                      clear hK KK
                      (try simp only [Act.put, List.setIfInBounds_toArray, List.set_cons_zero, List.set_cons_succ])
                      refine takeD (i := 12) (d := some 132) (v := .pointer (some ⟨g6, 10, none⟩)) rfl rfl (by kernel_rfl) (by kernel_rfl) (by kernel_rfl) (fun _ _ _ h => h) (by rfl) ?_ (by first | assumption | trivial) ?_
                      · intro w' hSw
                        (try dsimp only at hSw)
                        go_simp
                        first | done | rfl
                      (try simp only [Act.put, List.setIfInBounds_toArray, List.set_cons_zero, List.set_cons_succ])
                      refine oneD (i := 13) (by kernel_rfl) rfl (fun KK hK => ?_)
                      go_simp
                      refine hK.out _ _ trivial (fun hHeld => ?_)
                      clear hK KK
                      (try simp only [Act.put, List.setIfInBounds_toArray, List.set_cons_zero, List.set_cons_succ])
                      refine wpAnyH_done (by kernel_rfl) ?_ _
                      clear hHeld
                      go_wp2_with fail
                      go_roundw
                      case rel =>
                        have hfw : Fr No w1 wp := (HF0.out.alloc _).fresh hfp (fun k e => (HL.out.2.2.2 k e).1)
                        have hs0 : w1.heap.size ≤ wr.drew.heap.size := HF0.out.size
                        have hobq : ∀ k, obp = some k → w1.heap.size ≤ k ∧ k ≠ g6 := fun k hk => by
                          rcases hobp with e | ⟨q, e, hq⟩
                          · exact HL.out.2.2.2 k (by rw [← e]; exact hk)
                          · rw [e] at hk; injection hk with hk; simp only [World.size_alloc, World.size_drew] at hq hs0; have := HF0.out.size; have hgq := (Array.getElem?_eq_some_iff.1 HL.out.1).1; simp only [World.size_drew] at this; omega
                        refine ⟨j + 1, cp, Ap, obp, by omega, by go_num, st10 HBP.out _, hfw.setCell (p := ⟨g6, 10, none⟩) (fun h => absurd h (Nat.not_lt.2 hgl)) _, ?_, hobq⟩
                        rw [HNP.out, rngC_append]
                        exact hvp.fr (Fr.set1 wp g6 10 _) (fun k hk e => by have e : k = g6 := e; exact (hobq k hk).2 e)
                      case measure => simp [intOf] <;> omega
                    · skip
                      go_simp
                      go_at_call 35
                      refine (HN1.out _ HF0.out).mono ?_
                      rintro e wn ⟨rfl, hwn⟩
                      rw [hwn]
                      clear hwn wn
                      refine hK.out _ _ trivial (fun hHeld => ?_)
                      clear hK KK
                      (try simp only [Act.put, List.setIfInBounds_toArray, List.set_cons_zero, List.set_cons_succ])
                      refine wpAnyH_ready (rs := [1, 8]) (by kernel_rfl) (by simp) (AllReadyH.cons rfl (fun KK hK => ?_) (AllReadyH.cons rfl (fun KK hK => ?_) AllReadyH.nil))
                      · skip
                        have x10 : wr.drew.cell? ⟨g6, 10, none⟩ = some (.slice rA j rc) := (blk12 HL0.out).2.2.2.2.2.2.2.2.2.2.1
                        go_simp
                        clear x10
                        refine hK.out _ _ trivial (fun hHeld => ?_)
                        clear hK KK
                        (try simp only [Act.put, List.setIfInBounds_toArray, List.set_cons_zero, List.set_cons_succ])
                        refine oneD (i := 8) (by kernel_rfl) rfl (fun KK hK => ?_)
                        go_simp
                        go_at_call 35
                        refine (HN2.out _ HF0.out).mono ?_
                        rintro e wn ⟨rfl, hwn⟩
                        rw [hwn]
                        clear hwn wn
                        refine hK.out _ _ trivial (fun hHeld => ?_)
                        clear hK KK
                        (try simp only [Act.put, List.setIfInBounds_toArray, List.set_cons_zero, List.set_cons_succ])
                        refine takeD (i := 9) (d := some 129) (v := .agg #[.int .i64 (a : Int), .int .i64 (b : Int)]) rfl rfl (by kernel_rfl) (by kernel_rfl) (by kernel_rfl) (fun _ _ _ h => h) (by rfl) ?_ (by first | assumption | trivial) ?_
                        · intro w' hSw
                          (try dsimp only at hSw)
                          go_simp
                          first | done | rfl
                        (try simp only [Act.put, List.setIfInBounds_toArray, List.set_cons_zero, List.set_cons_succ])
                        refine oneD (i := 10) (by kernel_rfl) rfl (fun KK hK => ?_)
                        go_simp
                        refine hK.out _ _ trivial (fun hHeld => ?_)
                        clear hK KK
                        (try simp only [Act.put, List.setIfInBounds_toArray, List.set_cons_zero, List.set_cons_succ])
                        have hgw : g6 < wr.drew.heap.size := (Array.getElem?_eq_some_iff.1 HL0.out).1
                        refine oneD (i := 11) (by kernel_rfl) rfl (fun KK hK => ?_)
                        refine step_app slRg rfl (.tmp 121) (.tmp 130) rfl rfl (HL.out.2.2.1.fr (S := No) (((Fr.refl No wr).drew).alloc (.cells #[.int .i64 (a : Int), .int .i64 (b : Int)] 53)) (fun _ _ h => h)) rfl (show ([.int .i64 (a : Int), .int .i64 (b : Int)] : List Value).length = 1 * 2 from rfl) (cells_new wr.drew [.int .i64 (a : Int), .int .i64 (b : Int)] 53) (by simp [Value.oneCell']) (by omega) (by omega) ?_
                        intro Ap cp wp obp hvp hfp hobp
                        have hbp := (hfp.block g6 (by simp only [World.size_alloc, World.size_drew] at hgw ⊢; omega) (fun e => (HL.out.2.2.2 g6 e.symm).2 rfl)).trans ((((Fr.refl No wr.drew).alloc (.cells #[.int .i64 (a : Int), .int .i64 (b : Int)] 53)).block g6 hgw (fun h => h)).trans HL0.out)
                        have HBP := hid hbp
                        obtain ⟨x0, x1, x2, x3, x4, x5, x6, x7, x8, x9, x10, x11⟩ := blk12 hbp
                        have z := free12 hbp
                        clear hbp
                        refine hK.out _ _ trivial (fun hHeld => ?_)
                        clear hK KK
                        (try simp only [Act.put, List.setIfInBounds_toArray, List.set_cons_zero, List.set_cons_succ])
                        refine takeD (i := 12) (d := some 132) (v := .pointer (some ⟨g6, 10, none⟩)) rfl rfl (by kernel_rfl) (by kernel_rfl) (by kernel_rfl) (fun _ _ _ h => h) (by rfl) ?_ (by first | assumption | trivial) ?_
                        · intro w' hSw
                          (try dsimp only at hSw)
                          go_simp
                          first | done | rfl
                        (try simp only [Act.put, List.setIfInBounds_toArray, List.set_cons_zero, List.set_cons_succ])
                        refine oneD (i := 13) (by kernel_rfl) rfl (fun KK hK => ?_)
                        go_simp
                        refine hK.out _ _ trivial (fun hHeld => ?_)
                        clear hK KK
                        (try simp only [Act.put, List.setIfInBounds_toArray, List.set_cons_zero, List.set_cons_succ])
                        refine wpAnyH_done (by kernel_rfl) ?_ _
                        clear hHeld
                        go_wp2_with fail
                        go_roundw
                        case rel =>
                          have hfw : Fr No w1 wp := (HF0.out.alloc _).fresh hfp (fun k e => (HL.out.2.2.2 k e).1)
                          have hs0 : w1.heap.size ≤ wr.drew.heap.size := HF0.out.size
                          have hobq : ∀ k, obp = some k → w1.heap.size ≤ k ∧ k ≠ g6 := fun k hk => by
                            rcases hobp with e | ⟨q, e, hq⟩
                            · exact HL.out.2.2.2 k (by rw [← e]; exact hk)
                            · rw [e] at hk; injection hk with hk; simp only [World.size_alloc, World.size_drew] at hq hs0; have := HF0.out.size; have hgq := (Array.getElem?_eq_some_iff.1 HL.out.1).1; simp only [World.size_drew] at this; omega
                          refine ⟨j + 1, cp, Ap, obp, by omega, by go_num, st10 HBP.out _, hfw.setCell (p := ⟨g6, 10, none⟩) (fun h => absurd h (Nat.not_lt.2 hgl)) _, ?_, hobq⟩
                          rw [HNP.out, rngC_append]
                          exact hvp.fr (Fr.set1 wp g6 10 _) (fun k hk e => by have e : k = g6 := e; exact (hobq k hk).2 e)
                        case measure => simp [intOf] <;> omega
                      · skip
                        go_simp
                        go_at_call 35
                        refine (HN2.out _ HF0.out).mono ?_
                        rintro e wn ⟨rfl, hwn⟩
                        rw [hwn]
                        clear hwn wn
                        refine hK.out _ _ trivial (fun hHeld => ?_)
                        clear hK KK
                        (try simp only [Act.put, List.setIfInBounds_toArray, List.set_cons_zero, List.set_cons_succ])
                        refine takeD (i := 9) (d := some 129) (v := .agg #[.int .i64 (a : Int), .int .i64 (b : Int)]) rfl rfl (by kernel_rfl) (by kernel_rfl) (by kernel_rfl) (fun _ _ _ h => h) (by rfl) ?_ (by first | assumption | trivial) ?_
                        · intro w' hSw
                          (try dsimp only at hSw)
                          go_simp
                          first | done | rfl
                        (try simp only [Act.put, List.setIfInBounds_toArray, List.set_cons_zero, List.set_cons_succ])
                        refine wpAnyH_ready (rs := [1, 10]) (by kernel_rfl) (by simp) (AllReadyH.cons rfl (fun KK hK => ?_) (AllReadyH.cons rfl (fun KK hK => ?_) AllReadyH.nil))
                        · skip
                          have x10 : wr.drew.cell? ⟨g6, 10, none⟩ = some (.slice rA j rc) := (blk12 HL0.out).2.2.2.2.2.2.2.2.2.2.1
                          go_simp
                          clear x10
                          refine hK.out _ _ trivial (fun hHeld => ?_)
                          clear hK KK
                          (try simp only [Act.put, List.setIfInBounds_toArray, List.set_cons_zero, List.set_cons_succ])
                          refine oneD (i := 10) (by kernel_rfl) rfl (fun KK hK => ?_)
                          go_simp
                          refine hK.out _ _ trivial (fun hHeld => ?_)
                          clear hK KK
                          (try simp only [Act.put, List.setIfInBounds_toArray, List.set_cons_zero, List.set_cons_succ])
                          have hgw : g6 < wr.drew.heap.size := (Array.getElem?_eq_some_iff.1 HL0.out).1
                          refine oneD (i := 11) (by kernel_rfl) rfl (fun KK hK => ?_)
                          refine step_app slRg rfl (.tmp 121) (.tmp 130) rfl rfl (HL.out.2.2.1.fr (S := No) (((Fr.refl No wr).drew).alloc (.cells #[.int .i64 (a : Int), .int .i64 (b : Int)] 53)) (fun _ _ h => h)) rfl (show ([.int .i64 (a : Int), .int .i64 (b : Int)] : List Value).length = 1 * 2 from rfl) (cells_new wr.drew [.int .i64 (a : Int), .int .i64 (b : Int)] 53) (by simp [Value.oneCell']) (by omega) (by omega) ?_
                          intro Ap cp wp obp hvp hfp hobp
                          have hbp := (hfp.block g6 (by simp only [World.size_alloc, World.size_drew] at hgw ⊢; omega) (fun e => (HL.out.2.2.2 g6 e.symm).2 rfl)).trans ((((Fr.refl No wr.drew).alloc (.cells #[.int .i64 (a : Int), .int .i64 (b : Int)] 53)).block g6 hgw (fun h => h)).trans HL0.out)
                          have HBP := hid hbp
                          obtain ⟨x0, x1, x2, x3, x4, x5, x6, x7, x8, x9, x10, x11⟩ := blk12 hbp
                          have z := free12 hbp
                          clear hbp
                          refine hK.out _ _ trivial (fun hHeld => ?_)
                          clear hK KK
                          (try simp only [Act.put, List.setIfInBounds_toArray, List.set_cons_zero, List.set_cons_succ])
                          refine takeD (i := 12) (d := some 132) (v := .pointer (some ⟨g6, 10, none⟩)) rfl rfl (by kernel_rfl) (by kernel_rfl) (by kernel_rfl) (fun _ _ _ h => h) (by rfl) ?_ (by first | assumption | trivial) ?_
                          · intro w' hSw
                            (try dsimp only at hSw)
                            go_simp
                            first | done | rfl
                          (try simp only [Act.put, List.setIfInBounds_toArray, List.set_cons_zero, List.set_cons_succ])
                          refine oneD (i := 13) (by kernel_rfl) rfl (fun KK hK => ?_)
                          go_simp
                          refine hK.out _ _ trivial (fun hHeld => ?_)
                          clear hK KK
                          (try simp only [Act.put, List.setIfInBounds_toArray, List.set_cons_zero, List.set_cons_succ])
                          refine wpAnyH_done (by kernel_rfl) ?_ _
                          clear hHeld
                          go_wp2_with fail
                          go_roundw
                          case rel =>
                            have hfw : Fr No w1 wp := (HF0.out.alloc _).fresh hfp (fun k e => (HL.out.2.2.2 k e).1)
                            have hs0 : w1.heap.size ≤ wr.drew.heap.size := HF0.out.size
                            have hobq : ∀ k, obp = some k → w1.heap.size ≤ k ∧ k ≠ g6 := fun k hk => by
                              rcases hobp with e | ⟨q, e, hq⟩
                              · exact HL.out.2.2.2 k (by rw [← e]; exact hk)
                              · rw [e] at hk; injection hk with hk; simp only [World.size_alloc, World.size_drew] at hq hs0; have := HF0.out.size; have hgq := (Array.getElem?_eq_some_iff.1 HL.out.1).1; simp only [World.size_drew] at this; omega
                            refine ⟨j + 1, cp, Ap, obp, by omega, by go_num, st10 HBP.out _, hfw.setCell (p := ⟨g6, 10, none⟩) (fun h => absurd h (Nat.not_lt.2 hgl)) _, ?_, hobq⟩
                            rw [HNP.out, rngC_append]
                            exact hvp.fr (Fr.set1 wp g6 10 _) (fun k hk e => by have e : k = g6 := e; exact (hobq k hk).2 e)
                          case measure => simp [intOf] <;> omega
                        · skip
                          go_simp
                          refine hK.out _ _ trivial (fun hHeld => ?_)
                          clear hK KK
                          (try simp only [Act.put, List.setIfInBounds_toArray, List.set_cons_zero, List.set_cons_succ])
                          refine oneD (i := 1) (by kernel_rfl) rfl (fun KK hK => ?_)
                          have x10 : (wr.alloc (.cells #[.int .i64 (a : Int), .int .i64 (b : Int)] 53)).cell? ⟨g6, 10, none⟩ = some (.slice rA j rc) := (((Fr.refl No wr).alloc (.cells #[.int .i64 (a : Int), .int .i64 (b : Int)] 53)).cell (p := ⟨g6, 10, none⟩) (Array.getElem?_eq_some_iff.1 HL0.out).1 (fun h => h)).trans (blk12 HL0.out).2.2.2.2.2.2.2.2.2.2.1
                          have x10b : (wr.alloc (.cells #[.int .i64 (a : Int), .int .i64 (b : Int)] 53)).drew.cell? ⟨g6, 10, none⟩ = some (.slice rA j rc) := x10
                          have x10c : (wr.drew.alloc (.cells #[.int .i64 (a : Int), .int .i64 (b : Int)] 53)).cell? ⟨g6, 10, none⟩ = some (.slice rA j rc) := x10
                          go_simp
                          clear x10 x10b x10c
                          refine hK.out _ _ trivial (fun hHeld => ?_)
                          clear hK KK
                          (try simp only [Act.put, List.setIfInBounds_toArray, List.set_cons_zero, List.set_cons_succ])
                          have hgw : g6 < wr.drew.heap.size := (Array.getElem?_eq_some_iff.1 HL0.out).1
                          refine oneD (i := 11) (by kernel_rfl) rfl (fun KK hK => ?_)
                          refine step_app slRg rfl (.tmp 121) (.tmp 130) rfl rfl (HL.out.2.2.1.fr (S := No) (((Fr.refl No wr).drew).alloc (.cells #[.int .i64 (a : Int), .int .i64 (b : Int)] 53)) (fun _ _ h => h)) rfl (show ([.int .i64 (a : Int), .int .i64 (b : Int)] : List Value).length = 1 * 2 from rfl) (cells_new wr.drew [.int .i64 (a : Int), .int .i64 (b : Int)] 53) (by simp [Value.oneCell']) (by omega) (by omega) ?_
                          intro Ap cp wp obp hvp hfp hobp
                          have hbp := (hfp.block g6 (by simp only [World.size_alloc, World.size_drew] at hgw ⊢; omega) (fun e => (HL.out.2.2.2 g6 e.symm).2 rfl)).trans ((((Fr.refl No wr.drew).alloc (.cells #[.int .i64 (a : Int), .int .i64 (b : Int)] 53)).block g6 hgw (fun h => h)).trans HL0.out)
                          have HBP := hid hbp
                          obtain ⟨x0, x1, x2, x3, x4, x5, x6, x7, x8, x9, x10, x11⟩ := blk12 hbp
                          have z := free12 hbp
                          clear hbp
                          refine hK.out _ _ trivial (fun hHeld => ?_)
                          clear hK KK
                          (try simp only [Act.put, List.setIfInBounds_toArray, List.set_cons_zero, List.set_cons_succ])
                          refine takeD (i := 12) (d := some 132) (v := .pointer (some ⟨g6, 10, none⟩)) rfl rfl (by kernel_rfl) (by kernel_rfl) (by kernel_rfl) (fun _ _ _ h => h) (by rfl) ?_ (by first | assumption | trivial) ?_
                          · intro w' hSw
                            (try dsimp only at hSw)
                            go_simp
                            first | done | rfl
                          (try simp only [Act.put, List.setIfInBounds_toArray, List.set_cons_zero, List.set_cons_succ])
                          refine oneD (i := 13) (by kernel_rfl) rfl (fun KK hK => ?_)
                          go_simp
                          refine hK.out _ _ trivial (fun hHeld => ?_)
                          clear hK KK
                          (try simp only [Act.put, List.setIfInBounds_toArray, List.set_cons_zero, List.set_cons_succ])
                          refine wpAnyH_done (by kernel_rfl) ?_ _
                          clear hHeld
                          go_wp2_with fail
                          go_roundw
                          case rel =>
                            have hfw : Fr No w1 wp := (HF0.out.alloc _).fresh hfp (fun k e => (HL.out.2.2.2 k e).1)
                            have hs0 : w1.heap.size ≤ wr.drew.heap.size := HF0.out.size
                            have hobq : ∀ k, obp = some k → w1.heap.size ≤ k ∧ k ≠ g6 := fun k hk => by
                              rcases hobp with e | ⟨q, e, hq⟩
                              · exact HL.out.2.2.2 k (by rw [← e]; exact hk)
                              · rw [e] at hk; injection hk with hk; simp only [World.size_alloc, World.size_drew] at hq hs0; have := HF0.out.size; have hgq := (Array.getElem?_eq_some_iff.1 HL.out.1).1; simp only [World.size_drew] at this; omega
                            refine ⟨j + 1, cp, Ap, obp, by omega, by go_num, st10 HBP.out _, hfw.setCell (p := ⟨g6, 10, none⟩) (fun h => absurd h (Nat.not_lt.2 hgl)) _, ?_, hobq⟩
                            rw [HNP.out, rngC_append]
                            exact hvp.fr (Fr.set1 wp g6 10 _) (fun k hk e => by have e : k = g6 := e; exact (hobq k hk).2 e)
                          case measure => simp [intOf] <;> omega
                  · obtain rfl : j = cn := by omega
                    have hlt2 : ¬ ((5 : Int) + 8 * (j : Int) < (Ln : Int)) := by omega
                    go_wp2_with fail
                    go_meet
                    obtain ⟨hb1, hf1, hrow, hob⟩ := HL.out
                    obtain ⟨Ax, cx, ex, hcx1, hcx, hbx⟩ := hrow.cells
                    obtain ⟨rfl, rfl⟩ : rA = Ax ∧ rc = cx := by injection ex with e1 _ e2; exact ⟨e1, e2⟩
                    refine ⟨rA, j, rc, none, 0, 0, by rw [HRM.out]; exact hb1, ?_, hf1, HOK.out⟩
                    rw [HRM.out, ← HCN.out]
                    exact ⟨pairsAt_length _ _ _, rfl, hcx, Rd.nil, hcx1, Nat.le_refl _, fun ad e => (hob _ (hbx ad e)).1, fun _ h => by (cases h)⟩
              · skip
                have hno : decide (Ln = 5 + 8 * at_ o 9 1) = false := decide_eq_false (by rw [← hcn]; exact hL)
                have HE := hid (show srdE bs = 3 ∧ srdM bs = zeroM from by rw [HE3.out.1, HE3.out.2]; unfold rrB; rw [hok, hno]; exact ⟨rfl, rfl⟩)
                have hln : ((Ln : Int) != 5 + 8 * (cn : Int)) = true := by rw [bne_iff_ne]; omega
                have HCN := hid hcn
                clear hok hno hcn hL
                obtain ⟨m0, m1, m2, m3, m4, m5, m6, m7, m8, m9, m10, m11⟩ := blk12 HM8.out.1
                go_wp2_with fail
                refine (HNUM.out _ HM8.out.2 4 1 (by omega) (by omega)).mono ?_
                rintro e wn ⟨rfl, hwn⟩
                rw [hwn]
                clear hwn wn
                rw [show ((at_ o 9 1 : Nat) : Int) = (cn : Int) from by rw [HCN.out]]
                clear m0 m1 m2 m3 m4 m5 m6 m7 m8 m9 m10 m11
                have HV := hid (HG.out w8 HM8.out.2)
                obtain ⟨x0, x1, x2, x3, x4, x5, x6, x7, x8, x9, x10, x11⟩ := blk12 HV.out.1
                have z := free12 HV.out.1
                obtain ⟨y0, y1, y2, y3, y4, y5, y6, y7, y8, y9, y10, y11⟩ := blk12 HV.out.2.1
                go_wp2_with fail
                refine ret_cell2 rfl (g := g) rfl rfl (load_msg (set12 HV.out.1 _ _ _ _ _ _ _ _ _ _ _ _)) rfl ?_
                rw [HE.out.1, HE.out.2]
                exact ⟨none, 0, 0, none, 0, 0, rfl, RM.none rfl rfl, end_no (E := 0) HV.out.2.2 HGG.out.2 _ _ _ _ _ _ _ _ _ _ _ _⟩
          · -- 5
            have HRM := hid (show rrM o = (⟨(Kn : Int), U, ((at_ o 5 1 : Nat) : Int), 0, 0, 0, 0, 0, 0, ((at_ o 6 1 : Nat) : Int), [], []⟩ : MsgS) from by have hk := HKn.out; unfold rrM; simp only; rw [HRR.out.2.1, ← HKU.out.2]; simp [hk])
            have hok : okL (at_ o 0 1 : Nat) o.length (at_ o 9 1) = decide (Ln = 2) := by rw [HRR.out.2.1, HRR.out.2.2]; unfold okL; simp only [HKn.out]; simp; try omega
            by_cases hL : Ln = 2
            · skip
              have HOK := hid (show okL (at_ o 0 1 : Nat) o.length (at_ o 9 1) = true from by rw [hok]; exact decide_eq_true hL)
              have hln : ((Ln : Int) != 2) = false := by rw [hL]; rfl
              have HLN := hid hL
              have hLge : 2 ≤ Ln := by omega
              clear hok hL
              obtain ⟨x0, x1, x2, x3, x4, x5, x6, x7, x8, x9, x10, x11⟩ := blk12 HM8.out.1
              have z := free12 HM8.out.1
              go_wp2_with fail
              refine (HNUM.out _ HM8.out.2 0 1 (by omega) (by omega)).mono ?_
              rintro e wn ⟨rfl, hwn⟩
              rw [hwn]
              clear hwn wn
              go_wp2_with fail
              obtain ⟨w9, hw9⟩ : ∃ W, W = w8.setCell ⟨g6, 2, none⟩ (.int .i64 ((at_ o 5 1 : Nat) : Int)) := ⟨_, rfl⟩
              rw [← hw9]
              have HM9 := hid (show w9.heap[g6]? = some (.cells #[.int .i64 (Kn : Int), .int .u32 (U : Int), .int .i64 ((at_ o 5 1 : Nat) : Int), .int .u32 0, .int .i64 0, .int .i64 0, .int .i64 0, .int .i64 0, .int .i64 0, .int .i64 0, .slice none 0 0, .slice none 0 0] 26 (0, 0)) ∧ Fr No w1 w9 from by rw [hw9]; exact ⟨st2 HM8.out.1 _, HM8.out.2.setCell (p := ⟨g6, 2, none⟩) (fun h => absurd h (Nat.not_lt.2 hgl)) _⟩)
              clear hw9
              clear x0 x1 x2 x3 x4 x5 x6 x7 x8 x9 x10 x11 z
              obtain ⟨x0, x1, x2, x3, x4, x5, x6, x7, x8, x9, x10, x11⟩ := blk12 HM9.out.1
              have z := free12 HM9.out.1
              go_wp2_with fail
              refine (HNUM.out _ HM9.out.2 1 1 (by omega) (by omega)).mono ?_
              rintro e wn ⟨rfl, hwn⟩
              rw [hwn]
              clear hwn wn
              go_wp2_with fail
              obtain ⟨w10, hw10⟩ : ∃ W, W = w9.setCell ⟨g6, 9, none⟩ (.int .i64 ((at_ o 6 1 : Nat) : Int)) := ⟨_, rfl⟩
              rw [← hw10]
              have HM10 := hid (show w10.heap[g6]? = some (.cells #[.int .i64 (Kn : Int), .int .u32 (U : Int), .int .i64 ((at_ o 5 1 : Nat) : Int), .int .u32 0, .int .i64 0, .int .i64 0, .int .i64 0, .int .i64 0, .int .i64 0, .int .i64 ((at_ o 6 1 : Nat) : Int), .slice none 0 0, .slice none 0 0] 26 (0, 0)) ∧ Fr No w1 w10 from by rw [hw10]; exact ⟨st9 HM9.out.1 _, HM9.out.2.setCell (p := ⟨g6, 9, none⟩) (fun h => absurd h (Nat.not_lt.2 hgl)) _⟩)
              clear hw10
              clear x0 x1 x2 x3 x4 x5 x6 x7 x8 x9 x10 x11 z
              go_meet
              exact ⟨none, 0, 0, none, 0, 0, by rw [HRM.out]; exact HM10.out.1, RM.none (by rw [HRM.out]) (by rw [HRM.out]), HM10.out.2, HOK.out⟩
            · skip
              have hno : decide (Ln = 2) = false := decide_eq_false hL
              have HE := hid (show srdE bs = 3 ∧ srdM bs = zeroM from by rw [HE3.out.1, HE3.out.2]; unfold rrB; rw [hok, hno]; exact ⟨rfl, rfl⟩)
              have hln : ((Ln : Int) != 2) = true := by rw [bne_iff_ne]; omega
              clear hok hno hL
              have HV := hid (HG.out w8 HM8.out.2)
              obtain ⟨x0, x1, x2, x3, x4, x5, x6, x7, x8, x9, x10, x11⟩ := blk12 HV.out.1
              have z := free12 HV.out.1
              obtain ⟨y0, y1, y2, y3, y4, y5, y6, y7, y8, y9, y10, y11⟩ := blk12 HV.out.2.1
              go_wp2_with fail
              refine ret_cell2 rfl (g := g) rfl rfl (load_msg (set12 HV.out.1 _ _ _ _ _ _ _ _ _ _ _ _)) rfl ?_
              rw [HE.out.1, HE.out.2]
              exact ⟨none, 0, 0, none, 0, 0, rfl, RM.none rfl rfl, end_no (E := 0) HV.out.2.2 HGG.out.2 _ _ _ _ _ _ _ _ _ _ _ _⟩
          · -- 6
            have HRM := hid (show rrM o = (⟨(Kn : Int), U, 0, 0, 0, 0, 0, 0, 0, 0, [], []⟩ : MsgS) from by
              obtain ⟨n1, n2, n3, n4, n5⟩ := HKn.out
              unfold rrM
              simp only [HRR.out.2.1]
              rw [if_neg (by omega), if_neg (by omega), if_neg (by omega), if_neg (by omega), if_neg (by omega), HKU.out.2])
            have HOK := hid (show okL (at_ o 0 1 : Nat) o.length (at_ o 9 1) = true from by
              obtain ⟨n1, n2, n3, n4, n5⟩ := HKn.out
              rw [HRR.out.2.1]
              unfold okL
              rw [if_neg (by omega), if_neg (by omega), if_neg (by omega), if_neg (by omega), if_neg (by omega)])
            go_wp2_with fail
            go_meet
            exact ⟨none, 0, 0, none, 0, 0, by rw [HRM.out]; exact HM8.out.1, RM.none (by rw [HRM.out]) (by rw [HRM.out]), HM8.out.2, HOK.out⟩
        case rest =>
          obtain ⟨rA, rn, rc, dA, dn, dc, hbm, hrm, hfm, hok⟩ := hcut
          obtain ⟨w9, rfl⟩ : ∃ x : World, x = wc := ⟨_, rfl⟩
          obtain ⟨MB, hMB⟩ : ∃ b, b = mayB (rrM o) := ⟨_, rfl⟩
          have HRB := hid (show rrB o = MB from by unfold rrB; rw [hok, hMB]; rfl)
          have hlen : (rrM o).R.length ≤ 140737488355328 ∧ (rrM o).D.length ≤ 140737488355328 := rrM_lens o (by rw [HT.out.1]; omega)
          have HMAY := hid (show Calls Try.prog 24 #[.agg (mC (rrM o) (.slice rA rn rc) (.slice dA dn dc))] w9 fun e w' => e = .returned (.bool MB) ∧ Fr No w9 w' from by
            rw [hMB]
            exact refMay_calls (rrM o).K (rrM o).U (rrM o).F (rrM o).S (rrM o).Z (rrM o).P (rrM o).Y (rrM o).X (rrM o).Q (rrM o).C (rrM o).R (rrM o).D rA dA rn rc dn dc w9 hrm.rl hrm.dl hrm.rd hrm.dd (by rw [← hrm.rl]; exact hlen.1) (by rw [← hrm.dl]; exact hlen.2))
          have H9 := hid (And.intro hbm (And.intro hrm hfm))
          obtain ⟨M, hM⟩ : ∃ q, q = rrM o := ⟨_, rfl⟩
          rw [← hM] at H9 HMAY
          have HMM := hid hM
          clear hok hMB hlen hbm hrm hfm hM
          obtain ⟨m0, m1, m2, m3, m4, m5, m6, m7, m8, m9, m10, m11⟩ := blk12 (show w9.heap[g6]? = some (.cells #[.int .i64 M.K, .int .u32 (M.U : Int), .int .i64 M.F, .int .u32 (M.S : Int), .int .i64 M.Z, .int .i64 M.P, .int .i64 M.Y, .int .i64 M.X, .int .i64 M.Q, .int .i64 M.C, .slice rA rn rc, .slice dA dn dc] 26 (0, 0)) from H9.out.1)
          go_wp2_with fail
          refine (HMAY.out).mono ?_
          rintro e w10 ⟨rfl, hf10⟩
          have HF10 := hid (H9.out.2.2.then hf10)
          have HM10 := hid (And.intro ((hf10.block g6 (Array.getElem?_eq_some_iff.1 H9.out.1).1 (fun h => h)).trans H9.out.1) (H9.out.2.1.fr0 hf10))
          clear hf10 m0 m1 m2 m3 m4 m5 m6 m7 m8 m9 m10 m11
          cases MB with
          | false =>
            have HE := hid (show srdE bs = 3 ∧ srdM bs = zeroM from by rw [HE3.out.1, HE3.out.2, HRB.out]; exact ⟨rfl, rfl⟩)
            have HV := hid (HG.out w10 HF10.out)
            obtain ⟨x0, x1, x2, x3, x4, x5, x6, x7, x8, x9, x10, x11⟩ := blk12 HV.out.1
            have z := free12 HV.out.1
            obtain ⟨y0, y1, y2, y3, y4, y5, y6, y7, y8, y9, y10, y11⟩ := blk12 HV.out.2.1
            go_wp2_with fail
            refine ret_cell2 rfl (g := g) rfl rfl (load_msg (set12 HV.out.1 _ _ _ _ _ _ _ _ _ _ _ _)) rfl ?_
            rw [HE.out.1, HE.out.2]
            exact ⟨none, 0, 0, none, 0, 0, rfl, RM.none rfl rfl, end_no (E := 0) HV.out.2.2 HGG.out.2 _ _ _ _ _ _ _ _ _ _ _ _⟩
          | true =>
            have HE := hid (show srdE bs = 0 ∧ srdM bs = M from by rw [HE3.out.1, HE3.out.2, HRB.out, HMM.out]; exact ⟨rfl, rfl⟩)
            have HV := hid (HG.out w10 HF10.out)
            obtain ⟨x0, x1, x2, x3, x4, x5, x6, x7, x8, x9, x10, x11⟩ := blk12 HV.out.1
            have z := free12 HV.out.1
            obtain ⟨m0, m1, m2, m3, m4, m5, m6, m7, m8, m9, m10, m11⟩ := blk12 (show w10.heap[g6]? = some (.cells #[.int .i64 M.K, .int .u32 (M.U : Int), .int .i64 M.F, .int .u32 (M.S : Int), .int .i64 M.Z, .int .i64 M.P, .int .i64 M.Y, .int .i64 M.X, .int .i64 M.Q, .int .i64 M.C, .slice rA rn rc, .slice dA dn dc] 26 (0, 0)) from HM10.out.1)
            go_wp2_with fail
            refine ret_cell2 rfl (g := g) rfl rfl (load_msg (set12 HV.out.1 _ _ _ _ _ _ _ _ _ _ _ _)) rfl ?_
            rw [HE.out.1, HE.out.2]
            have hfin := fr12 w10 g (.int .i64 M.K) (.int .u32 (M.U : Int)) (.int .i64 M.F) (.int .u32 (M.S : Int)) (.int .i64 M.Z) (.int .i64 M.P) (.int .i64 M.Y) (.int .i64 M.X) (.int .i64 M.Q) (.int .i64 M.C) (.slice rA rn rc) (.slice dA dn dc)
            have hmx := HM10.out.2
            have hgw := HGG.out.2
            have hsz : w.heap.size ≤ w1.heap.size := HF1.out.size
            exact ⟨rA, rn, rc, dA, dn, dc, rfl, ⟨hmx.rl, hmx.dl, hmx.rd.fr hfin (fun ad e e' => by have e' : ad.block = g := e'; have := hmx.rf ad e; omega), hmx.dd.fr hfin (fun ad e e' => by have e' : ad.block = g := e'; have := hmx.df ad e; omega), hmx.rcap, hmx.dcap, fun ad e => by have := hmx.rf ad e; omega, fun ad e => by have := hmx.df ad e; omega⟩, end_no (E := 0) HV.out.2.2 hgw _ _ _ _ _ _ _ _ _ _ _ _⟩
    · have HE := hid (show srdE bs = 4 ∧ srdM bs = zeroM from by
        have h : srdE bs = 4 := by
          unfold srdE
          rw [if_neg (by rw [HN.out.1]; exact h13), HN.out.1, ← hk, ← ho, if_pos (by rw [← hC, ← hL]; exact hS)]
        exact ⟨h, srdM_no h (by decide)⟩)
      have hne : ((C : Int) != (L : Int)) = true := by rw [bne_iff_ne]; omega
      clear hk hL hC hd4 htk ho hrd hS
      go_enter Try.func14, Try.ntmps14
      go_upto_region 2 with fail
      rw [← HW1.out, ← HGG.out.1]
      go_upto_region 5 with fail
      refine wp_region_held_drew (S := (fun _ => True)) (by kernel_rfl) trivial (fun hHeld => ?_)
      refine takeD (i := 0) (d := some 15) (v := .slice A m c) rfl rfl (by kernel_rfl) (by kernel_rfl) (by kernel_rfl) (fun _ _ _ h => h) (by rfl) ?_ (by first | assumption | trivial) ?_
      · intro w' hSw
        (try dsimp only at hSw)
        go_simp
        first | done | rfl
      (try simp only [Act.put, List.setIfInBounds_toArray, List.set_cons_zero, List.set_cons_succ])
      refine takeD (i := 1) (d := some 16) (v := .int .i64 (k : Int)) rfl rfl (by kernel_rfl) (by kernel_rfl) (by kernel_rfl) (fun _ _ _ h => h) (by rfl) ?_ (by first | assumption | trivial) ?_
      · intro w' hSw
        (try dsimp only at hSw)
        go_simp
        first | done | rfl
      (try simp only [Act.put, List.setIfInBounds_toArray, List.set_cons_zero, List.set_cons_succ])
      refine takeD (i := 2) (d := some 17) (v := .slice A k c) rfl rfl (by kernel_rfl) (by kernel_rfl) (by kernel_rfl) (fun _ _ _ h => h) (by rfl) ?_ (by first | assumption | trivial) ?_
      · intro w' hSw
        (try dsimp only at hSw)
        go_simp
        first | done | rfl
      (try simp only [Act.put, List.setIfInBounds_toArray, List.set_cons_zero, List.set_cons_succ])
      refine takeD (i := 4) (d := some 19) (v := .slice A m c) rfl rfl (by kernel_rfl) (by kernel_rfl) (by kernel_rfl) (fun _ _ _ h => h) (by rfl) ?_ (by first | assumption | trivial) ?_
      · intro w' hSw
        (try dsimp only at hSw)
        go_simp
        first | done | rfl
      (try simp only [Act.put, List.setIfInBounds_toArray, List.set_cons_zero, List.set_cons_succ])
      refine takeD (i := 5) (d := some 20) (v := .int .i64 (k : Int)) rfl rfl (by kernel_rfl) (by kernel_rfl) (by kernel_rfl) (fun _ _ _ h => h) (by rfl) ?_ (by first | assumption | trivial) ?_
      · intro w' hSw
        (try dsimp only at hSw)
        go_simp
        first | done | rfl
      (try simp only [Act.put, List.setIfInBounds_toArray, List.set_cons_zero, List.set_cons_succ])
      refine takeD (i := 6) (d := some 21) (v := .slice (cutA A c k 1) 4 (c - k)) rfl rfl (by kernel_rfl) (by kernel_rfl) (by kernel_rfl) (fun _ _ _ h => h) (by rfl) ?_ (by first | assumption | trivial) ?_
      · intro w' hSw
        (try dsimp only at hSw)
        go_simp
        first | done | rfl
      (try simp only [Act.put, List.setIfInBounds_toArray, List.set_cons_zero, List.set_cons_succ])
      refine oneD (i := 3) (by kernel_rfl) rfl (fun KK hK => ?_)
      go_simp
      go_at_call 32
      refine (refOf_calls A o k c HT.out.1 _ (HT.out.2.2 _ (HN.out.2.fr0 HB1.out)) (by omega)).mono ?_
      rw [← HCC.out]
      rintro e w5 ⟨rfl, h5⟩
      rw [h5]
      clear h5 w5
      refine hK.out _ _ trivial (fun hHeld => ?_)
      clear hK KK
      (try simp only [Act.put, List.setIfInBounds_toArray, List.set_cons_zero, List.set_cons_succ])
      refine oneD (i := 7) (by kernel_rfl) rfl (fun KK hK => ?_)
      go_simp
      go_at_call 34
      refine (refTurned_calls _ (bs.drop k) 4 _ HD4.out _ (HRD.out) (by rw [HD4.out]; decide)).mono ?_
      rintro e w6 ⟨v6, rfl, hnew6⟩
      obtain ⟨A6, n6, c6, rfl, N6⟩ := hnew6.use
      clear hnew6
      obtain rfl : n6 = 4 := by rw [← N6.out.1, List.length_reverse, HD4.out]
      refine hK.out _ _ trivial (fun hHeld => ?_)
      clear hK KK
      (try simp only [Act.put, List.setIfInBounds_toArray, List.set_cons_zero, List.set_cons_succ])
      refine oneD (i := 8) (by kernel_rfl) rfl (fun KK hK => ?_)
      go_simp
      go_at_call 33
      refine (refNumber_calls A6 (bs.drop k).reverse 4 c6 N6.out.1 _ N6.out.2.1 (by rw [N6.out.1]; decide)).mono ?_
      rw [← HLB.out]
      rintro e w7 ⟨rfl, h7⟩
      rw [h7]
      clear h7 w7
      refine hK.out _ _ trivial (fun hHeld => ?_)
      clear hK KK
      (try simp only [Act.put, List.setIfInBounds_toArray, List.set_cons_zero, List.set_cons_succ])
      refine takeD (i := 9) (d := some 24) (v := .int .u32 (L : Int)) rfl rfl (by kernel_rfl) (by kernel_rfl) (by kernel_rfl) (fun _ _ _ h => h) (by rfl) ?_ (by first | assumption | trivial) ?_
      · intro w' hSw
        (try dsimp only at hSw)
        go_simp
        first | done | rfl
      (try simp only [Act.put, List.setIfInBounds_toArray, List.set_cons_zero, List.set_cons_succ])
      refine takeD (i := 10) (d := some 25) (v := .bool ((C : Int) != (L : Int))) rfl rfl (by kernel_rfl) (by kernel_rfl) (by kernel_rfl) (fun _ _ _ h => h) (by rfl) ?_ (by first | assumption | trivial) ?_
      · intro w' hSw
        (try dsimp only at hSw)
        go_simp
        first | done | rfl
      (try simp only [Act.put, List.setIfInBounds_toArray, List.set_cons_zero, List.set_cons_succ])
      refine wpAnyH_done (by kernel_rfl) ?_ _
      clear hHeld
      have HF6 := hid (show Fr No w1 w6 from ((Fr.refl No w1).drew).then N6.out.2.2.2.1)
      have HV := hid (HG.out w6 HF6.out)
      obtain ⟨x0, x1, x2, x3, x4, x5, x6, x7, x8, x9, x10, x11⟩ := blk12 HV.out.1
      have z := free12 HV.out.1
      obtain ⟨y0, y1, y2, y3, y4, y5, y6, y7, y8, y9, y10, y11⟩ := blk12 HV.out.2.1
      go_wp2_with fail
      refine ret_cell2 rfl (g := g) rfl rfl (load_msg (set12 HV.out.1 _ _ _ _ _ _ _ _ _ _ _ _)) rfl ?_
      rw [HE.out.1, HE.out.2]
      exact ⟨none, 0, 0, none, 0, 0, rfl, RM.none rfl rfl, end_no (E := 0) HV.out.2.2 HGG.out.2 _ _ _ _ _ _ _ _ _ _ _ _⟩
end Go.Proofs.Ytamkfjbdcjkchaa

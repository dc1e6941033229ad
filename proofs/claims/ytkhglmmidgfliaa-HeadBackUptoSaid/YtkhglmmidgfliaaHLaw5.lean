/- The walk of HeadClears. -/
import Derived.Test.YtkhglmmidgfliaaClear2
import Derived.Test.YtkhglmmidgfliaaHLaw4
namespace Go.Proofs.Ytkhglmmidgfliaa
open Go.RowKit Go.WideShapes Go.Proofs.HK
set_option linter.unusedVariables false
set_option linter.unusedSimpArgs false
attribute [local go_sem] max2_int min2_int max_two min_two

theorem rcA_le (W H C D T : Int) (bs : List UInt8) : (rcA W H C D T bs).length ≤ bs.length := by
  unfold rcA; split
  · rw [alB_length]; exact Nat.le_refl _
  · simp
theorem rcC_le (W H C D : Int) (bs : List UInt8) : (rcC W H C D bs).length ≤ bs.length := by
  unfold rcC; split
  · rw [prs_length]; omega
  · simp
set_option maxRecDepth 100000 in
set_option maxHeartbeats 1600000 in
theorem headClears_w (W H C D : Int) (L : Bool) (T : Int) (A : Option Addr) (bs : List UInt8) (n c : Nat) (w : World) (hn : bs.length = n) (hr : Rd B w A bs) (hl : n ≤ 17592186043904) (hnc : n ≤ c) :
    Calls Try.prog 10 #[headV W H C D L, .int .i64 T, .slice A n c] w fun e w' => e = .returned (.bool true) ∧ Fr No w w' := by
  have HR := hid (And.intro hn (And.intro hr (And.intro hl hnc)))
  clear hn hr hl hnc
  unfold headV
  go_enter Try.func10, Try.ntmps10
  go_wp2_with fail
  refine (fixed12_calls _).mono ?_
  rintro e w1 ⟨rfl, hf⟩
  have hg : w.heap.size < w1.heap.size := by have := hf.size; rw [World.size_alloc] at this; omega
  obtain ⟨g, hgg⟩ : ∃ g, g = w.heap.size := ⟨_, rfl⟩
  have hb : w1.heap[g]? = some (.cells #[.int .i64 W, .int .i64 H, .int .i64 C, .int .i64 D, .bool L] 33 (0, 0)) := by
    rw [hgg]; exact (hf.block w.heap.size (by rw [World.size_alloc]; omega) (fun h => h)).trans (heap_new _ _)
  obtain ⟨c0, c1, c2, c3, c4, _⟩ := blk5 hb
  rw [← hgg] at hg ⊢
  have H1 := hid (And.intro (((Fr.refl No w).alloc _).then hf) hb)
  clear hf hb hgg
  go_wp2_with fail
  refine (readClear_calls W H C D L T A bs n c HR.out.1 _ (HR.out.2.1.fr0 H1.out.1) HR.out.2.2.1).mono ?_
  rintro e w2 ⟨v1, v2, rfl, hnew1, hnew2⟩
  have hb2 := (hnew1.2.block g hg (fun h => h)).trans H1.out.2
  obtain ⟨d0, d1, d2, d3, d4, _⟩ := blk5 hb2
  have H2 := hid (H1.out.1.then hnew1.2)
  obtain ⟨A1, n1, c1', rfl, N1⟩ := hnew1.use
  obtain ⟨A2, n2, c2', rfl, N2⟩ := hnew2.use
  clear hnew1 hnew2 hb2 c0 c1 c2 c3 c4 H1 hg
  go_wp2_with fail
  refine (refReadClear_calls W H C D L T A bs n c HR.out.1 HR.out.2.2.2 _ (HR.out.2.1.fr0 H2.out) HR.out.2.2.1).mono ?_
  rintro e w3 ⟨v3, v4, rfl, hnew3, hnew4⟩
  have H3 := hid (H2.out.then hnew3.2)
  obtain ⟨A3, n3, c3', rfl, N3⟩ := hnew3.use
  obtain ⟨A4, n4, c4', rfl, N4⟩ := hnew4.use
  clear hnew3 hnew4 d0 d1 d2 d3 d4
  obtain ⟨rE, hrE⟩ : ∃ rE, rE = rcE W H C D T bs := ⟨_, rfl⟩
  rw [← hrE]
  clear hrE
  have hn1 : n1 ≤ 140737488355328 := by have := rcA_le W H C D T bs; rw [N1.out.1, HR.out.1] at this; have := HR.out.2.2.1; omega
  have hn2 : n2 ≤ 140737488355328 := by have := rcC_le W H C D bs; rw [N2.out.1, HR.out.1] at this; have := HR.out.2.2.1; omega
  go_wp2_with fail
  refine (sameInts_calls A1 A3 _ _ n1 n3 c1' c3' N1.out.1 N3.out.1 _ (N1.out.2.1.fr0 N3.out.2.2.2.1) N3.out.2.1 hn1).mono ?_
  rw [decide_eq_true (rfl : rcA W H C D T bs = rcA W H C D T bs)]
  rintro e w4 ⟨rfl, q, rfl⟩
  go_wp2_with fail
  refine (sameInts_calls A2 A4 _ _ n2 n4 c2' c4' N2.out.1 N4.out.1 _ ((N2.out.2.1.fr0 N4.out.2.2.2.1).drewN q) (N4.out.2.1.drewN q) hn2).mono ?_
  rw [decide_eq_true (rfl : rcC W H C D bs = rcC W H C D bs)]
  rintro e w4 ⟨rfl, q', rfl⟩
  go_wp2_with fail
  go_ret
  exact ⟨rfl, H3.out.drewN _⟩
set_option maxRecDepth 100000 in
theorem headClears_walk (v : Value) (x : HeadT) (T : Int) (A : Option Addr) (xs : List UInt8) (n c : Nat) (w : World) {base : Nat} (hok : Value.okWide Try.prog w .any base 33 v) (hx : headD.K w x v.cells.toList)
    (hT : -9223372036854775808 ≤ T ∧ T ≤ 9223372036854775807) (h1 : SlIn B 1 w A xs n c) (hn : n ≤ 1048576) :
    Calls Try.prog 10 #[v, .int .i64 T, .slice A n c] w fun e w' => e = .returned (.bool true) ∧ Fr No w w' := by
  rw [headD_val hok hx]
  exact headClears_w _ _ _ _ _ _ _ _ _ _ w h1.len h1.rd (by omega) h1.cap
end Go.Proofs.Ytkhglmmidgfliaa

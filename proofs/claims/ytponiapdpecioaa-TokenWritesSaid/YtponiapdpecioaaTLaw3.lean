/- TokenWrites' walk. -/
import Derived.Test.YtponiapdpecioaaTLaw
import Derived.Test.YtponiapdpecioaaTokW3
import Derived.Test.YtponiapdpecioaaDecT
namespace Go.Proofs.Ytponiapdpecioaa
open Go.RowKit Go.WideShapes Go.Proofs.HK
set_option linter.unusedVariables false
set_option linter.unusedSimpArgs false

set_option maxRecDepth 100000 in
set_option maxHeartbeats 1600000 in
theorem tokenWrites_w (F : Int) (S : Nat) (D : List UInt8) (A : Option Addr) (n c : Nat) (w : World) (hn : D.length = n) (hr : Rd B w A D) (hS : S < 4294967296) :
    Calls Try.prog 3 #[tokV F S A n c] w fun e w' => e = .returned (.bool true) ∧ Fr No w w' := by
  obtain ⟨g, hg⟩ : ∃ g, g = w.heap.size := ⟨_, rfl⟩
  obtain ⟨w2, hw2⟩ : ∃ W, W = w.alloc (.cells #[.int .i64 F, .int .u32 (S : Int), .slice A n c] 25) := ⟨_, rfl⟩
  have hb2 : w2.heap[g]? = some (.cells #[.int .i64 F, .int .u32 (S : Int), .slice A n c] 25 (0, 0)) := by rw [hw2, hg]; exact heap_new _ _
  have hf2 : Fr No w w2 := by rw [hw2]; exact (Fr.refl No w).alloc _
  have hcell : ∀ X, Fr No w2 X → X.heap[g]? = some (.cells #[.int .i64 F, .int .u32 (S : Int), .slice A n c] 25 (0, 0)) := fun X hf => (hf.block g (Array.getElem?_eq_some_iff.1 hb2).1 (fun h => h)).trans hb2
  have HC := hid (And.intro hcell (And.intro hf2 (And.intro hn hr)))
  have HW := hid (And.intro hw2 hg)
  clear hw2 hg hb2 hf2 hcell hn hr
  unfold tokV
  obtain ⟨E, hE⟩ : ∃ E, E = tokE F n := ⟨_, rfl⟩
  have hw1 : ∀ W, Fr No w2 W → Calls Try.prog 10 #[.agg #[.int .i64 F, .int .u32 (S : Int), .slice A n c]] W fun e w' => ∃ v, e = .returned (.tuple #[v, .int .i64 E]) ∧ New B W w' v (tokB F S D) := fun W hW => by
    rw [hE]; exact write_calls F S D A n c W HC.out.2.2.1 (HC.out.2.2.2.fr0 (HC.out.2.1.then hW)) hS
  have hw3 : ∀ W, Fr No w2 W → Calls Try.prog 11 #[.agg #[.int .i64 F, .int .u32 (S : Int), .slice A n c]] W fun e w' => ∃ v, e = .returned (.tuple #[v, .int .i64 E]) ∧ New B W w' v (tokB F S D) := fun W hW => by
    rw [hE]; exact refWrite_calls F S D A n c W HC.out.2.2.1 (HC.out.2.2.2.fr0 (HC.out.2.1.then hW)) hS
  have HWC := hid (And.intro hw1 hw3)
  have hself : (E == E) = true := by simp
  clear hE hw1 hw3
  by_cases hbig : (3000 : Int) < (n : Int)
  · go_enter Try.func3, Try.ntmps3
    go_wp2_with fail
    rw [← HW.out.1, ← HW.out.2]
    refine (fixed25_calls _).mono ?_
    rintro e w3 ⟨rfl, hf3⟩
    obtain ⟨d0, d1, d2⟩ := blk3c (HC.out.1 w3 hf3)
    have H3 := hid hf3
    clear hf3
    go_wp2_with fail
    go_ret
    exact ⟨rfl, HC.out.2.1.then H3.out⟩
  · go_enter Try.func3, Try.ntmps3
    go_wp2_with fail
    rw [← HW.out.1, ← HW.out.2]
    refine (fixed25_calls _).mono ?_
    rintro e w3 ⟨rfl, hf3⟩
    obtain ⟨d0, d1, d2⟩ := blk3c (HC.out.1 w3 hf3)
    have H3 := hid hf3
    clear hf3
    go_wp2_with fail
    refine (HWC.out.1 _ H3.out).mono ?_
    rintro e w4 ⟨v4, rfl, hnew4⟩
    obtain ⟨A4, n4, c4, rfl, N4⟩ := hnew4.use
    clear hnew4 d0 d1 d2
    obtain ⟨d0, d1, d2⟩ := blk3c (HC.out.1 w4 (H3.out.then N4.out.2.2.2.1))
    go_wp2_with fail
    refine (HWC.out.2 _ (H3.out.then N4.out.2.2.2.1)).mono ?_
    rintro e w5 ⟨v5, rfl, hnew5⟩
    obtain ⟨A5, n5, c5, rfl, N5⟩ := hnew5.use
    clear hnew5 d0 d1 d2
    go_wp2_with fail
    refine (same_calls A4 A5 _ _ n4 n5 c4 c5 N4.out.1 N5.out.1 _ (N4.out.2.1.fr0 N5.out.2.2.2.1) N5.out.2.1).mono ?_
    rw [decide_eq_true (show tokB F S D = tokB F S D from rfl)]
    rintro e w6 ⟨rfl, hw6⟩
    rw [hw6]
    clear hw6 w6
    go_wp2_with fail
    go_ret
    exact ⟨rfl, ((HC.out.2.1.then H3.out).then N4.out.2.2.2.1).then N5.out.2.2.2.1⟩
theorem tokenWrites_walk (v : Value) (x : TokT) (w : World) {base : Nat} (hok : Value.okWide Try.prog w .any base 25 v) (hx : tokD.K w x v.cells.toList) : Calls Try.prog 3 #[v] w fun e w' => e = .returned (.bool true) ∧ Fr No w w' := by
  obtain ⟨F, S, A, D, c, rfl, hS, hr, hc, hl⟩ := tokD_val hok hx
  exact tokenWrites_w F S D A D.length c w rfl hr hS
end Go.Proofs.Ytponiapdpecioaa

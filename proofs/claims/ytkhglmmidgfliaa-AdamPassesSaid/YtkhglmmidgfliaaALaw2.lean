/- AdamPasses' walk. -/
import Derived.Test.YtkhglmmidgfliaaALaw1
import Derived.Test.YtkhglmmidgfliaaAdamD
namespace Go.Proofs.Ytkhglmmidgfliaa
open Go.RowKit Go.Proofs.HK
set_option linter.unusedVariables false
set_option linter.unusedSimpArgs false
attribute [local go_sem] max2_int min2_int max_two min_two
theorem atV_agg (p W H : Int) : ∃ a b c d e f, atV p W H = passV a b c d e f := by
  unfold atV; split <;> exact ⟨_, _, _, _, _, _, rfl⟩
set_option maxRecDepth 100000 in
set_option maxHeartbeats 1600000 in
theorem adamPasses_walk (p W H : Int) (w : World) (_ : -9223372036854775808 ≤ p ∧ p ≤ 9223372036854775807) (_ : -9223372036854775808 ≤ W ∧ W ≤ 9223372036854775807) (_ : -9223372036854775808 ≤ H ∧ H ≤ 9223372036854775807) : Calls Try.prog 3 #[.int .i64 p, .int .i64 W, .int .i64 H] w fun e w' => e = .returned (.bool true) ∧ Fr No w w' := by
  obtain ⟨a, b, c, d, e, f, hV⟩ := atV_agg p W H
  have HV := hid hV
  clear hV
  go_enter Try.func3, Try.ntmps3
  go_wp2_with fail
  refine (fixed14_calls _).mono ?_
  rintro e w1 ⟨rfl, hf1⟩
  go_wp2_with fail
  refine (at_calls p W H _).mono ?_
  rw [HV.out]
  unfold passV
  rintro e w2 ⟨rfl, hf2⟩
  go_wp2_with fail
  refine (refAt_calls p W H _).mono ?_
  rw [HV.out]
  unfold passV
  rintro e w3 ⟨rfl, hf3⟩
  go_wp2_with fail
  go_ret
  exact ⟨rfl, (hf1.then hf2).then hf3⟩
end Go.Proofs.Ytkhglmmidgfliaa

/- The calls whose answers the document fixes. -/
import Derived.Test.YtkhglmmidgfliaaBytes
import Derived.Test.YtkhglmmidgfliaaWoven
namespace Go.Proofs.Ytkhglmmidgfliaa
open Go.RowKit Go.Proofs.HK
set_option linter.unusedVariables false
set_option linter.unusedSimpArgs false
attribute [local go_sem] max2_int min2_int max_two min_two

theorem fx_bytes : bytesS 3 2 1 true 1 = 8 := by decide
theorem fx_count : (itsOf 3 2 true).length = 4 := by decide
theorem fx_at : atV 4 3 2 = passV 2 0 4 4 1 1 := (atV_good (by decide)).trans rfl
@[local go_sem] theorem eqlF (g : Nat) (w : World) : (binOp .eql 39 (.func (.func 65) #[] #[.pointer (some ⟨g, 0, none⟩)]) .nilFunc).run Try.prog w = .ok (.bool false) w := by kernel_rfl
set_option maxRecDepth 100000 in
set_option maxHeartbeats 1600000 in
theorem fixed14_calls (w : World) : Calls Try.prog 14 #[] w fun e w' => e = .returned (.bool true) ∧ Fr No w w' := by
  go_enter Try.func14, Try.ntmps14
  go_wp2_with fail
  refine (lines_calls 1 1 false _).mono ?_
  rintro e w1 ⟨v1, rfl, ⟨g1, A1, c1, rfl, _⟩, hf1⟩
  go_wp2_with fail
  refine (woven_calls 1 1 false _).mono ?_
  rintro e w2 ⟨v2, rfl, ⟨g2, A2, c2, rfl, _⟩, hf2⟩
  go_wp2_with fail
  refine (bytes_calls 3 2 0 1 true 1 _).mono ?_
  rw [fx_bytes]
  rintro e w3 ⟨rfl, hf3⟩
  go_wp2_with fail
  refine (count_calls 3 2 true _).mono ?_
  rw [fx_count]
  rintro e w4 ⟨rfl, hf4⟩
  go_wp2_with fail
  refine (at_calls 4 3 2 _).mono ?_
  rw [fx_at]
  unfold passV
  rintro e w5 ⟨rfl, hf5⟩
  go_wp2_with fail
  trace_state
  go_ret
  exact ⟨rfl, (((hf1.then hf2).then hf3).then hf4).then hf5⟩
end Go.Proofs.Ytkhglmmidgfliaa

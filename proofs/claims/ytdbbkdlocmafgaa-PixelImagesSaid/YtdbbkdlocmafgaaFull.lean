/- The contract of the document's full: a sample drawn out to sixteen bits. -/
import Derived.Test.YtdbbkdlocmafgaaOf
namespace Go.Proofs.Ytdbbkdlocmafgaa
open Go.RowKit Go.Proofs.HK
set_option linter.unusedVariables false
set_option linter.unusedSimpArgs false

set_option maxRecDepth 100000 in
set_option maxHeartbeats 1600000 in
theorem full_calls (dn y P st : Nat) (hP : 2 ≤ P ∧ P ≤ 65536) (hst : (P - 1) * st = 65535) (hpw : wrap64 ((2 : Int) ^ dn) = (P : Int)) (hd : dn ≤ 16) (hy : y ≤ P - 1) (w : World) :
    Calls Try.prog 35 #[.int .i64 y, .int .i64 dn] w fun e w' => e = .returned (.int .u16 ((y * st : Nat) : Int)) ∧ w' = w := by
  obtain ⟨z, hz⟩ : ∃ z, z = y * st := ⟨_, rfl⟩
  have hz2 : z ≤ 65535 := by rw [hz, ← hst]; exact Nat.mul_le_mul_right _ hy
  have hq : y * 65535 / (P - 1) = z := by
    rw [← hst, hz, show y * ((P - 1) * st) = (P - 1) * (y * st) by rw [Nat.mul_left_comm]]
    exact Nat.mul_div_cancel_left _ (by omega)
  have hdiv : ((y : Int) * 65535) / ((P : Int) - 1) = (z : Int) := by
    rw [show (P : Int) - 1 = ((P - 1 : Nat) : Int) by omega, show (y : Int) * 65535 = ((y * 65535 : Nat) : Int) by simp, ← hq]; rfl
  rw [← hz]
  have HD := hid hdiv
  have p1 := hP.1
  have p2 := hP.2
  clear hz hq hst hdiv hP
  go_enter Try.func35, Try.ntmps35
  go_wp2_with fail
  clear hpw
  rw [HD.out, show IntKind.u16.wrap (z : Int) = (z : Int) by simp [IntKind.wrap, IntKind.bits, IntKind.signed]; omega]
  go_ret
  exact ⟨rfl, rfl⟩
end Go.Proofs.Ytdbbkdlocmafgaa

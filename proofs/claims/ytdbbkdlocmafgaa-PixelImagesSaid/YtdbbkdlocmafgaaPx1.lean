/- The contracts of what tells a depth, and of what asks whether numbers are within bounds. -/
import Derived.Test.YtdbbkdlocmafgaaSInts
namespace Go.Proofs.Ytdbbkdlocmafgaa
open Go.RowKit Go.Proofs.HK
set_option linter.unusedVariables false
set_option linter.unusedSimpArgs false
attribute [local go_sem] max2_int min2_int max_two min_two

def depB (d : Int) : Bool := decide (d = 1 ∨ d = 2 ∨ d = 4 ∨ d = 8 ∨ d = 16)
def popc (n : Nat) : Nat := n % 2 + n / 2 % 2 + n / 4 % 2 + n / 8 % 2 + n / 16 % 2
theorem range16 {d : Int} (h1 : 1 ≤ d) (h2 : d ≤ 16) : d = 1 ∨ d = 2 ∨ d = 3 ∨ d = 4 ∨ d = 5 ∨ d = 6 ∨ d = 7 ∨ d = 8 ∨ d = 9 ∨ d = 10 ∨ d = 11 ∨ d = 12 ∨ d = 13 ∨ d = 14 ∨ d = 15 ∨ d = 16 := by omega
set_option maxRecDepth 100000 in
set_option maxHeartbeats 1600000 in
theorem ones_calls (d : Int) (h1 : 1 ≤ d) (h2 : d ≤ 16) (w : World) : Calls Try.prog 37 #[.int .u64 d] w fun e w' => e = .returned (.int .i64 (popc d.toNat)) ∧ w' = w := by
  rcases range16 h1 h2 with rfl | rfl | rfl | rfl | rfl | rfl | rfl | rfl | rfl | rfl | rfl | rfl | rfl | rfl | rfl | rfl
  all_goals
    clear h1 h2
    go_enter Try.func37, Try.ntmps37
    go_wp2
    go_ret
    exact ⟨by kernel_rfl, rfl⟩
end Go.Proofs.Ytdbbkdlocmafgaa

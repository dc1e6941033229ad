/- The contracts of the references of layers 1 and 2, and of what puts numbers into bytes. -/
import Derived.Test.YtdbbkdlocmafgaaOct
import Derived.Lib.ConvBytes
namespace Go.Proofs.Ytdbbkdlocmafgaa
open Go.RowKit Go.Proofs.HK
set_option linter.unusedVariables false
set_option linter.unusedSimpArgs false
attribute [local go_sem] max2_int min2_int max_two min_two

theorem u8zero : (Try.prog.info? 5).map (·.zero) = some (some (.int .u8 0)) := by kernel_rfl

theorem u8U : Try.prog.underlying 5 = some (.int .u8) := Try.underlying5
theorem strU : Try.prog.underlying 9 = some .string := Try.underlying9
theorem same_calls (A A' : Option Addr) (xs ys : List UInt8) (n n' c c' : Nat) (hn : xs.length = n) (hn' : ys.length = n') (w : World) (hx : Rd B w A xs) (hy : Rd B w A' ys) :
    Calls Try.prog 13 #[.slice A n c, .slice A' n' c'] w fun e w' => e = .returned (.bool (decide (xs = ys))) ∧ w' = w := by
  have h1 := conv_bytes slU8 u8U strU hx n c hn
  have h2 := conv_bytes slU8 u8U strU hy n' c' hn'
  have H : Hid (((mkS xs).toList == (mkS ys).toList) = decide (xs = ys)) := by
    show _ = _
    rw [mkS_toList, mkS_toList]; by_cases h : xs = ys <;> simp [h]
  clear hx hy hn hn'
  go_enter Try.func13, Try.ntmps13
  go_wp2
  go_ret
  exact ⟨by rw [← H.out]; rfl, rfl⟩
end Go.Proofs.Ytdbbkdlocmafgaa

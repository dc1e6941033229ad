/- The contract of pixel's color, where the kind has no table, in one. -/
import Derived.Test.YtdbbkdlocmafgaaColor2
import Derived.Test.YtdbbkdlocmafgaaColor3
import Derived.BigRegion
namespace Go.Proofs.Ytdbbkdlocmafgaa
open Go.RowKit Go.Proofs.HK
set_option linter.unusedVariables false
set_option linter.unusedSimpArgs false
attribute [local go_sem] max2_int min2_int max_two min_two

theorem color_n (r : RS) (A : Option Addr) (ys : List Nat) (m c : Nat) (w : World) (hr : r.ok w) (hm : mayS r.W r.H r.C r.D = true) (hx : ys.length = m) (hxr : Rd II w A (ys.map fun y : Nat => (y : Int))) (hlen : (m : Int) = samS r.C)
    (hv : ∀ y ∈ ys, y ≤ 2 ^ r.D.toNat - 1) (hc : r.C ≠ 3) : Calls Try.prog 31 #[r.v, .slice A m c] w fun e w' => e = .returned (colS r (ys.map fun y : Nat => (y : Int))).v ∧ Fr No w w' := by
  by_cases h0 : r.cl.length = 0
  · exact color_n0 r A ys m c w hr hm hx hxr hlen hv hc h0
  · by_cases h1 : r.cl = ys.map fun y : Nat => (y : Int)
    · exact color_p r A ys m c w hr hm hx hxr hlen hv hc h0 h1
    · exact color_q r A ys m c w hr hm hx hxr hlen hv hc h0 h1
end Go.Proofs.Ytdbbkdlocmafgaa

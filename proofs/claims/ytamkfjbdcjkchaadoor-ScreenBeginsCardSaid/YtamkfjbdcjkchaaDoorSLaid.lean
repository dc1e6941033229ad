/- What a row's list of variables gives: the table of the library stands in its block. -/
import Derived.Test.YtamkfjbdcjkchaaDoorRows
import Derived.Test.YtamkfjbdcjkchaaDoorSOnes
import Derived.ProofKit
import Derived.LaidMore
import Derived.Deep.DeepLaidRun
import Derived.Deep.DeepHandedRow
import Derived.OpenShut
import Derived.Stop.Joined
namespace Go.Proofs.YtamkfjbdcjkchaaDoor
open Go.ChangeShapes Go.WideShapes Go.ChangeAt Go.RowKit Go.Proofs.HK
set_option linter.unusedVariables false
def laidL : List (String × DataW Unit) := [("math/bits.deBruijn32tab", Rows.laid_math_bits_deBruijn32tab), ("math/bits.deBruijn64tab", Rows.laid_math_bits_deBruijn64tab)]
theorem g32 : Tryd.prog.globalNamed "math/bits.deBruijn32tab" = some 0 := by kernel_rfl
theorem g64 : Tryd.prog.globalNamed "math/bits.deBruijn64tab" = some 1 := by kernel_rfl
theorem gt64 : (Tryd.prog.globals[1]?).map (·.type) = some 84 := by kernel_rfl
theorem tab_of_laid {W : World} (h : laidMetH Tryd.prog laidL W) : TabW W := by
  rw [MakeChecks.laidMetH_plain _ _ _ (by kernel_rfl)] at h
  obtain ⟨ps, ⟨g0, t0, cs0, f0, p0, q0, hg0, ht0, hv0, hd0, ⟨g1, t1, cs1, f1, p1, q1, hg1, ht1, hv1, hd1, _, _⟩, _⟩, _, _⟩ := h
  obtain rfl := Option.some.inj (g64.symm.trans hg1)
  obtain rfl := Option.some.inj (gt64.symm.trans ht1)
  obtain ⟨xs, m1, rfl, hx1, hlen, hn3, hel⟩ := DataW.trod_array Tryd.underlying84 hd1
  have c1 : Tryd.prog.cellsOf 5 = 1 := by kernel_rfl
  have c64 : Tryd.prog.cellsOf 84 = 64 := by kernel_rfl
  rw [c64] at hlen
  have hxs : xs.map (·.1) = dbL.map fun v : Nat => .lit (.int .u8 (v : Int)) := by
    have h1 := congrArg Prod.fst hx1
    have h2 : (Rows.laid_math_bits_deBruijn64tab : DataW Unit) = .agg (dbL.map fun v : Nat => .lit (.int .u8 (v : Int))) := by kernel_rfl
    have h3 := h2.symm.trans h1
    injection h3 with h3
    exact h3.symm
  intro i v hi
  have hil : i < dbL.length := (List.getElem?_eq_some_iff.1 hi).1
  have hil2 : i < 64 := hil
  have he := hel i hil2
  rw [c1, Nat.mul_one] at he
  have hlt : i < cs1.toList.length := by rw [hlen]; exact hil2
  rw [List.getElem?_eq_getElem (by rw [hn3]; exact hil2)] at he
  obtain ⟨k, e1, e2, _⟩ := DataW.trod_int Tryd.underlying5 he
  have e3 : xs[i].1 = .lit (.int .u8 (v : Int)) := by
    have h1 := congrArg (fun l => l[i]?) hxs
    simp only [List.getElem?_map, hi, List.getElem?_eq_getElem (show i < xs.length by rw [hn3]; exact hil2), Option.map_some, Option.some.injEq] at h1
    exact h1
  rw [e2] at e3
  simp only [DataW.lit.injEq, Lit.int.injEq, true_and] at e3
  subst e3
  have hc : cs1[i]? = some (.int .u8 (v : Int)) := by
    have h1 := congrArg (fun l => l[0]?) e1
    rw [List.getElem?_take, if_pos (by omega), List.getElem?_drop] at h1
    simpa using h1
  have := World.var?_cell g64 hv1 i
  rw [this]
  exact hc
theorem door_met (os : Os) (args : Array Value) : laidMetH Tryd.prog laidL ((World.doorLaid Tryd.prog 4000 os).forCall (fun _ _ => 0) ⟨#[], args, []⟩).memory := by
  rw [MakeChecks.laidMetH_plain _ _ _ (by kernel_rfl)]
  exact laidMet_of_run3 8 (by kernel_rfl) (by kernel_rfl) (by kernel_rfl)
end Go.Proofs.YtamkfjbdcjkchaaDoor

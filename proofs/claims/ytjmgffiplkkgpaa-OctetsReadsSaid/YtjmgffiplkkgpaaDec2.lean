/- How an ask of the laws of layer 2 is read. -/
import Derived.Test.YtjmgffiplkkgpaaLaw2b
import Derived.Test.YtjmgffiplkkgpaaOpen
namespace Go.Proofs.Ytjmgffiplkkgpaa
open Go.RowKit Go.Proofs.HK
def askD2 : Dec Try.prog 42 (Int × Int × Int × Unit) :=
  Dec.struct Try.underlying42 (FDec.cons _ 1 (Dec.int (k := .u8) Try.underlying5) rfl (by kernel_rfl) (FDec.cons _ 1 (Dec.int (k := .i64) Try.underlying3) rfl (by kernel_rfl) (FDec.cons _ 1 (Dec.int (k := .i64) Try.underlying24) rfl (by kernel_rfl) (FDec.nil _ _)))) (by kernel_rfl)
theorem askD2_K {w : World} {x : Int × Int × Int × Unit} {es : List Value} (h : askD2.K w x es) : AskK w x es := by
  obtain ⟨e1, e2, rfl, _, ⟨rfl, h1⟩, e3, e4, rfl, _, ⟨rfl, _⟩, e5, e6, rfl, _, ⟨rfl, _⟩, h6⟩ := h
  obtain rfl : e6 = [] := h6
  exact ⟨rfl, bounds_u8 h1⟩
end Go.Proofs.Ytjmgffiplkkgpaa

/- How a put of the laws of layer 1 is read. -/
import Derived.Test.YtjmgffiplkkgpaaBBack
import Derived.Test.YtjmgffiplkkgpaaOpen
namespace Go.Proofs.Ytjmgffiplkkgpaa
open Go.RowKit Go.Proofs.HK
def putD : Dec Try.prog 59 PutT :=
  Dec.struct Try.underlying59 (FDec.cons _ 1 (Dec.int (k := .i64) Try.underlying3) rfl (by kernel_rfl) (FDec.cons _ 1 (Dec.int (k := .i64) Try.underlying3) rfl (by kernel_rfl) (FDec.cons _ 1 (Dec.bool Try.underlying4) rfl (by kernel_rfl) (FDec.nil _ _)))) (by kernel_rfl)
theorem putD_K {w : World} {x : PutT} {es : List Value} (h : putD.K w x es) : PutK w x es := by
  obtain ⟨e1, e2, rfl, _, ⟨rfl, h1⟩, e3, e4, rfl, _, ⟨rfl, _⟩, e5, e6, rfl, _, rfl, h6⟩ := h
  obtain rfl : e6 = [] := h6
  exact ⟨rfl, bounds_i64 h1⟩
end Go.Proofs.Ytjmgffiplkkgpaa

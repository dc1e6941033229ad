/- How an ask of the laws of layer 1 is read. -/
import Derived.Test.YtjmgffiplkkgpaaBReads2
import Derived.Test.YtjmgffiplkkgpaaOpen
namespace Go.Proofs.Ytjmgffiplkkgpaa
open Go.RowKit Go.Proofs.HK
def bytesD1 : Dec Try.prog 22 (List UInt8) := Dec.slice (Dec.u8 Try.underlying5) (sz := 1) (bytes := 1) Try.underlying22 (by kernel_rfl) (by kernel_rfl)
def askD1 : Dec Try.prog 71 AskT1 :=
  Dec.struct Try.underlying71 (FDec.cons _ 1 (Dec.int (k := .u8) Try.underlying5) rfl (by kernel_rfl) (FDec.cons _ 1 (Dec.int (k := .i64) Try.underlying3) rfl (by kernel_rfl) (FDec.cons _ 1 bytesD1 rfl (by kernel_rfl) (FDec.nil _ _)))) (by kernel_rfl)
theorem askD1_K {w : World} {x : AskT1} {es : List Value} (h : askD1.K w x es) : Ask1K w x es := by
  obtain ⟨e1, e2, rfl, _, ⟨rfl, h1⟩, e3, e4, rfl, _, ⟨rfl, _⟩, e5, e6, rfl, _, ⟨A, n, c, rfl, hs⟩, h6⟩ := h
  obtain rfl : e6 = [] := h6
  exact ⟨A, n, c, rfl, hs.sl (fun _ _ h => h), bounds_u8 h1⟩
end Go.Proofs.Ytjmgffiplkkgpaa

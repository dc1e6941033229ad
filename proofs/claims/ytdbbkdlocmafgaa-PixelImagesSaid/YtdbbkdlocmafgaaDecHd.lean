/- How a head is read. -/
import Derived.Test.YtdbbkdlocmafgaaHead
import Derived.Test.YtdbbkdlocmafgaaOpen
namespace Go.Proofs.Ytdbbkdlocmafgaa
open Go.RowKit Go.WideShapes Go.Proofs.HK
abbrev HeadT := Int × Int × Int × Int × Bool × Unit
def headD : Dec Try.prog 31 HeadT :=
  Dec.struct Try.underlying31 (FDec.cons _ 1 (Dec.int (k := .i64) Try.underlying3) rfl (by kernel_rfl) (FDec.cons _ 1 (Dec.int (k := .i64) Try.underlying3) rfl (by kernel_rfl) (FDec.cons _ 1 (Dec.int (k := .i64) Try.underlying3) rfl (by kernel_rfl) (FDec.cons _ 1 (Dec.int (k := .i64) Try.underlying3) rfl (by kernel_rfl) (FDec.cons _ 1 (Dec.bool Try.underlying4) rfl (by kernel_rfl) (FDec.nil _ _)))))) (by kernel_rfl)
set_option maxRecDepth 100000 in
theorem headD_val {W : World} {base : Nat} {v : Value} {x : HeadT} (hok : Value.okWide Try.prog W .any base 31 v) (hx : headD.K W x v.cells.toList) : v = headV x.1 x.2.1 x.2.2.1 x.2.2.2.1 x.2.2.2.2.1 := by
  obtain ⟨cs, rfl, _⟩ := okWide_struct Try.underlying31 hok
  obtain ⟨e1, e2, h0, _, ⟨rfl, _⟩, e3, e4, rfl, _, ⟨rfl, _⟩, e5, e6, rfl, _, ⟨rfl, _⟩, e7, e8, rfl, _, ⟨rfl, _⟩, e9, e10, rfl, _, rfl, h6⟩ := hx
  obtain rfl : e10 = [] := h6
  simp only [Value.cells] at h0
  unfold headV
  congr 1
  exact Array.toList_inj.1 h0
end Go.Proofs.Ytdbbkdlocmafgaa

/- How a token is read. -/
import Derived.Test.YtponiapdpecioaaTokW
import Derived.Test.YtponiapdpecioaaOpen
namespace Go.Proofs.Ytponiapdpecioaa
open Go.RowKit Go.WideShapes Go.Proofs.HK
set_option linter.unusedVariables false
def bytesD : Dec Try.prog 23 (List UInt8) := Dec.slice (Dec.u8 Try.underlying5) (sz := 1) (bytes := 1) Try.underlying23 (by kernel_rfl) (by kernel_rfl)
abbrev TokT := Int × Int × List UInt8 × Unit
def tokD : Dec Try.prog 25 TokT :=
  Dec.struct Try.underlying25 (FDec.cons _ 1 (Dec.int (k := .i64) Try.underlying3) rfl (by kernel_rfl) (FDec.cons _ 1 (Dec.int (k := .u32) Try.underlying22) rfl (by kernel_rfl) (FDec.cons _ 1 bytesD rfl (by kernel_rfl) (FDec.nil _ _)))) (by kernel_rfl)
theorem bytes_of {W : World} {xs : List UInt8} {cs : List Value} (h : bytesD.K W xs cs) : ∃ A c, cs = [.slice A xs.length c] ∧ Rd B W A xs ∧ xs.length ≤ c ∧ xs.length ≤ 140737488355328 := by
  obtain ⟨A, n, c, rfl, h⟩ := h
  have hs := h.sl (f := B) (fun _ _ h => h)
  have hn := h.len
  subst hn
  exact ⟨A, c, rfl, hs.rd, h.cap, by have := h.reach; omega⟩
set_option maxRecDepth 100000 in
theorem tokD_val {W : World} {base : Nat} {v : Value} {x : TokT} (hok : Value.okWide Try.prog W .any base 25 v) (hx : tokD.K W x v.cells.toList) :
    ∃ (F : Int) (S : Nat) (A : Option Addr) (D : List UInt8) (c : Nat), v = tokV F S A D.length c ∧ S < 4294967296 ∧ Rd B W A D ∧ D.length ≤ c ∧ D.length ≤ 140737488355328 := by
  obtain ⟨cs, rfl, _⟩ := okWide_struct Try.underlying25 hok
  obtain ⟨e1, e2, h0, _, ⟨rfl, _⟩, e3, e4, rfl, _, ⟨rfl, hS⟩, e5, e6, rfl, _, hd, h6⟩ := hx
  obtain rfl : e6 = [] := h6
  obtain ⟨A, c, rfl, h1, h2, h3⟩ := bytes_of hd
  have hSb := bounds_u32 hS
  obtain ⟨S, hSe⟩ := Int.eq_ofNat_of_zero_le hSb.1
  refine ⟨x.1, S, A, x.2.2.1, c, ?_, by omega, h1, h2, h3⟩
  simp only [Value.cells] at h0
  unfold tokV
  congr 1
  refine Array.toList_inj.1 (h0.trans ?_)
  simp [hSe]
end Go.Proofs.Ytponiapdpecioaa

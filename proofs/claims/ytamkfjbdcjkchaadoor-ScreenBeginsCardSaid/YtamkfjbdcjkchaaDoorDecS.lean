/- How a screen is read. -/
import Derived.Test.YtamkfjbdcjkchaaDoorSExt
import Derived.Test.YtamkfjbdcjkchaaDoorOpen
namespace Go.Proofs.YtamkfjbdcjkchaaDoor
open Go.RowKit Go.WideShapes Go.Proofs.HK
set_option linter.unusedVariables false
/-- How a colour is read. -/
abbrev TintT := UInt8 × UInt8 × UInt8 × Unit
def tintD : Dec Tryd.prog 58 TintT :=
  Dec.struct Tryd.underlying58 (FDec.cons _ 1 (Dec.u8 Tryd.underlying5) rfl (by kernel_rfl) (FDec.cons _ 1 (Dec.u8 Tryd.underlying5) rfl (by kernel_rfl) (FDec.cons _ 1 (Dec.u8 Tryd.underlying5) rfl (by kernel_rfl) (FDec.nil _ _)))) (by kernel_rfl)
theorem tintD_cells {W : World} {x : TintT} {es : List Value} (h : tintD.K W x es) : es = [B x.1, B x.2.1, B x.2.2.1] := by
  obtain ⟨e1, e2, rfl, _, rfl, e3, e4, rfl, _, rfl, e5, e6, rfl, _, rfl, rfl⟩ := h
  rfl
/-- A table of colours that came in, as bytes. -/
def tbytes (xs : List TintT) : List UInt8 := xs.flatMap fun x => [x.1, x.2.1, x.2.2.1]
theorem tbytes_length (xs : List TintT) : (tbytes xs).length = 3 * xs.length := by
  induction xs with
  | nil => rfl
  | cons a xs ih => unfold tbytes at *; rw [List.flatMap_cons, List.length_append, ih, List.length_cons]; simp; omega
theorem tbytes_get (xs : List TintT) (i j : Nat) (hi : i < xs.length) (hj : j < 3) : (tbytes xs)[i * 3 + j]? = [xs[i].1, xs[i].2.1, xs[i].2.2.1][j]? := by
  induction xs generalizing i with
  | nil => simp at hi
  | cons a xs ih =>
    unfold tbytes at *
    rw [List.flatMap_cons]
    cases i with
    | zero =>
      rw [List.getElem?_append_left (by simp; omega)]
      simp
    | succ i =>
      rw [List.getElem?_append_right (by simp; omega)]
      have := ih i (by simpa using hi)
      rw [show (i + 1) * 3 + j - [a.1, a.2.1, a.2.2.1].length = i * 3 + j by simp; omega, this]
      simp
theorem tints_cells {W : World} {A : Option Addr} {xs : List TintT} {n c : Nat} (h : SlM tintD.K 3 3 W A xs n c) : Cells W A ((tbytes xs).map B) := fun h0 => by
  have hl : 0 < xs.length := by rw [List.length_map, tbytes_length] at h0; omega
  obtain ⟨ad, es, hA, _⟩ := h.at_ 0 hl
  refine ⟨ad, hA, fun j u hu => ?_⟩
  obtain ⟨hj, _⟩ := List.getElem?_eq_some_iff.1 hu
  rw [List.length_map, tbytes_length] at hj
  have hi : j / 3 < xs.length := by omega
  obtain ⟨ad', es', hA', he, hc, hk⟩ := h.at_ (j / 3) hi
  rw [hA] at hA'
  injection hA' with hA'
  subst hA'
  have hjj : j / 3 * 3 + j % 3 = j := by omega
  have h1 := hc (j % 3) (by omega)
  rw [hjj, tintD_cells hk] at h1
  rw [h1, ← hu, List.getElem?_map]
  conv => rhs; rw [← hjj]
  rw [tbytes_get xs (j / 3) (j % 3) hi (by omega)]
  have h3 : j % 3 = 0 ∨ j % 3 = 1 ∨ j % 3 = 2 := by omega
  rcases h3 with e | e | e <;> rw [e] <;> rfl

set_option maxRecDepth 100000 in
def tintsD : Dec Tryd.prog 24 (List TintT) := Dec.slice tintD (sz := 3) (bytes := 3) Tryd.underlying24 (by kernel_rfl) (by kernel_rfl)
theorem tints_of {W : World} {xs : List TintT} {cs : List Value} (h : tintsD.K W xs cs) : ∃ A n c, cs = [.slice A n c] ∧ (tbytes xs).length = 3 * n ∧ Cells W A ((tbytes xs).map B) ∧ n ≤ 46912496117077 := by
  obtain ⟨A, n, c, rfl, h⟩ := h
  refine ⟨A, n, c, rfl, by rw [tbytes_length, h.len], tints_cells h, by have := h.reach; omega⟩
def i64D : Dec Tryd.prog 3 Int := Dec.int (k := .i64) Tryd.underlying3
def boolD : Dec Tryd.prog 4 Bool := Dec.bool Tryd.underlying4
abbrev ScrT := Int × Int × List TintT × Bool × Int × Bool × Int × Unit
def scrD : Dec Tryd.prog 26 ScrT :=
  Dec.struct Tryd.underlying26 (FDec.cons _ 1 i64D rfl (by kernel_rfl) (FDec.cons _ 1 i64D rfl (by kernel_rfl) (FDec.cons _ 1 tintsD rfl (by kernel_rfl) (FDec.cons _ 1 boolD rfl (by kernel_rfl) (FDec.cons _ 1 i64D rfl (by kernel_rfl) (FDec.cons _ 1 boolD rfl (by kernel_rfl) (FDec.cons _ 1 i64D rfl (by kernel_rfl) (FDec.nil _ _)))))))) (by kernel_rfl)
set_option maxRecDepth 100000 in
theorem scrD_val {W : World} {base : Nat} {v : Value} {x : ScrT} (hok : Value.okWide Tryd.prog W .any base 26 v) (hx : scrD.K W x v.cells.toList) :
    ∃ (sW sH : Int) (T : List UInt8) (L : Bool) (C : Int) (I : Bool) (K : Int) (A : Option Addr) (n c : Nat), v = .agg #[.int .i64 sW, .int .i64 sH, .slice A n c, .bool L, .int .i64 C, .bool I, .int .i64 K] ∧ T.length = 3 * n ∧ Cells W A (T.map B) ∧ n ≤ 46912496117077 ∧
      (-9223372036854775808 ≤ sW ∧ sW ≤ 9223372036854775807) ∧ (-9223372036854775808 ≤ sH ∧ sH ≤ 9223372036854775807) := by
  obtain ⟨cs, rfl, _⟩ := okWide_struct Tryd.underlying26 hok
  obtain ⟨a0, t0, h0, _, ⟨rfl, hW⟩, a1, t1, rfl, _, ⟨rfl, hH⟩, a2, t2, rfl, _, ht, a3, t3, rfl, _, rfl, a4, t4, rfl, _, ⟨rfl, _⟩, a5, t5, rfl, _, rfl, a6, t6, rfl, _, ⟨rfl, _⟩, h7⟩ := hx
  obtain rfl : t6 = [] := h7
  obtain ⟨A, n, c, rfl, r1, r2, r3⟩ := tints_of ht
  have hWb := bounds_i64 hW
  have hHb := bounds_i64 hH
  refine ⟨x.1, x.2.1, _, x.2.2.2.1, x.2.2.2.2.1, x.2.2.2.2.2.1, x.2.2.2.2.2.2.1, A, n, c, ?_, r1, r2, r3, hWb, hHb⟩
  simp only [Value.cells] at h0
  congr 1
  exact Array.toList_inj.1 h0
end Go.Proofs.YtamkfjbdcjkchaaDoor

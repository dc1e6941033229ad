/- How a message is read. -/
import Derived.Test.YtamkfjbdcjkchaaSegA
import Derived.Test.YtamkfjbdcjkchaaOpen
namespace Go.Proofs.Ytamkfjbdcjkchaa
open Go.RowKit Go.WideShapes Go.Proofs.HK
set_option linter.unusedVariables false
def bytesD : Dec Try.prog 24 (List UInt8) := Dec.slice (Dec.u8 Try.underlying5) (sz := 1) (bytes := 1) Try.underlying24 (by kernel_rfl) (by kernel_rfl)
theorem two_cells {cs : List Value} {a b : Value} (hl : cs.length = 2) (h0 : (cs.drop 0).take 1 = [a]) (h1 : (cs.drop 1).take 1 = [b]) : cs = [a, b] := by
  match cs, hl with
  | [x, y], _ => simp at h0 h1; rw [h0, h1]
def pairD : Dec Try.prog 53 (Int × Int) where
  K _ a cs := cs = [.int .i64 a.1, .int .i64 a.2]
  ok enc w base spare held fuel cs x h _ := by
    obtain ⟨xs, m, _, _, hl, hx, hf⟩ := DataW.trod_array (n := 2) (e := 3) Try.underlying53 h
    have hc1 : Try.prog.cellsOf 3 = 1 := by kernel_rfl
    have hc2 : Try.prog.cellsOf 53 = 2 := by kernel_rfl
    rw [hc2] at hl
    have f0 := hf 0 (by omega)
    have f1 := hf 1 (by omega)
    rw [hc1, List.getElem?_eq_getElem (by omega)] at f0 f1
    obtain ⟨a, ha, _, _⟩ := DataW.trod_int Try.underlying3 f0
    obtain ⟨b, hb, _, _⟩ := DataW.trod_int Try.underlying3 f1
    exact ⟨(a, b), two_cells hl (by simpa using ha) (by simpa using hb)⟩
def rngsD : Dec Try.prog 23 (List (Int × Int)) := Dec.slice pairD (sz := 2) (bytes := 16) Try.underlying23 (by kernel_rfl) (by kernel_rfl)
abbrev MsgT := Int × Int × Int × Int × Int × Int × Int × Int × Int × Int × List (Int × Int) × List UInt8 × Unit
def i64D : Dec Try.prog 3 Int := Dec.int (k := .i64) Try.underlying3
def u32D : Dec Try.prog 22 Int := Dec.int (k := .u32) Try.underlying22
def msgD : Dec Try.prog 26 MsgT :=
  Dec.struct Try.underlying26 (FDec.cons _ 1 i64D rfl (by kernel_rfl) (FDec.cons _ 1 u32D rfl (by kernel_rfl) (FDec.cons _ 1 i64D rfl (by kernel_rfl) (FDec.cons _ 1 u32D rfl (by kernel_rfl)
    (FDec.cons _ 1 i64D rfl (by kernel_rfl) (FDec.cons _ 1 i64D rfl (by kernel_rfl) (FDec.cons _ 1 i64D rfl (by kernel_rfl) (FDec.cons _ 1 i64D rfl (by kernel_rfl) (FDec.cons _ 1 i64D rfl (by kernel_rfl) (FDec.cons _ 1 i64D rfl (by kernel_rfl)
    (FDec.cons _ 1 rngsD rfl (by kernel_rfl) (FDec.cons _ 1 bytesD rfl (by kernel_rfl) (FDec.nil _ _))))))))))))) (by kernel_rfl)
theorem bytes_of {W : World} {xs : List UInt8} {cs : List Value} (h : bytesD.K W xs cs) : ∃ A c, cs = [.slice A xs.length c] ∧ Rd B W A xs ∧ xs.length ≤ c ∧ xs.length ≤ 140737488355328 := by
  obtain ⟨A, n, c, rfl, h⟩ := h
  have hs := h.sl (f := B) (fun _ _ h => h)
  have hn := h.len
  subst hn
  exact ⟨A, c, rfl, hs.rd, h.cap, by have := h.reach; omega⟩
theorem rngs_of {W : World} {xs : List (Int × Int)} {cs : List Value} (h : rngsD.K W xs cs) : ∃ A c, cs = [.slice A xs.length c] ∧ Cells W A (rngC xs) ∧ xs.length ≤ c ∧ xs.length * 16 ≤ 140737488355328 := by
  obtain ⟨A, n, c, rfl, h⟩ := h
  have hn := h.len
  subst hn
  refine ⟨A, c, rfl, fun h0 => ?_, h.cap, by have := h.reach; omega⟩
  rw [rngC_length] at h0
  obtain ⟨ad, es, e, _⟩ := h.at_ 0 (by omega)
  refine ⟨ad, e, fun j u hu => ?_⟩
  have hj : j < xs.length * 2 := by
    have := (List.getElem?_eq_some_iff.1 hu).1
    rwa [rngC_length] at this
  obtain ⟨ad', es', e', h1, h2, h3⟩ := h.at_ (j / 2) (by omega)
  rw [e] at e'
  injection e' with e'
  subst e'
  have h3 : es' = [.int .i64 xs[j / 2].1, .int .i64 xs[j / 2].2] := h3
  obtain ⟨g1, g2⟩ := rngC_get xs (j / 2) (by omega)
  have h4 := h2 (j % 2) (by omega)
  rw [show j / 2 * 2 + j % 2 = j by omega] at h4
  rw [h4, h3]
  by_cases hm : j % 2 = 0
  · rw [show j / 2 * 2 = j by omega, hu] at g1
    rw [hm, g1]; rfl
  · have hm : j % 2 = 1 := by omega
    rw [show j / 2 * 2 + 1 = j by omega, hu] at g2
    rw [hm, g2]; rfl
set_option maxRecDepth 100000 in
theorem msgD_val {W : World} {base : Nat} {v : Value} {x : MsgT} (hok : Value.okWide Try.prog W .any base 26 v) (hx : msgD.K W x v.cells.toList) :
    ∃ (K : Int) (U : Nat) (F : Int) (S : Nat) (Z P Y X Q C : Int) (R : List (Int × Int)) (D : List UInt8) (rA dA : Option Addr) (rc dc : Nat), v = .agg #[.int .i64 K, .int .u32 (U : Int), .int .i64 F, .int .u32 (S : Int), .int .i64 Z, .int .i64 P, .int .i64 Y, .int .i64 X, .int .i64 Q, .int .i64 C, .slice rA R.length rc, .slice dA D.length dc] ∧
      U < 4294967296 ∧ S < 4294967296 ∧ Cells W rA (rngC R) ∧ R.length ≤ rc ∧ R.length * 16 ≤ 140737488355328 ∧ Rd B W dA D ∧ D.length ≤ dc ∧ D.length ≤ 140737488355328 := by
  obtain ⟨cs, rfl, _⟩ := okWide_struct Try.underlying26 hok
  obtain ⟨a0, t0, h0, _, ⟨rfl, _⟩, a1, t1, rfl, _, ⟨rfl, hU⟩, a2, t2, rfl, _, ⟨rfl, _⟩, a3, t3, rfl, _, ⟨rfl, hS⟩, a4, t4, rfl, _, ⟨rfl, _⟩, a5, t5, rfl, _, ⟨rfl, _⟩, a6, t6, rfl, _, ⟨rfl, _⟩, a7, t7, rfl, _, ⟨rfl, _⟩, a8, t8, rfl, _, ⟨rfl, _⟩, a9, t9, rfl, _, ⟨rfl, _⟩, a10, t10, rfl, _, hr, a11, t11, rfl, _, hd, h12⟩ := hx
  obtain rfl : t11 = [] := h12
  obtain ⟨rA, rc, rfl, r1, r2, r3⟩ := rngs_of hr
  obtain ⟨dA, dc, rfl, d1, d2, d3⟩ := bytes_of hd
  have hUb := bounds_u32 hU
  have hSb := bounds_u32 hS
  obtain ⟨U, hUe⟩ := Int.eq_ofNat_of_zero_le hUb.1
  obtain ⟨S, hSe⟩ := Int.eq_ofNat_of_zero_le hSb.1
  refine ⟨x.1, U, x.2.2.1, S, x.2.2.2.2.1, x.2.2.2.2.2.1, x.2.2.2.2.2.2.1, x.2.2.2.2.2.2.2.1, x.2.2.2.2.2.2.2.2.1, x.2.2.2.2.2.2.2.2.2.1, _, _, rA, dA, rc, dc, ?_, by omega, by omega, r1, r2, r3, d1, d2, d3⟩
  simp only [Value.cells] at h0
  congr 1
  refine Array.toList_inj.1 (h0.trans ?_)
  simp [hUe, hSe]
end Go.Proofs.Ytamkfjbdcjkchaa

/- How a raster is read. -/
import Derived.Test.YtdbbkdlocmafgaaRas
import Derived.Test.YtdbbkdlocmafgaaDecHd
namespace Go.Proofs.Ytdbbkdlocmafgaa
open Go.RowKit Go.WideShapes Go.Proofs.HK
set_option linter.unusedVariables false
abbrev TintT := UInt8 × UInt8 × UInt8 × Unit
def tintD : Dec Try.prog 62 TintT :=
  Dec.struct Try.underlying62 (FDec.cons _ 1 (Dec.u8 Try.underlying5) rfl (by kernel_rfl) (FDec.cons _ 1 (Dec.u8 Try.underlying5) rfl (by kernel_rfl) (FDec.cons _ 1 (Dec.u8 Try.underlying5) rfl (by kernel_rfl) (FDec.nil _ _)))) (by kernel_rfl)
def intsD : Dec Try.prog 22 (List Int) := Dec.slice (Dec.int (k := .i64) Try.underlying3) (sz := 1) (bytes := 8) Try.underlying22 (by kernel_rfl) (by kernel_rfl)
def tintsD : Dec Try.prog 32 (List TintT) := Dec.slice tintD (sz := 3) (bytes := 3) Try.underlying32 (by kernel_rfl) (by kernel_rfl)
abbrev RasT := HeadT × List TintT × List Int × List Int × List Int × Unit
def rasD : Dec Try.prog 34 RasT :=
  Dec.struct Try.underlying34 (FDec.cons _ 5 headD rfl (by kernel_rfl) (FDec.cons _ 1 tintsD rfl (by kernel_rfl) (FDec.cons _ 1 intsD rfl (by kernel_rfl) (FDec.cons _ 1 intsD rfl (by kernel_rfl) (FDec.cons _ 1 intsD rfl (by kernel_rfl) (FDec.nil _ _)))))) (by kernel_rfl)
theorem tint_cs {W : World} {x : TintT} {es : List Value} (h : tintD.K W x es) : es = tinC (x.1, x.2.1, x.2.2.1) := by
  obtain ⟨e1, e2, rfl, _, rfl, e3, e4, rfl, _, rfl, e5, e6, rfl, _, rfl, h6⟩ := h
  obtain rfl : e6 = [] := h6
  rfl
theorem slm_tins {W : World} {A : Option Addr} {xs : List TintT} {n c : Nat} (h : SlM tintD.K 3 3 W A xs n c) : Cells W A (tinsC (xs.map fun x => (x.1, x.2.1, x.2.2.1))) := by
  intro h0
  have hx : 0 < xs.length := by
    cases xs with
    | nil => simp [tinsC] at h0
    | cons => simp
  obtain ⟨ad, _, rfl, _, _, _⟩ := h.at_ 0 hx
  refine ⟨ad, rfl, fun j u hu => ?_⟩
  have hl : (tinsC (xs.map fun x => ((x.1, x.2.1, x.2.2.1) : Tin))).length = xs.length * 3 := by
    have : ∀ l : List Tin, (tinsC l).length = l.length * 3 := fun l => by
      induction l with
      | nil => rfl
      | cons p ps ih => unfold tinsC at *; rw [List.flatMap_cons, List.length_append, ih, List.length_cons]; simp [tinC]; omega
    rw [this, List.length_map]
  have hj : j < xs.length * 3 := by rw [← hl]; exact (List.getElem?_eq_some_iff.1 hu).1
  have hi : j / 3 < xs.length := by omega
  obtain ⟨ad', es, e, hes, hc, hk⟩ := h.at_ (j / 3) hi
  injection e with e
  subst e
  have h1 := hc (j % 3) (Nat.mod_lt _ (by omega))
  rw [show j / 3 * 3 + j % 3 = j by omega] at h1
  rw [h1, tint_cs hk, ← hu]
  have hg : ∀ (l : List Tin) (i k : Nat) (hi : i < l.length) (hk : k < 3), (tinsC l)[i * 3 + k]? = (tinC l[i])[k]? := fun l => by
    induction l with
    | nil => intro i k hi; simp at hi
    | cons p ps ih =>
      intro i k hi hk
      unfold tinsC at *
      rw [List.flatMap_cons]
      cases i with
      | zero => rw [List.getElem?_append_left (by simp [tinC]; omega)]; simp
      | succ i =>
        rw [List.getElem?_append_right (by simp [tinC]; omega)]
        have := ih i k (by simpa using hi) hk
        rw [show (i + 1) * 3 + k - (tinC p).length = i * 3 + k by simp [tinC]; omega, this]
        simp
  have := hg (xs.map fun x => ((x.1, x.2.1, x.2.2.1) : Tin)) (j / 3) (j % 3) (by rw [List.length_map]; exact hi) (Nat.mod_lt _ (by omega))
  rw [show j / 3 * 3 + j % 3 = j by omega] at this
  rw [this, List.getElem_map]
structure RS.rd (w : World) (r : RS) : Prop where
  t : Cells w r.tA (tinsC r.ts)
  a : Rd II w r.aA r.al
  c : Rd II w r.cA r.cl
  s : Rd II w r.sA r.sa
  tcap : r.ts.length ≤ r.tc
  acap : r.al.length ≤ r.ac
  ccap : r.cl.length ≤ r.cc
  scap : r.sa.length ≤ r.sc
def fewB (r : RS) : Bool := decide (r.sa.length ≤ 5000 ∧ r.ts.length ≤ 300 ∧ r.al.length ≤ 300 ∧ r.cl.length ≤ 10)
theorem RS.rd.ok {w : World} {r : RS} (h : r.rd w) (hf : fewB r = true) : r.ok w := by
  obtain ⟨h1, h2, h3, h4⟩ := of_decide_eq_true hf
  exact ⟨h.t, h.a, h.c, h.s, h.tcap, h.acap, h.ccap, h.scap, h2, h3, h4, h1⟩
theorem RS.rd.fr {w w' : World} {r : RS} (h : r.rd w) (hf : Fr No w w') : r.rd w' :=
  ⟨h.t.fr hf (fun _ _ h => h), h.a.fr0 hf, h.c.fr0 hf, h.s.fr0 hf, h.tcap, h.acap, h.ccap, h.scap⟩
theorem ints_of {W : World} {xs : List Int} {cs : List Value} (h : intsD.K W xs cs) : ∃ A c, cs = [.slice A xs.length c] ∧ Rd II W A xs ∧ xs.length ≤ c := by
  obtain ⟨A, n, c, rfl, h⟩ := h
  have hs := h.sl (f := Value.int .i64) (fun _ _ h => h.1)
  have hn := h.len
  subst hn
  exact ⟨A, c, rfl, hs.rd, h.cap⟩
set_option maxRecDepth 100000 in
theorem rasD_val {W : World} {base : Nat} {v : Value} {x : RasT} (hok : Value.okWide Try.prog W .any base 34 v) (hx : rasD.K W x v.cells.toList) : ∃ r : RS, v = r.v ∧ r.rd W := by
  obtain ⟨cs, rfl, _⟩ := okWide_struct Try.underlying34 hok
  obtain ⟨e1, e2, h0, _, hh, e3, e4, rfl, _, ht, e5, e6, rfl, _, ha, e7, e8, rfl, _, hc, e9, e10, rfl, _, hs, h6⟩ := hx
  obtain rfl : e10 = [] := h6
  obtain ⟨d1, d2, rfl, _, ⟨rfl, _⟩, d3, d4, rfl, _, ⟨rfl, _⟩, d5, d6, rfl, _, ⟨rfl, _⟩, d7, d8, rfl, _, ⟨rfl, _⟩, d9, d10, rfl, _, rfl, h7⟩ := hh
  obtain rfl : d10 = [] := h7
  obtain ⟨tA, tn, tc, rfl, htl⟩ := ht
  obtain ⟨aA, ac, rfl, ha1, ha2⟩ := ints_of ha
  obtain ⟨cA, cc, rfl, hc1, hc2⟩ := ints_of hc
  obtain ⟨sA, sc, rfl, hs1, hs2⟩ := ints_of hs
  refine ⟨⟨x.1.1, x.1.2.1, x.1.2.2.1, x.1.2.2.2.1, x.1.2.2.2.2.1, tA, x.2.1.map fun x => (x.1, x.2.1, x.2.2.1), tc, aA, x.2.2.1, ac, cA, x.2.2.2.1, cc, sA, x.2.2.2.2.1, sc⟩, ?_, ⟨slm_tins htl, ha1, hc1, hs1, ?_, ha2, hc2, hs2⟩⟩
  · simp only [Value.cells] at h0
    unfold RS.v RS.cs
    congr 1
    refine Array.toList_inj.1 (h0.trans ?_)
    simp [htl.len]
  · rw [List.length_map, htl.len]; exact htl.cap
end Go.Proofs.Ytdbbkdlocmafgaa

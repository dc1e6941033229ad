/- The document's Of, where the kind has no table. -/
import Derived.Test.YtdbbkdlocmafgaaROf1
import Derived.Deep.RegionHeld3
namespace Go.Proofs.Ytdbbkdlocmafgaa
open Go.RowKit Go.Proofs.HK
set_option linter.unusedVariables false
set_option linter.unusedSimpArgs false
attribute [local go_sem] max2_int min2_int max_two min_two

theorem tab_nc {r : RS} (h : tabS r = 0) (h3 : ¬ r.C = 3) (hlt : ¬ r.C < 3) : r.cl.length = 0 := by
  unfold tabS at h
  by_cases hm : mayS r.W r.H r.C r.D = false
  · rw [if_pos hm] at h; exact absurd h (by decide)
  · rw [if_neg hm, if_neg h3] at h
    by_cases h2 : r.ts.length + r.al.length = 0 ∧ witB r.cl (2 ^ r.D.toNat - 1) = true ∧ (r.cl.length = 0 ∨ r.C < 3 ∧ (r.cl.length : Int) = samS r.C)
    · rcases h2.2.2 with h4 | h4
      · exact h4
      · exact absurd h4.1 hlt
    · rw [if_neg h2] at h; exact absurd h (by decide)
theorem ofE_zero {r : RS} {s : List Int} (h : ofE r s = 0) : tabS r = 0 ∧ lookS r s (samS r.C) = 0 := by
  unfold ofE at h
  by_cases ht : tabS r = 0
  · rw [if_pos ht] at h; exact ⟨ht, h⟩
  · rw [if_neg ht] at h; exact absurd h ht
set_option maxRecDepth 100000 in
set_option maxHeartbeats 3200000 in
theorem refOf_0 (r : RS) (A : Option Addr) (y0 c : Nat) (w : World) (hr : r.ok w) (hC : r.C = 0) (hxr : Rd II w A [(y0 : Int)]) (hE : ofE r [(y0 : Int)] = 0) :
    Calls Try.prog 16 #[r.v, .slice A 1 c] w fun e w' => e = .returned (.tuple #[(ofC r [(y0 : Int)]).v, .int .i64 (ofE r [(y0 : Int)])]) ∧ Fr No w w' := by
  have hx : [(y0 : Int)].length = 1 := rfl
  have hl : (1 : Nat) ≤ 5000 := by decide
  have hOC : ofC r [(y0 : Int)] = colS r [(y0 : Int)] := by unfold ofC; rw [if_pos hE]
  rw [hOC, hE]
  clear hOC
  obtain ⟨hT, hK⟩ := ofE_zero hE
  clear hE
  obtain ⟨W, H, C, D, L, tA, ts, tc, aA, al, ac, cA, cl, cc, sA, sa, sc⟩ := r
  replace hC : C = 0 := hC
  subst hC
  have hm := (tab_facts hT).1
  have hlk := (look_facts hK).2.1
  replace hm : mayS W H 0 D = true := hm
  obtain ⟨m1, m2, m3, m4, m5, m6, m7, m8, m9⟩ := may_facts hm
  obtain ⟨dn, rfl, hd1, hd16⟩ : ∃ dn : Nat, D = dn ∧ 1 ≤ dn ∧ dn ≤ 16 := ⟨D.toNat, by omega, by omega, by omega⟩
  obtain ⟨P, st, ⟨s1, s2, s3, s4⟩, hqs, hpw, hdiv⟩ := dep_nums (dn := dn) (by omega)
  replace hlk : ∀ v ∈ [(y0 : Int)], 0 ≤ v ∧ v ≤ (2 : Int) ^ dn - 1 := hlk
  rw [show (2 : Int) ^ dn = (P : Int) by rw [hqs.2.1]; simp] at hlk
  have HPW := hid hpw
  have HQ := hid hqs
  clear hpw hdiv hqs
  obtain ⟨a0, ha0⟩ : ∃ a, a = y0 * st := ⟨_, rfl⟩
  have hb0 : y0 ≤ P - 1 := by have := (hlk (y0 : Int) (by simp)).2; omega
  have HF0 := hid (show ∀ w, Calls Try.prog 35 #[.int .i64 y0, .int .i64 dn] w fun e w' => e = .returned (.int .u16 (a0 : Int)) ∧ w' = w from fun w => by rw [ha0]; exact full_calls dn y0 P st ⟨s1, s2⟩ HQ.out.1 HPW.out hd16 hb0 w)
  have HCOL := hid (show colS ⟨W, H, 0, dn, L, tA, ts, tc, aA, al, ac, cA, cl, cc, sA, sa, sc⟩ [(y0 : Int)] = ((a0 : Int), (a0 : Int), (a0 : Int), if 0 < cl.length ∧ cl = [(y0 : Int)] then 0 else 65535) by
    rw [ha0]
    unfold colS
    rw [if_neg (show ¬ ((0 : Int) = 3) by decide)]
    simp [HQ.out.2.2])
  clear ha0 hb0 hm hlk m1 m2 m3 m4 m5 m6 m7 m8 m9 s1 s2 s3 s4 HQ HPW hd1 hd16
  obtain ⟨ad, rfl, hcs⟩ := hxr (by simp)
  have e0 := hcs 0 (by simp)
  have HE := hid e0
  clear hcs e0
  have HT0 := hid hT
  have HK0 := hid hK
  clear hT hK
  obtain ⟨nt, hnt⟩ : ∃ n, n = ts.length := ⟨_, rfl⟩
  obtain ⟨na, hna⟩ : ∃ n, n = al.length := ⟨_, rfl⟩
  obtain ⟨nc, hnc⟩ : ∃ n, n = cl.length := ⟨_, rfl⟩
  obtain ⟨ns, hns⟩ : ∃ n, n = sa.length := ⟨_, rfl⟩
  obtain ⟨v, hv⟩ : ∃ v, v = (RS.mk W H 0 dn L tA ts tc aA al ac cA cl cc sA sa sc).v := ⟨_, rfl⟩
  have hv2 : v = .agg #[.int .i64 W, .int .i64 H, .int .i64 0, .int .i64 dn, .bool L, .slice tA nt tc, .slice aA na ac, .slice cA nc cc, .slice sA ns sc] := by rw [hv, hnt, hna, hnc, hns]; rfl
  obtain ⟨T, hT⟩ : ∃ T, T = tabS ⟨W, H, 0, dn, L, tA, ts, tc, aA, al, ac, cA, cl, cc, sA, sa, sc⟩ := ⟨_, rfl⟩
  obtain ⟨w2, hw2⟩ : ∃ w2, w2 = (w.alloc (.cells #[.int .i64 W, .int .i64 H, .int .i64 0, .int .i64 dn, .bool L, .slice tA nt tc, .slice aA na ac, .slice cA nc cc, .slice sA ns sc] 34)).alloc (.cells #[.int .u16 0, .int .u16 0, .int .u16 0, .int .u16 0] 38) := ⟨_, rfl⟩
  obtain ⟨g, hg⟩ : ∃ g, g = w.heap.size := ⟨_, rfl⟩
  have hf2 : Fr No w w2 := by rw [hw2]; exact ((Fr.refl _ _).alloc _).alloc _
  have hb9 : w2.heap[g]? = some (.cells #[.int .i64 W, .int .i64 H, .int .i64 0, .int .i64 dn, .bool L, .slice tA nt tc, .slice aA na ac, .slice cA nc cc, .slice sA ns sc] 34 (0, 0)) := by
    rw [hw2, ((Fr.refl No (w.alloc _)).alloc _).block g (by rw [World.size_alloc, hg]; omega) (fun h => h), hg]; exact heap_new _ _
  have hbR : w2.heap[g + 1]? = some (.cells #[.int .u16 0, .int .u16 0, .int .u16 0, .int .u16 0] 38 (0, 0)) := by
    have := heap_new (w.alloc (.cells #[.int .i64 W, .int .i64 H, .int .i64 0, .int .i64 dn, .bool L, .slice tA nt tc, .slice aA na ac, .slice cA nc cc, .slice sA ns sc] 34)) (.cells #[.int .u16 0, .int .u16 0, .int .u16 0, .int .u16 0] 38)
    rw [World.size_alloc, ← hg] at this
    rw [hw2]; exact this
  have hcell : ∀ X, Fr No w2 X → X.heap[g]? = some (.cells #[.int .i64 W, .int .i64 H, .int .i64 0, .int .i64 dn, .bool L, .slice tA nt tc, .slice aA na ac, .slice cA nc cc, .slice sA ns sc] 34 (0, 0)) ∧ X.heap[g + 1]? = some (.cells #[.int .u16 0, .int .u16 0, .int .u16 0, .int .u16 0] 38 (0, 0)) := fun X hf =>
    ⟨(hf.block g (Array.getElem?_eq_some_iff.1 hb9).1 (fun h => h)).trans hb9, (hf.block (g + 1) (Array.getElem?_eq_some_iff.1 hbR).1 (fun h => h)).trans hbR⟩
  have hgs : g + 1 < w2.heap.size := (Array.getElem?_eq_some_iff.1 hbR).1
  have hfin : ∀ (W' : World) (a b c d : Value), Fr No w W' → Fr No w ((((W'.setCell ⟨g + 1, 0, none⟩ a).setCell ⟨g + 1, 1, none⟩ b).setCell ⟨g + 1, 2, none⟩ c).setCell ⟨g + 1, 3, none⟩ d) := fun W' a b c d hf => by
    have hs : ∀ k, k < w.heap.size → HK.One (g + 1) k → No k := fun k hk e => by have e : k = g + 1 := e; omega
    exact (((hf.trans (Fr.set1 _ _ _ _) hs).trans (Fr.set1 _ _ _ _) hs).trans (Fr.set1 _ _ _ _) hs).trans (Fr.set1 _ _ _ _) hs
  have HC := hid hcell
  have HW := hid (And.intro hw2 (And.intro hg (And.intro hf2 (And.intro (hr.fr hf2) (And.intro hv2 (And.intro hfin (And.intro hx hxr)))))))
  have HV := hid hv
  have HT := hid hT
  rw [show tabS ⟨W, H, 0, dn, L, tA, ts, tc, aA, al, ac, cA, cl, cc, sA, sa, sc⟩ = 0 from HT0.out] at hT
  rw [show (RS.mk W H 0 dn L tA ts tc aA al ac cA cl cc sA sa sc).v = .agg #[.int .i64 W, .int .i64 H, .int .i64 0, .int .i64 dn, .bool L, .slice tA nt tc, .slice aA na ac, .slice cA nc cc, .slice sA ns sc] from hv.symm.trans hv2]
  clear hw2 hg hf2 hb9 hbR hcell hr hnt hna hns hfin hv hv2 hT hx hxr
  have HN := hid hnc
  clear hnc
  go_enter Try.func16, Try.ntmps16
  go_wp2_with fail
  rw [← HW.out.1, ← HW.out.2.1, ← HW.out.2.2.2.2.1, HV.out]
  refine (refTables_calls _ _ HW.out.2.2.2.1).mono ?_
  rw [HT0.out]
  rintro e w3 ⟨rfl, hf3⟩
  have h3 := HC.out w3 hf3
  obtain ⟨q0, q1, q2, q3, q4, q5, q6, q7, q8⟩ := blk9 h3.1
  have hs3 : g < w3.heap.size := by have := hf3.size; omega
  clear h3
  go_wp2_with fail
  go_region_held3 (fun w' => w'.cell? ⟨g, 0, none⟩ = some (.int .i64 W) ∧ w'.cell? ⟨g, 1, none⟩ = some (.int .i64 H) ∧ w'.cell? ⟨g, 2, none⟩ = some (.int .i64 0) ∧ w'.cell? ⟨g, 3, none⟩ = some (.int .i64 dn) ∧ w'.cell? ⟨g, 4, none⟩ = some (.bool L) ∧ w'.cell? ⟨g, 5, none⟩ = some (.slice tA nt tc) ∧ w'.cell? ⟨g, 6, none⟩ = some (.slice aA na ac) ∧ w'.cell? ⟨g, 7, none⟩ = some (.slice cA nc cc) ∧ w'.cell? ⟨g, 8, none⟩ = some (.slice sA ns sc))
    (first | go_keep | (refine ⟨(hf5.cellg g 0 (by have h2 := hf4.size; simp at h2; omega) (fun h => h)).trans ?_, (hf5.cellg g 1 (by have h2 := hf4.size; simp at h2; omega) (fun h => h)).trans ?_, (hf5.cellg g 2 (by have h2 := hf4.size; simp at h2; omega) (fun h => h)).trans ?_, (hf5.cellg g 3 (by have h2 := hf4.size; simp at h2; omega) (fun h => h)).trans ?_, (hf5.cellg g 4 (by have h2 := hf4.size; simp at h2; omega) (fun h => h)).trans ?_, (hf5.cellg g 5 (by have h2 := hf4.size; simp at h2; omega) (fun h => h)).trans ?_, (hf5.cellg g 6 (by have h2 := hf4.size; simp at h2; omega) (fun h => h)).trans ?_, (hf5.cellg g 7 (by have h2 := hf4.size; simp at h2; omega) (fun h => h)).trans ?_, (hf5.cellg g 8 (by have h2 := hf4.size; simp at h2; omega) (fun h => h)).trans ?_⟩ <;> go_keep) | (refine ⟨(hf4.cellg g 0 (by simp; omega) (fun h => h)).trans ?_, (hf4.cellg g 1 (by simp; omega) (fun h => h)).trans ?_, (hf4.cellg g 2 (by simp; omega) (fun h => h)).trans ?_, (hf4.cellg g 3 (by simp; omega) (fun h => h)).trans ?_, (hf4.cellg g 4 (by simp; omega) (fun h => h)).trans ?_, (hf4.cellg g 5 (by simp; omega) (fun h => h)).trans ?_, (hf4.cellg g 6 (by simp; omega) (fun h => h)).trans ?_, (hf4.cellg g 7 (by simp; omega) (fun h => h)).trans ?_, (hf4.cellg g 8 (by simp; omega) (fun h => h)).trans ?_⟩ <;> go_keep))
    (first
      | (go_at_call 34; refine (refSamples_calls 0 _).mono ?_; rintro e w4 ⟨rfl, hw4⟩; have hf4 := fr_eq hw4; clear hw4)
      | (go_at_call 33; rw [← HW.out.2.2.2.2.1, HV.out]; refine (numbers_calls _ (some ad) [(y0 : Int)] 1 c (samS 0) _ (HW.out.2.2.2.1.fr (hf3.drew.then hf4)) (tab_facts HT0.out).1 HW.out.2.2.2.2.2.2.1 (HW.out.2.2.2.2.2.2.2.fr0 (HW.out.2.2.1.then (hf3.drew.then hf4))) hl).mono ?_; rintro e w5 ⟨rfl, hf5⟩))
  rw [HK0.out]
  have hF5 := (hf3.drew.then hf4).then hf5
  have h5 := HC.out w5 hF5
  obtain ⟨p0, p1, p2, p3, p4, p5, p6, p7, p8⟩ := blk9 h5.1
  obtain ⟨⟨z0, z1, z2, z3⟩, f0, f1, f2, f3⟩ := blk4c h5.2
  have HF5 := hid (And.intro h5.2 hF5)
  clear h5 hF5 hf3 hf4 hf5 q0 q1 q2 q3 q4 q5 q6 q7 q8
  rename_i hHeldX
  clear hHeldX
  have q2' : ∀ o, (w5.alloc o).cell? ⟨g, 2, none⟩ = some (.int .i64 0) := fun o => (((Fr.refl No w5).alloc o).cellg g 2 (lt_of_cell (a := ⟨g, 2, none⟩) p2) (fun h => h)).trans p2
  have c0' : ∀ o, (w5.alloc o).cell? (ad.add 0) = some (.int .i64 (y0 : Int)) := fun o => (((HW.out.2.2.1.then HF5.out.2).alloc o).cell (lt_of_cell (HE.out)) (fun h => h)).trans (HE.out)
  rw [add_zero] at c0'
  go_wp2_with fail
  clear q2' c0'
  obtain ⟨h, hh⟩ : ∃ h, h = w5.heap.size := ⟨_, rfl⟩
  obtain ⟨X, hX⟩ : ∃ X, X = w5.alloc (.cells #[.int .u16 0, .int .u16 0, .int .u16 0, .int .u16 65535] 38) := ⟨_, rfl⟩
  have hfX : Fr No w5 X := by rw [hX]; exact (Fr.refl _ _).alloc _
  have hbX : X.heap[h]? = some (.cells #[.int .u16 0, .int .u16 0, .int .u16 0, .int .u16 65535] 38 (0, 0)) := by rw [hX, hh]; exact heap_new _ _
  rw [← hX, ← hh]
  have hFX := HF5.out.2.then hfX
  have hX2 := HC.out X hFX
  have hgh : g + 1 < h := by rw [hh]; exact (Array.getElem?_eq_some_iff.1 HF5.out.1).1
  clear p0 p1 p2 p3 p4 p5 p6 p7 p8 z0 z1 z2 z3 f0 f1 f2 f3
  obtain ⟨p0, p1, p2, p3, p4, p5, p6, p7, p8⟩ := blk9 hX2.1
  obtain ⟨⟨z0, z1, z2, z3⟩, f0, f1, f2, f3⟩ := blk4c hX2.2
  obtain ⟨⟨x0, x1, x2, x3⟩, u0, u1, u2, u3⟩ := blk4c hbX
  have hah : ad.block < h := by
    have h1 : ad.block < w.heap.size := lt_of_cell (a := ad.add 0) (HE.out)
    have := HW.out.2.1
    omega
  have c0 : X.cell? (ad.add 0) = some (.int .i64 (y0 : Int)) := ((HW.out.2.2.1.then hFX).cell (lt_of_cell (HE.out)) (fun h => h)).trans (HE.out)
  rw [add_zero] at c0
  have hYY : ∀ Y, Fr (HK.One h) X Y → Y.heap[g + 1]? = some (.cells #[.int .u16 0, .int .u16 0, .int .u16 0, .int .u16 0] 38 (0, 0)) ∧ Fr No w Y := fun Y hY =>
    ⟨(hY.block (g + 1) (Array.getElem?_eq_some_iff.1 hX2.2).1 (fun e => by have e : g + 1 = h := e; omega)).trans hX2.2, (HW.out.2.2.1.then hFX).trans hY (fun j hj (e : j = h) => by have := HW.out.2.1; omega)⟩
  have hII : ∀ Y, Fr (HK.One h) X Y → Rd II Y cA cl ∧ Rd II Y (some ad) [(y0 : Int)] := fun Y hY =>
    ⟨HW.out.2.2.2.1.c.fr0 (hFX.trans hY (fun j hj (e : j = h) => by have := HF5.out.2.size; omega)), HW.out.2.2.2.2.2.2.2.fr0 (hYY Y hY).2⟩
  have HYY := hid (And.intro hYY hII)
  clear hX2 hFX hbX hX hfX hh hYY hII
  refine (HF0.out _).mono ?_
  rintro e w6 ⟨rfl, rfl⟩
  rcases Nat.eq_zero_or_pos nc with h0 | h0
  · have hn0 : ¬ (nc : Int) > 0 := by omega
    have H0 := hid h0
    clear h0
    go_wp2_with fail
    refine ret_col2 rfl (g := g + 1) (x := a0) (y := a0) (z := a0) (u := 65535) (er := .int .i64 0) (col_cells (HYY.out.1 _ (by repeat (first | exact Fr.refl _ _ | exact Fr.set1 _ _ _ _ | refine Fr.drewN ?_ _ | refine Fr.then ?_ (Fr.set1 _ _ _ _)))).1) rfl rfl rfl ?_
    exact ⟨by rw [HCOL.out, if_neg (show ¬ (0 < cl.length ∧ cl = [(y0 : Int)]) from fun h => by have := h.1; rw [← HN.out, H0.out] at this; exact absurd this (by omega))]; rfl, HW.out.2.2.2.2.2.1 _ _ _ _ _ (HYY.out.1 _ (by repeat (first | exact Fr.refl _ _ | exact Fr.set1 _ _ _ _ | refine Fr.drewN ?_ _ | refine Fr.then ?_ (Fr.set1 _ _ _ _)))).2⟩
  · have hn0 : (nc : Int) > 0 := by omega
    have H0 := hid h0
    clear h0
    go_wp2_with fail
    refine (sameInts_calls cA (some ad) cl [(y0 : Int)] nc 1 cc c HN.out.symm rfl _ (HYY.out.2 _ (by repeat (first | exact Fr.refl _ _ | exact Fr.set1 _ _ _ _ | refine Fr.drewN ?_ _ | refine Fr.then ?_ (Fr.set1 _ _ _ _)))).1 (HYY.out.2 _ (by repeat (first | exact Fr.refl _ _ | exact Fr.set1 _ _ _ _ | refine Fr.drewN ?_ _ | refine Fr.then ?_ (Fr.set1 _ _ _ _)))).2 (by rw [HN.out]; exact Nat.le_trans HW.out.2.2.2.1.cl (by decide))).mono ?_
    by_cases heq : cl = [(y0 : Int)]
    · rw [decide_eq_true heq]
      have HEQ := hid heq
      clear heq
      rintro e w8 ⟨rfl, qq, rfl⟩
      go_wp2_with fail
      refine ret_col2 rfl (g := g + 1) (x := a0) (y := a0) (z := a0) (u := 0) (er := .int .i64 0) (col_cells (HYY.out.1 _ (by repeat (first | exact Fr.refl _ _ | exact Fr.set1 _ _ _ _ | refine Fr.drewN ?_ _ | refine Fr.then ?_ (Fr.set1 _ _ _ _)))).1) rfl rfl rfl ?_
      exact ⟨by rw [HCOL.out, if_pos (show 0 < cl.length ∧ cl = [(y0 : Int)] from ⟨by rw [← HN.out]; exact H0.out, HEQ.out⟩)]; rfl, HW.out.2.2.2.2.2.1 _ _ _ _ _ (HYY.out.1 _ (by repeat (first | exact Fr.refl _ _ | exact Fr.set1 _ _ _ _ | refine Fr.drewN ?_ _ | refine Fr.then ?_ (Fr.set1 _ _ _ _)))).2⟩
    · rw [decide_eq_false heq]
      have HEQ := hid heq
      clear heq
      rintro e w8 ⟨rfl, qq, rfl⟩
      go_wp2_with fail
      refine ret_col2 rfl (g := g + 1) (x := a0) (y := a0) (z := a0) (u := 65535) (er := .int .i64 0) (col_cells (HYY.out.1 _ (by repeat (first | exact Fr.refl _ _ | exact Fr.set1 _ _ _ _ | refine Fr.drewN ?_ _ | refine Fr.then ?_ (Fr.set1 _ _ _ _)))).1) rfl rfl rfl ?_
      exact ⟨by rw [HCOL.out, if_neg (show ¬ (0 < cl.length ∧ cl = [(y0 : Int)]) from fun h => HEQ.out h.2)]; rfl, HW.out.2.2.2.2.2.1 _ _ _ _ _ (HYY.out.1 _ (by repeat (first | exact Fr.refl _ _ | exact Fr.set1 _ _ _ _ | refine Fr.drewN ?_ _ | refine Fr.then ?_ (Fr.set1 _ _ _ _)))).2⟩
set_option maxRecDepth 100000 in
set_option maxHeartbeats 3200000 in
theorem refOf_2 (r : RS) (A : Option Addr) (y0 y1 y2 c : Nat) (w : World) (hr : r.ok w) (hC : r.C = 2) (hxr : Rd II w A [(y0 : Int), (y1 : Int), (y2 : Int)]) (hE : ofE r [(y0 : Int), (y1 : Int), (y2 : Int)] = 0) :
    Calls Try.prog 16 #[r.v, .slice A 3 c] w fun e w' => e = .returned (.tuple #[(ofC r [(y0 : Int), (y1 : Int), (y2 : Int)]).v, .int .i64 (ofE r [(y0 : Int), (y1 : Int), (y2 : Int)])]) ∧ Fr No w w' := by
  have hx : [(y0 : Int), (y1 : Int), (y2 : Int)].length = 3 := rfl
  have hl : (3 : Nat) ≤ 5000 := by decide
  have hOC : ofC r [(y0 : Int), (y1 : Int), (y2 : Int)] = colS r [(y0 : Int), (y1 : Int), (y2 : Int)] := by unfold ofC; rw [if_pos hE]
  rw [hOC, hE]
  clear hOC
  obtain ⟨hT, hK⟩ := ofE_zero hE
  clear hE
  obtain ⟨W, H, C, D, L, tA, ts, tc, aA, al, ac, cA, cl, cc, sA, sa, sc⟩ := r
  replace hC : C = 2 := hC
  subst hC
  have hm := (tab_facts hT).1
  have hlk := (look_facts hK).2.1
  replace hm : mayS W H 2 D = true := hm
  obtain ⟨m1, m2, m3, m4, m5, m6, m7, m8, m9⟩ := may_facts hm
  obtain ⟨dn, rfl, hd1, hd16⟩ : ∃ dn : Nat, D = dn ∧ 1 ≤ dn ∧ dn ≤ 16 := ⟨D.toNat, by omega, by omega, by omega⟩
  obtain ⟨P, st, ⟨s1, s2, s3, s4⟩, hqs, hpw, hdiv⟩ := dep_nums (dn := dn) (by omega)
  replace hlk : ∀ v ∈ [(y0 : Int), (y1 : Int), (y2 : Int)], 0 ≤ v ∧ v ≤ (2 : Int) ^ dn - 1 := hlk
  rw [show (2 : Int) ^ dn = (P : Int) by rw [hqs.2.1]; simp] at hlk
  have HPW := hid hpw
  have HQ := hid hqs
  clear hpw hdiv hqs
  obtain ⟨a0, ha0⟩ : ∃ a, a = y0 * st := ⟨_, rfl⟩
  have hb0 : y0 ≤ P - 1 := by have := (hlk (y0 : Int) (by simp)).2; omega
  have HF0 := hid (show ∀ w, Calls Try.prog 35 #[.int .i64 y0, .int .i64 dn] w fun e w' => e = .returned (.int .u16 (a0 : Int)) ∧ w' = w from fun w => by rw [ha0]; exact full_calls dn y0 P st ⟨s1, s2⟩ HQ.out.1 HPW.out hd16 hb0 w)
  obtain ⟨a1, ha1⟩ : ∃ a, a = y1 * st := ⟨_, rfl⟩
  have hb1 : y1 ≤ P - 1 := by have := (hlk (y1 : Int) (by simp)).2; omega
  have HF1 := hid (show ∀ w, Calls Try.prog 35 #[.int .i64 y1, .int .i64 dn] w fun e w' => e = .returned (.int .u16 (a1 : Int)) ∧ w' = w from fun w => by rw [ha1]; exact full_calls dn y1 P st ⟨s1, s2⟩ HQ.out.1 HPW.out hd16 hb1 w)
  obtain ⟨a2, ha2⟩ : ∃ a, a = y2 * st := ⟨_, rfl⟩
  have hb2 : y2 ≤ P - 1 := by have := (hlk (y2 : Int) (by simp)).2; omega
  have HF2 := hid (show ∀ w, Calls Try.prog 35 #[.int .i64 y2, .int .i64 dn] w fun e w' => e = .returned (.int .u16 (a2 : Int)) ∧ w' = w from fun w => by rw [ha2]; exact full_calls dn y2 P st ⟨s1, s2⟩ HQ.out.1 HPW.out hd16 hb2 w)
  have HCOL := hid (show colS ⟨W, H, 2, dn, L, tA, ts, tc, aA, al, ac, cA, cl, cc, sA, sa, sc⟩ [(y0 : Int), (y1 : Int), (y2 : Int)] = ((a0 : Int), (a1 : Int), (a2 : Int), if 0 < cl.length ∧ cl = [(y0 : Int), (y1 : Int), (y2 : Int)] then 0 else 65535) by
    rw [ha0, ha1, ha2]
    unfold colS
    rw [if_neg (show ¬ ((2 : Int) = 3) by decide)]
    simp [HQ.out.2.2])
  clear ha0 ha1 ha2 hb0 hb1 hb2 hm hlk m1 m2 m3 m4 m5 m6 m7 m8 m9 s1 s2 s3 s4 HQ HPW hd1 hd16
  obtain ⟨ad, rfl, hcs⟩ := hxr (by simp)
  have e0 := hcs 0 (by simp)
  have e1 := hcs 1 (by simp)
  have e2 := hcs 2 (by simp)
  have HE := hid (And.intro e0 ( And.intro e1 (e2)))
  clear hcs e0 e1 e2
  have HT0 := hid hT
  have HK0 := hid hK
  clear hT hK
  obtain ⟨nt, hnt⟩ : ∃ n, n = ts.length := ⟨_, rfl⟩
  obtain ⟨na, hna⟩ : ∃ n, n = al.length := ⟨_, rfl⟩
  obtain ⟨nc, hnc⟩ : ∃ n, n = cl.length := ⟨_, rfl⟩
  obtain ⟨ns, hns⟩ : ∃ n, n = sa.length := ⟨_, rfl⟩
  obtain ⟨v, hv⟩ : ∃ v, v = (RS.mk W H 2 dn L tA ts tc aA al ac cA cl cc sA sa sc).v := ⟨_, rfl⟩
  have hv2 : v = .agg #[.int .i64 W, .int .i64 H, .int .i64 2, .int .i64 dn, .bool L, .slice tA nt tc, .slice aA na ac, .slice cA nc cc, .slice sA ns sc] := by rw [hv, hnt, hna, hnc, hns]; rfl
  obtain ⟨T, hT⟩ : ∃ T, T = tabS ⟨W, H, 2, dn, L, tA, ts, tc, aA, al, ac, cA, cl, cc, sA, sa, sc⟩ := ⟨_, rfl⟩
  obtain ⟨w2, hw2⟩ : ∃ w2, w2 = (w.alloc (.cells #[.int .i64 W, .int .i64 H, .int .i64 2, .int .i64 dn, .bool L, .slice tA nt tc, .slice aA na ac, .slice cA nc cc, .slice sA ns sc] 34)).alloc (.cells #[.int .u16 0, .int .u16 0, .int .u16 0, .int .u16 0] 38) := ⟨_, rfl⟩
  obtain ⟨g, hg⟩ : ∃ g, g = w.heap.size := ⟨_, rfl⟩
  have hf2 : Fr No w w2 := by rw [hw2]; exact ((Fr.refl _ _).alloc _).alloc _
  have hb9 : w2.heap[g]? = some (.cells #[.int .i64 W, .int .i64 H, .int .i64 2, .int .i64 dn, .bool L, .slice tA nt tc, .slice aA na ac, .slice cA nc cc, .slice sA ns sc] 34 (0, 0)) := by
    rw [hw2, ((Fr.refl No (w.alloc _)).alloc _).block g (by rw [World.size_alloc, hg]; omega) (fun h => h), hg]; exact heap_new _ _
  have hbR : w2.heap[g + 1]? = some (.cells #[.int .u16 0, .int .u16 0, .int .u16 0, .int .u16 0] 38 (0, 0)) := by
    have := heap_new (w.alloc (.cells #[.int .i64 W, .int .i64 H, .int .i64 2, .int .i64 dn, .bool L, .slice tA nt tc, .slice aA na ac, .slice cA nc cc, .slice sA ns sc] 34)) (.cells #[.int .u16 0, .int .u16 0, .int .u16 0, .int .u16 0] 38)
    rw [World.size_alloc, ← hg] at this
    rw [hw2]; exact this
  have hcell : ∀ X, Fr No w2 X → X.heap[g]? = some (.cells #[.int .i64 W, .int .i64 H, .int .i64 2, .int .i64 dn, .bool L, .slice tA nt tc, .slice aA na ac, .slice cA nc cc, .slice sA ns sc] 34 (0, 0)) ∧ X.heap[g + 1]? = some (.cells #[.int .u16 0, .int .u16 0, .int .u16 0, .int .u16 0] 38 (0, 0)) := fun X hf =>
    ⟨(hf.block g (Array.getElem?_eq_some_iff.1 hb9).1 (fun h => h)).trans hb9, (hf.block (g + 1) (Array.getElem?_eq_some_iff.1 hbR).1 (fun h => h)).trans hbR⟩
  have hgs : g + 1 < w2.heap.size := (Array.getElem?_eq_some_iff.1 hbR).1
  have hfin : ∀ (W' : World) (a b c d : Value), Fr No w W' → Fr No w ((((W'.setCell ⟨g + 1, 0, none⟩ a).setCell ⟨g + 1, 1, none⟩ b).setCell ⟨g + 1, 2, none⟩ c).setCell ⟨g + 1, 3, none⟩ d) := fun W' a b c d hf => by
    have hs : ∀ k, k < w.heap.size → HK.One (g + 1) k → No k := fun k hk e => by have e : k = g + 1 := e; omega
    exact (((hf.trans (Fr.set1 _ _ _ _) hs).trans (Fr.set1 _ _ _ _) hs).trans (Fr.set1 _ _ _ _) hs).trans (Fr.set1 _ _ _ _) hs
  have HC := hid hcell
  have HW := hid (And.intro hw2 (And.intro hg (And.intro hf2 (And.intro (hr.fr hf2) (And.intro hv2 (And.intro hfin (And.intro hx hxr)))))))
  have HV := hid hv
  have HT := hid hT
  rw [show tabS ⟨W, H, 2, dn, L, tA, ts, tc, aA, al, ac, cA, cl, cc, sA, sa, sc⟩ = 0 from HT0.out] at hT
  rw [show (RS.mk W H 2 dn L tA ts tc aA al ac cA cl cc sA sa sc).v = .agg #[.int .i64 W, .int .i64 H, .int .i64 2, .int .i64 dn, .bool L, .slice tA nt tc, .slice aA na ac, .slice cA nc cc, .slice sA ns sc] from hv.symm.trans hv2]
  clear hw2 hg hf2 hb9 hbR hcell hr hnt hna hns hfin hv hv2 hT hx hxr
  have HN := hid hnc
  clear hnc
  go_enter Try.func16, Try.ntmps16
  go_wp2_with fail
  rw [← HW.out.1, ← HW.out.2.1, ← HW.out.2.2.2.2.1, HV.out]
  refine (refTables_calls _ _ HW.out.2.2.2.1).mono ?_
  rw [HT0.out]
  rintro e w3 ⟨rfl, hf3⟩
  have h3 := HC.out w3 hf3
  obtain ⟨q0, q1, q2, q3, q4, q5, q6, q7, q8⟩ := blk9 h3.1
  have hs3 : g < w3.heap.size := by have := hf3.size; omega
  clear h3
  go_wp2_with fail
  go_region_held3 (fun w' => w'.cell? ⟨g, 0, none⟩ = some (.int .i64 W) ∧ w'.cell? ⟨g, 1, none⟩ = some (.int .i64 H) ∧ w'.cell? ⟨g, 2, none⟩ = some (.int .i64 2) ∧ w'.cell? ⟨g, 3, none⟩ = some (.int .i64 dn) ∧ w'.cell? ⟨g, 4, none⟩ = some (.bool L) ∧ w'.cell? ⟨g, 5, none⟩ = some (.slice tA nt tc) ∧ w'.cell? ⟨g, 6, none⟩ = some (.slice aA na ac) ∧ w'.cell? ⟨g, 7, none⟩ = some (.slice cA nc cc) ∧ w'.cell? ⟨g, 8, none⟩ = some (.slice sA ns sc))
    (first | go_keep | (refine ⟨(hf5.cellg g 0 (by have h2 := hf4.size; simp at h2; omega) (fun h => h)).trans ?_, (hf5.cellg g 1 (by have h2 := hf4.size; simp at h2; omega) (fun h => h)).trans ?_, (hf5.cellg g 2 (by have h2 := hf4.size; simp at h2; omega) (fun h => h)).trans ?_, (hf5.cellg g 3 (by have h2 := hf4.size; simp at h2; omega) (fun h => h)).trans ?_, (hf5.cellg g 4 (by have h2 := hf4.size; simp at h2; omega) (fun h => h)).trans ?_, (hf5.cellg g 5 (by have h2 := hf4.size; simp at h2; omega) (fun h => h)).trans ?_, (hf5.cellg g 6 (by have h2 := hf4.size; simp at h2; omega) (fun h => h)).trans ?_, (hf5.cellg g 7 (by have h2 := hf4.size; simp at h2; omega) (fun h => h)).trans ?_, (hf5.cellg g 8 (by have h2 := hf4.size; simp at h2; omega) (fun h => h)).trans ?_⟩ <;> go_keep) | (refine ⟨(hf4.cellg g 0 (by simp; omega) (fun h => h)).trans ?_, (hf4.cellg g 1 (by simp; omega) (fun h => h)).trans ?_, (hf4.cellg g 2 (by simp; omega) (fun h => h)).trans ?_, (hf4.cellg g 3 (by simp; omega) (fun h => h)).trans ?_, (hf4.cellg g 4 (by simp; omega) (fun h => h)).trans ?_, (hf4.cellg g 5 (by simp; omega) (fun h => h)).trans ?_, (hf4.cellg g 6 (by simp; omega) (fun h => h)).trans ?_, (hf4.cellg g 7 (by simp; omega) (fun h => h)).trans ?_, (hf4.cellg g 8 (by simp; omega) (fun h => h)).trans ?_⟩ <;> go_keep))
    (first
      | (go_at_call 34; refine (refSamples_calls 2 _).mono ?_; rintro e w4 ⟨rfl, hw4⟩; have hf4 := fr_eq hw4; clear hw4)
      | (go_at_call 33; rw [← HW.out.2.2.2.2.1, HV.out]; refine (numbers_calls _ (some ad) [(y0 : Int), (y1 : Int), (y2 : Int)] 3 c (samS 2) _ (HW.out.2.2.2.1.fr (hf3.drew.then hf4)) (tab_facts HT0.out).1 HW.out.2.2.2.2.2.2.1 (HW.out.2.2.2.2.2.2.2.fr0 (HW.out.2.2.1.then (hf3.drew.then hf4))) hl).mono ?_; rintro e w5 ⟨rfl, hf5⟩))
  rw [HK0.out]
  have hF5 := (hf3.drew.then hf4).then hf5
  have h5 := HC.out w5 hF5
  obtain ⟨p0, p1, p2, p3, p4, p5, p6, p7, p8⟩ := blk9 h5.1
  obtain ⟨⟨z0, z1, z2, z3⟩, f0, f1, f2, f3⟩ := blk4c h5.2
  have HF5 := hid (And.intro h5.2 hF5)
  clear h5 hF5 hf3 hf4 hf5 q0 q1 q2 q3 q4 q5 q6 q7 q8
  rename_i hHeldX
  clear hHeldX
  have q2' : ∀ o, (w5.alloc o).cell? ⟨g, 2, none⟩ = some (.int .i64 2) := fun o => (((Fr.refl No w5).alloc o).cellg g 2 (lt_of_cell (a := ⟨g, 2, none⟩) p2) (fun h => h)).trans p2
  have c0' : ∀ o, (w5.alloc o).cell? (ad.add 0) = some (.int .i64 (y0 : Int)) := fun o => (((HW.out.2.2.1.then HF5.out.2).alloc o).cell (lt_of_cell (HE.out.1)) (fun h => h)).trans (HE.out.1)
  rw [add_zero] at c0'
  go_wp2_with fail
  clear q2' c0'
  obtain ⟨h, hh⟩ : ∃ h, h = w5.heap.size := ⟨_, rfl⟩
  obtain ⟨X, hX⟩ : ∃ X, X = w5.alloc (.cells #[.int .u16 0, .int .u16 0, .int .u16 0, .int .u16 65535] 38) := ⟨_, rfl⟩
  have hfX : Fr No w5 X := by rw [hX]; exact (Fr.refl _ _).alloc _
  have hbX : X.heap[h]? = some (.cells #[.int .u16 0, .int .u16 0, .int .u16 0, .int .u16 65535] 38 (0, 0)) := by rw [hX, hh]; exact heap_new _ _
  rw [← hX, ← hh]
  have hFX := HF5.out.2.then hfX
  have hX2 := HC.out X hFX
  have hgh : g + 1 < h := by rw [hh]; exact (Array.getElem?_eq_some_iff.1 HF5.out.1).1
  clear p0 p1 p2 p3 p4 p5 p6 p7 p8 z0 z1 z2 z3 f0 f1 f2 f3
  obtain ⟨p0, p1, p2, p3, p4, p5, p6, p7, p8⟩ := blk9 hX2.1
  obtain ⟨⟨z0, z1, z2, z3⟩, f0, f1, f2, f3⟩ := blk4c hX2.2
  obtain ⟨⟨x0, x1, x2, x3⟩, u0, u1, u2, u3⟩ := blk4c hbX
  have hah : ad.block < h := by
    have h1 : ad.block < w.heap.size := lt_of_cell (a := ad.add 0) (HE.out.1)
    have := HW.out.2.1
    omega
  have c0 : X.cell? (ad.add 0) = some (.int .i64 (y0 : Int)) := ((HW.out.2.2.1.then hFX).cell (lt_of_cell (HE.out.1)) (fun h => h)).trans (HE.out.1)
  have c1 : X.cell? (ad.add 1) = some (.int .i64 (y1 : Int)) := ((HW.out.2.2.1.then hFX).cell (lt_of_cell (HE.out.2.1)) (fun h => h)).trans (HE.out.2.1)
  have c2 : X.cell? (ad.add 2) = some (.int .i64 (y2 : Int)) := ((HW.out.2.2.1.then hFX).cell (lt_of_cell (HE.out.2.2)) (fun h => h)).trans (HE.out.2.2)
  replace c1 : X.cell? ⟨ad.block, ad.off + 1, none⟩ = some (.int .i64 (y1 : Int)) := c1
  replace c2 : X.cell? ⟨ad.block, ad.off + 2, none⟩ = some (.int .i64 (y2 : Int)) := c2
  rw [add_zero] at c0
  have hYY : ∀ Y, Fr (HK.One h) X Y → Y.heap[g + 1]? = some (.cells #[.int .u16 0, .int .u16 0, .int .u16 0, .int .u16 0] 38 (0, 0)) ∧ Fr No w Y := fun Y hY =>
    ⟨(hY.block (g + 1) (Array.getElem?_eq_some_iff.1 hX2.2).1 (fun e => by have e : g + 1 = h := e; omega)).trans hX2.2, (HW.out.2.2.1.then hFX).trans hY (fun j hj (e : j = h) => by have := HW.out.2.1; omega)⟩
  have hII : ∀ Y, Fr (HK.One h) X Y → Rd II Y cA cl ∧ Rd II Y (some ad) [(y0 : Int), (y1 : Int), (y2 : Int)] := fun Y hY =>
    ⟨HW.out.2.2.2.1.c.fr0 (hFX.trans hY (fun j hj (e : j = h) => by have := HF5.out.2.size; omega)), HW.out.2.2.2.2.2.2.2.fr0 (hYY Y hY).2⟩
  have HYY := hid (And.intro hYY hII)
  clear hX2 hFX hbX hX hfX hh hYY hII
  refine (HF0.out _).mono ?_
  rintro e w6 ⟨rfl, rfl⟩
  go_wp2_with fail
  refine (HF1.out _).mono ?_
  rintro e w7 ⟨rfl, rfl⟩
  go_wp2_with fail
  refine (HF2.out _).mono ?_
  rintro e w7 ⟨rfl, rfl⟩
  rcases Nat.eq_zero_or_pos nc with h0 | h0
  · have hn0 : ¬ (nc : Int) > 0 := by omega
    have H0 := hid h0
    clear h0
    go_wp2_with fail
    refine ret_col2 rfl (g := g + 1) (x := a0) (y := a1) (z := a2) (u := 65535) (er := .int .i64 0) (col_cells (HYY.out.1 _ (by repeat (first | exact Fr.refl _ _ | exact Fr.set1 _ _ _ _ | refine Fr.drewN ?_ _ | refine Fr.then ?_ (Fr.set1 _ _ _ _)))).1) rfl rfl rfl ?_
    exact ⟨by rw [HCOL.out, if_neg (show ¬ (0 < cl.length ∧ cl = [(y0 : Int), (y1 : Int), (y2 : Int)]) from fun h => by have := h.1; rw [← HN.out, H0.out] at this; exact absurd this (by omega))]; rfl, HW.out.2.2.2.2.2.1 _ _ _ _ _ (HYY.out.1 _ (by repeat (first | exact Fr.refl _ _ | exact Fr.set1 _ _ _ _ | refine Fr.drewN ?_ _ | refine Fr.then ?_ (Fr.set1 _ _ _ _)))).2⟩
  · have hn0 : (nc : Int) > 0 := by omega
    have H0 := hid h0
    clear h0
    go_wp2_with fail
    refine (sameInts_calls cA (some ad) cl [(y0 : Int), (y1 : Int), (y2 : Int)] nc 3 cc c HN.out.symm rfl _ (HYY.out.2 _ (by repeat (first | exact Fr.refl _ _ | exact Fr.set1 _ _ _ _ | refine Fr.drewN ?_ _ | refine Fr.then ?_ (Fr.set1 _ _ _ _)))).1 (HYY.out.2 _ (by repeat (first | exact Fr.refl _ _ | exact Fr.set1 _ _ _ _ | refine Fr.drewN ?_ _ | refine Fr.then ?_ (Fr.set1 _ _ _ _)))).2 (by rw [HN.out]; exact Nat.le_trans HW.out.2.2.2.1.cl (by decide))).mono ?_
    by_cases heq : cl = [(y0 : Int), (y1 : Int), (y2 : Int)]
    · rw [decide_eq_true heq]
      have HEQ := hid heq
      clear heq
      rintro e w8 ⟨rfl, qq, rfl⟩
      go_wp2_with fail
      refine ret_col2 rfl (g := g + 1) (x := a0) (y := a1) (z := a2) (u := 0) (er := .int .i64 0) (col_cells (HYY.out.1 _ (by repeat (first | exact Fr.refl _ _ | exact Fr.set1 _ _ _ _ | refine Fr.drewN ?_ _ | refine Fr.then ?_ (Fr.set1 _ _ _ _)))).1) rfl rfl rfl ?_
      exact ⟨by rw [HCOL.out, if_pos (show 0 < cl.length ∧ cl = [(y0 : Int), (y1 : Int), (y2 : Int)] from ⟨by rw [← HN.out]; exact H0.out, HEQ.out⟩)]; rfl, HW.out.2.2.2.2.2.1 _ _ _ _ _ (HYY.out.1 _ (by repeat (first | exact Fr.refl _ _ | exact Fr.set1 _ _ _ _ | refine Fr.drewN ?_ _ | refine Fr.then ?_ (Fr.set1 _ _ _ _)))).2⟩
    · rw [decide_eq_false heq]
      have HEQ := hid heq
      clear heq
      rintro e w8 ⟨rfl, qq, rfl⟩
      go_wp2_with fail
      refine ret_col2 rfl (g := g + 1) (x := a0) (y := a1) (z := a2) (u := 65535) (er := .int .i64 0) (col_cells (HYY.out.1 _ (by repeat (first | exact Fr.refl _ _ | exact Fr.set1 _ _ _ _ | refine Fr.drewN ?_ _ | refine Fr.then ?_ (Fr.set1 _ _ _ _)))).1) rfl rfl rfl ?_
      exact ⟨by rw [HCOL.out, if_neg (show ¬ (0 < cl.length ∧ cl = [(y0 : Int), (y1 : Int), (y2 : Int)]) from fun h => HEQ.out h.2)]; rfl, HW.out.2.2.2.2.2.1 _ _ _ _ _ (HYY.out.1 _ (by repeat (first | exact Fr.refl _ _ | exact Fr.set1 _ _ _ _ | refine Fr.drewN ?_ _ | refine Fr.then ?_ (Fr.set1 _ _ _ _)))).2⟩
set_option maxRecDepth 100000 in
set_option maxHeartbeats 3200000 in
theorem refOf_4 (r : RS) (A : Option Addr) (y0 y1 c : Nat) (w : World) (hr : r.ok w) (hC : r.C = 4) (hxr : Rd II w A [(y0 : Int), (y1 : Int)]) (hE : ofE r [(y0 : Int), (y1 : Int)] = 0) :
    Calls Try.prog 16 #[r.v, .slice A 2 c] w fun e w' => e = .returned (.tuple #[(ofC r [(y0 : Int), (y1 : Int)]).v, .int .i64 (ofE r [(y0 : Int), (y1 : Int)])]) ∧ Fr No w w' := by
  have hx : [(y0 : Int), (y1 : Int)].length = 2 := rfl
  have hl : (2 : Nat) ≤ 5000 := by decide
  have hOC : ofC r [(y0 : Int), (y1 : Int)] = colS r [(y0 : Int), (y1 : Int)] := by unfold ofC; rw [if_pos hE]
  rw [hOC, hE]
  clear hOC
  obtain ⟨hT, hK⟩ := ofE_zero hE
  clear hE
  obtain ⟨W, H, C, D, L, tA, ts, tc, aA, al, ac, cA, cl, cc, sA, sa, sc⟩ := r
  replace hC : C = 4 := hC
  subst hC
  have hm := (tab_facts hT).1
  have hlk := (look_facts hK).2.1
  replace hm : mayS W H 4 D = true := hm
  obtain ⟨m1, m2, m3, m4, m5, m6, m7, m8, m9⟩ := may_facts hm
  obtain ⟨dn, rfl, hd1, hd16⟩ : ∃ dn : Nat, D = dn ∧ 1 ≤ dn ∧ dn ≤ 16 := ⟨D.toNat, by omega, by omega, by omega⟩
  obtain ⟨P, st, ⟨s1, s2, s3, s4⟩, hqs, hpw, hdiv⟩ := dep_nums (dn := dn) (by omega)
  replace hlk : ∀ v ∈ [(y0 : Int), (y1 : Int)], 0 ≤ v ∧ v ≤ (2 : Int) ^ dn - 1 := hlk
  rw [show (2 : Int) ^ dn = (P : Int) by rw [hqs.2.1]; simp] at hlk
  have HPW := hid hpw
  have HQ := hid hqs
  clear hpw hdiv hqs
  obtain ⟨a0, ha0⟩ : ∃ a, a = y0 * st := ⟨_, rfl⟩
  have hb0 : y0 ≤ P - 1 := by have := (hlk (y0 : Int) (by simp)).2; omega
  have HF0 := hid (show ∀ w, Calls Try.prog 35 #[.int .i64 y0, .int .i64 dn] w fun e w' => e = .returned (.int .u16 (a0 : Int)) ∧ w' = w from fun w => by rw [ha0]; exact full_calls dn y0 P st ⟨s1, s2⟩ HQ.out.1 HPW.out hd16 hb0 w)
  obtain ⟨a1, ha1⟩ : ∃ a, a = y1 * st := ⟨_, rfl⟩
  have hb1 : y1 ≤ P - 1 := by have := (hlk (y1 : Int) (by simp)).2; omega
  have HF1 := hid (show ∀ w, Calls Try.prog 35 #[.int .i64 y1, .int .i64 dn] w fun e w' => e = .returned (.int .u16 (a1 : Int)) ∧ w' = w from fun w => by rw [ha1]; exact full_calls dn y1 P st ⟨s1, s2⟩ HQ.out.1 HPW.out hd16 hb1 w)
  have HCOL := hid (show colS ⟨W, H, 4, dn, L, tA, ts, tc, aA, al, ac, cA, cl, cc, sA, sa, sc⟩ [(y0 : Int), (y1 : Int)] = ((a0 : Int), (a0 : Int), (a0 : Int), if 0 < cl.length ∧ cl = [(y0 : Int), (y1 : Int)] then 0 else (a1 : Int)) by
    rw [ha0, ha1]
    unfold colS
    rw [if_neg (show ¬ ((4 : Int) = 3) by decide)]
    simp [HQ.out.2.2])
  clear ha0 ha1 hb0 hb1 hm hlk m1 m2 m3 m4 m5 m6 m7 m8 m9 s1 s2 s3 s4 HQ HPW hd1 hd16
  obtain ⟨ad, rfl, hcs⟩ := hxr (by simp)
  have e0 := hcs 0 (by simp)
  have e1 := hcs 1 (by simp)
  have HE := hid (And.intro e0 (e1))
  clear hcs e0 e1
  have HT0 := hid hT
  have HK0 := hid hK
  clear hT hK
  obtain ⟨nt, hnt⟩ : ∃ n, n = ts.length := ⟨_, rfl⟩
  obtain ⟨na, hna⟩ : ∃ n, n = al.length := ⟨_, rfl⟩
  obtain ⟨nc, hnc⟩ : ∃ n, n = cl.length := ⟨_, rfl⟩
  obtain ⟨ns, hns⟩ : ∃ n, n = sa.length := ⟨_, rfl⟩
  obtain ⟨v, hv⟩ : ∃ v, v = (RS.mk W H 4 dn L tA ts tc aA al ac cA cl cc sA sa sc).v := ⟨_, rfl⟩
  have hv2 : v = .agg #[.int .i64 W, .int .i64 H, .int .i64 4, .int .i64 dn, .bool L, .slice tA nt tc, .slice aA na ac, .slice cA nc cc, .slice sA ns sc] := by rw [hv, hnt, hna, hnc, hns]; rfl
  obtain ⟨T, hT⟩ : ∃ T, T = tabS ⟨W, H, 4, dn, L, tA, ts, tc, aA, al, ac, cA, cl, cc, sA, sa, sc⟩ := ⟨_, rfl⟩
  obtain ⟨w2, hw2⟩ : ∃ w2, w2 = (w.alloc (.cells #[.int .i64 W, .int .i64 H, .int .i64 4, .int .i64 dn, .bool L, .slice tA nt tc, .slice aA na ac, .slice cA nc cc, .slice sA ns sc] 34)).alloc (.cells #[.int .u16 0, .int .u16 0, .int .u16 0, .int .u16 0] 38) := ⟨_, rfl⟩
  obtain ⟨g, hg⟩ : ∃ g, g = w.heap.size := ⟨_, rfl⟩
  have hf2 : Fr No w w2 := by rw [hw2]; exact ((Fr.refl _ _).alloc _).alloc _
  have hb9 : w2.heap[g]? = some (.cells #[.int .i64 W, .int .i64 H, .int .i64 4, .int .i64 dn, .bool L, .slice tA nt tc, .slice aA na ac, .slice cA nc cc, .slice sA ns sc] 34 (0, 0)) := by
    rw [hw2, ((Fr.refl No (w.alloc _)).alloc _).block g (by rw [World.size_alloc, hg]; omega) (fun h => h), hg]; exact heap_new _ _
  have hbR : w2.heap[g + 1]? = some (.cells #[.int .u16 0, .int .u16 0, .int .u16 0, .int .u16 0] 38 (0, 0)) := by
    have := heap_new (w.alloc (.cells #[.int .i64 W, .int .i64 H, .int .i64 4, .int .i64 dn, .bool L, .slice tA nt tc, .slice aA na ac, .slice cA nc cc, .slice sA ns sc] 34)) (.cells #[.int .u16 0, .int .u16 0, .int .u16 0, .int .u16 0] 38)
    rw [World.size_alloc, ← hg] at this
    rw [hw2]; exact this
  have hcell : ∀ X, Fr No w2 X → X.heap[g]? = some (.cells #[.int .i64 W, .int .i64 H, .int .i64 4, .int .i64 dn, .bool L, .slice tA nt tc, .slice aA na ac, .slice cA nc cc, .slice sA ns sc] 34 (0, 0)) ∧ X.heap[g + 1]? = some (.cells #[.int .u16 0, .int .u16 0, .int .u16 0, .int .u16 0] 38 (0, 0)) := fun X hf =>
    ⟨(hf.block g (Array.getElem?_eq_some_iff.1 hb9).1 (fun h => h)).trans hb9, (hf.block (g + 1) (Array.getElem?_eq_some_iff.1 hbR).1 (fun h => h)).trans hbR⟩
  have hgs : g + 1 < w2.heap.size := (Array.getElem?_eq_some_iff.1 hbR).1
  have hfin : ∀ (W' : World) (a b c d : Value), Fr No w W' → Fr No w ((((W'.setCell ⟨g + 1, 0, none⟩ a).setCell ⟨g + 1, 1, none⟩ b).setCell ⟨g + 1, 2, none⟩ c).setCell ⟨g + 1, 3, none⟩ d) := fun W' a b c d hf => by
    have hs : ∀ k, k < w.heap.size → HK.One (g + 1) k → No k := fun k hk e => by have e : k = g + 1 := e; omega
    exact (((hf.trans (Fr.set1 _ _ _ _) hs).trans (Fr.set1 _ _ _ _) hs).trans (Fr.set1 _ _ _ _) hs).trans (Fr.set1 _ _ _ _) hs
  have HC := hid hcell
  have HW := hid (And.intro hw2 (And.intro hg (And.intro hf2 (And.intro (hr.fr hf2) (And.intro hv2 (And.intro hfin (And.intro hx hxr)))))))
  have HV := hid hv
  have HT := hid hT
  rw [show tabS ⟨W, H, 4, dn, L, tA, ts, tc, aA, al, ac, cA, cl, cc, sA, sa, sc⟩ = 0 from HT0.out] at hT
  rw [show (RS.mk W H 4 dn L tA ts tc aA al ac cA cl cc sA sa sc).v = .agg #[.int .i64 W, .int .i64 H, .int .i64 4, .int .i64 dn, .bool L, .slice tA nt tc, .slice aA na ac, .slice cA nc cc, .slice sA ns sc] from hv.symm.trans hv2]
  clear hw2 hg hf2 hb9 hbR hcell hr hnt hna hns hfin hv hv2 hT hx hxr
  have HN := hid hnc
  clear hnc
  go_enter Try.func16, Try.ntmps16
  go_wp2_with fail
  rw [← HW.out.1, ← HW.out.2.1, ← HW.out.2.2.2.2.1, HV.out]
  refine (refTables_calls _ _ HW.out.2.2.2.1).mono ?_
  rw [HT0.out]
  rintro e w3 ⟨rfl, hf3⟩
  have h3 := HC.out w3 hf3
  obtain ⟨q0, q1, q2, q3, q4, q5, q6, q7, q8⟩ := blk9 h3.1
  have hs3 : g < w3.heap.size := by have := hf3.size; omega
  clear h3
  go_wp2_with fail
  go_region_held3 (fun w' => w'.cell? ⟨g, 0, none⟩ = some (.int .i64 W) ∧ w'.cell? ⟨g, 1, none⟩ = some (.int .i64 H) ∧ w'.cell? ⟨g, 2, none⟩ = some (.int .i64 4) ∧ w'.cell? ⟨g, 3, none⟩ = some (.int .i64 dn) ∧ w'.cell? ⟨g, 4, none⟩ = some (.bool L) ∧ w'.cell? ⟨g, 5, none⟩ = some (.slice tA nt tc) ∧ w'.cell? ⟨g, 6, none⟩ = some (.slice aA na ac) ∧ w'.cell? ⟨g, 7, none⟩ = some (.slice cA nc cc) ∧ w'.cell? ⟨g, 8, none⟩ = some (.slice sA ns sc))
    (first | go_keep | (refine ⟨(hf5.cellg g 0 (by have h2 := hf4.size; simp at h2; omega) (fun h => h)).trans ?_, (hf5.cellg g 1 (by have h2 := hf4.size; simp at h2; omega) (fun h => h)).trans ?_, (hf5.cellg g 2 (by have h2 := hf4.size; simp at h2; omega) (fun h => h)).trans ?_, (hf5.cellg g 3 (by have h2 := hf4.size; simp at h2; omega) (fun h => h)).trans ?_, (hf5.cellg g 4 (by have h2 := hf4.size; simp at h2; omega) (fun h => h)).trans ?_, (hf5.cellg g 5 (by have h2 := hf4.size; simp at h2; omega) (fun h => h)).trans ?_, (hf5.cellg g 6 (by have h2 := hf4.size; simp at h2; omega) (fun h => h)).trans ?_, (hf5.cellg g 7 (by have h2 := hf4.size; simp at h2; omega) (fun h => h)).trans ?_, (hf5.cellg g 8 (by have h2 := hf4.size; simp at h2; omega) (fun h => h)).trans ?_⟩ <;> go_keep) | (refine ⟨(hf4.cellg g 0 (by simp; omega) (fun h => h)).trans ?_, (hf4.cellg g 1 (by simp; omega) (fun h => h)).trans ?_, (hf4.cellg g 2 (by simp; omega) (fun h => h)).trans ?_, (hf4.cellg g 3 (by simp; omega) (fun h => h)).trans ?_, (hf4.cellg g 4 (by simp; omega) (fun h => h)).trans ?_, (hf4.cellg g 5 (by simp; omega) (fun h => h)).trans ?_, (hf4.cellg g 6 (by simp; omega) (fun h => h)).trans ?_, (hf4.cellg g 7 (by simp; omega) (fun h => h)).trans ?_, (hf4.cellg g 8 (by simp; omega) (fun h => h)).trans ?_⟩ <;> go_keep))
    (first
      | (go_at_call 34; refine (refSamples_calls 4 _).mono ?_; rintro e w4 ⟨rfl, hw4⟩; have hf4 := fr_eq hw4; clear hw4)
      | (go_at_call 33; rw [← HW.out.2.2.2.2.1, HV.out]; refine (numbers_calls _ (some ad) [(y0 : Int), (y1 : Int)] 2 c (samS 4) _ (HW.out.2.2.2.1.fr (hf3.drew.then hf4)) (tab_facts HT0.out).1 HW.out.2.2.2.2.2.2.1 (HW.out.2.2.2.2.2.2.2.fr0 (HW.out.2.2.1.then (hf3.drew.then hf4))) hl).mono ?_; rintro e w5 ⟨rfl, hf5⟩))
  rw [HK0.out]
  have hF5 := (hf3.drew.then hf4).then hf5
  have h5 := HC.out w5 hF5
  obtain ⟨p0, p1, p2, p3, p4, p5, p6, p7, p8⟩ := blk9 h5.1
  obtain ⟨⟨z0, z1, z2, z3⟩, f0, f1, f2, f3⟩ := blk4c h5.2
  have HF5 := hid (And.intro h5.2 hF5)
  clear h5 hF5 hf3 hf4 hf5 q0 q1 q2 q3 q4 q5 q6 q7 q8
  rename_i hHeldX
  clear hHeldX
  have q2' : ∀ o, (w5.alloc o).cell? ⟨g, 2, none⟩ = some (.int .i64 4) := fun o => (((Fr.refl No w5).alloc o).cellg g 2 (lt_of_cell (a := ⟨g, 2, none⟩) p2) (fun h => h)).trans p2
  have c0' : ∀ o, (w5.alloc o).cell? (ad.add 0) = some (.int .i64 (y0 : Int)) := fun o => (((HW.out.2.2.1.then HF5.out.2).alloc o).cell (lt_of_cell (HE.out.1)) (fun h => h)).trans (HE.out.1)
  rw [add_zero] at c0'
  go_wp2_with fail
  clear q2' c0'
  obtain ⟨h, hh⟩ : ∃ h, h = w5.heap.size := ⟨_, rfl⟩
  obtain ⟨X, hX⟩ : ∃ X, X = w5.alloc (.cells #[.int .u16 0, .int .u16 0, .int .u16 0, .int .u16 65535] 38) := ⟨_, rfl⟩
  have hfX : Fr No w5 X := by rw [hX]; exact (Fr.refl _ _).alloc _
  have hbX : X.heap[h]? = some (.cells #[.int .u16 0, .int .u16 0, .int .u16 0, .int .u16 65535] 38 (0, 0)) := by rw [hX, hh]; exact heap_new _ _
  rw [← hX, ← hh]
  have hFX := HF5.out.2.then hfX
  have hX2 := HC.out X hFX
  have hgh : g + 1 < h := by rw [hh]; exact (Array.getElem?_eq_some_iff.1 HF5.out.1).1
  clear p0 p1 p2 p3 p4 p5 p6 p7 p8 z0 z1 z2 z3 f0 f1 f2 f3
  obtain ⟨p0, p1, p2, p3, p4, p5, p6, p7, p8⟩ := blk9 hX2.1
  obtain ⟨⟨z0, z1, z2, z3⟩, f0, f1, f2, f3⟩ := blk4c hX2.2
  obtain ⟨⟨x0, x1, x2, x3⟩, u0, u1, u2, u3⟩ := blk4c hbX
  have hah : ad.block < h := by
    have h1 : ad.block < w.heap.size := lt_of_cell (a := ad.add 0) (HE.out.1)
    have := HW.out.2.1
    omega
  have c0 : X.cell? (ad.add 0) = some (.int .i64 (y0 : Int)) := ((HW.out.2.2.1.then hFX).cell (lt_of_cell (HE.out.1)) (fun h => h)).trans (HE.out.1)
  have c1 : X.cell? (ad.add 1) = some (.int .i64 (y1 : Int)) := ((HW.out.2.2.1.then hFX).cell (lt_of_cell (HE.out.2)) (fun h => h)).trans (HE.out.2)
  replace c1 : X.cell? ⟨ad.block, ad.off + 1, none⟩ = some (.int .i64 (y1 : Int)) := c1
  rw [add_zero] at c0
  have hYY : ∀ Y, Fr (HK.One h) X Y → Y.heap[g + 1]? = some (.cells #[.int .u16 0, .int .u16 0, .int .u16 0, .int .u16 0] 38 (0, 0)) ∧ Fr No w Y := fun Y hY =>
    ⟨(hY.block (g + 1) (Array.getElem?_eq_some_iff.1 hX2.2).1 (fun e => by have e : g + 1 = h := e; omega)).trans hX2.2, (HW.out.2.2.1.then hFX).trans hY (fun j hj (e : j = h) => by have := HW.out.2.1; omega)⟩
  have hII : ∀ Y, Fr (HK.One h) X Y → Rd II Y cA cl ∧ Rd II Y (some ad) [(y0 : Int), (y1 : Int)] := fun Y hY =>
    ⟨HW.out.2.2.2.1.c.fr0 (hFX.trans hY (fun j hj (e : j = h) => by have := HF5.out.2.size; omega)), HW.out.2.2.2.2.2.2.2.fr0 (hYY Y hY).2⟩
  have HYY := hid (And.intro hYY hII)
  clear hX2 hFX hbX hX hfX hh hYY hII
  refine (HF0.out _).mono ?_
  rintro e w6 ⟨rfl, rfl⟩
  go_wp2_with fail
  refine (HF1.out _).mono ?_
  rintro e w7 ⟨rfl, rfl⟩
  rcases Nat.eq_zero_or_pos nc with h0 | h0
  · have hn0 : ¬ (nc : Int) > 0 := by omega
    have H0 := hid h0
    clear h0
    go_wp2_with fail
    refine ret_col2 rfl (g := g + 1) (x := a0) (y := a0) (z := a0) (u := a1) (er := .int .i64 0) (col_cells (HYY.out.1 _ (by repeat (first | exact Fr.refl _ _ | exact Fr.set1 _ _ _ _ | refine Fr.drewN ?_ _ | refine Fr.then ?_ (Fr.set1 _ _ _ _)))).1) rfl rfl rfl ?_
    exact ⟨by rw [HCOL.out, if_neg (show ¬ (0 < cl.length ∧ cl = [(y0 : Int), (y1 : Int)]) from fun h => by have := h.1; rw [← HN.out, H0.out] at this; exact absurd this (by omega))]; rfl, HW.out.2.2.2.2.2.1 _ _ _ _ _ (HYY.out.1 _ (by repeat (first | exact Fr.refl _ _ | exact Fr.set1 _ _ _ _ | refine Fr.drewN ?_ _ | refine Fr.then ?_ (Fr.set1 _ _ _ _)))).2⟩
  · exact absurd h0 (by rw [HN.out, show cl.length = 0 from tab_nc HT0.out (by show ¬ ((4 : Int) = 3); decide) (by show ¬ ((4 : Int) < 3); decide)]; exact Nat.lt_irrefl _)
set_option maxRecDepth 100000 in
set_option maxHeartbeats 3200000 in
theorem refOf_6 (r : RS) (A : Option Addr) (y0 y1 y2 y3 c : Nat) (w : World) (hr : r.ok w) (hC : r.C = 6) (hxr : Rd II w A [(y0 : Int), (y1 : Int), (y2 : Int), (y3 : Int)]) (hE : ofE r [(y0 : Int), (y1 : Int), (y2 : Int), (y3 : Int)] = 0) :
    Calls Try.prog 16 #[r.v, .slice A 4 c] w fun e w' => e = .returned (.tuple #[(ofC r [(y0 : Int), (y1 : Int), (y2 : Int), (y3 : Int)]).v, .int .i64 (ofE r [(y0 : Int), (y1 : Int), (y2 : Int), (y3 : Int)])]) ∧ Fr No w w' := by
  have hx : [(y0 : Int), (y1 : Int), (y2 : Int), (y3 : Int)].length = 4 := rfl
  have hl : (4 : Nat) ≤ 5000 := by decide
  have hOC : ofC r [(y0 : Int), (y1 : Int), (y2 : Int), (y3 : Int)] = colS r [(y0 : Int), (y1 : Int), (y2 : Int), (y3 : Int)] := by unfold ofC; rw [if_pos hE]
  rw [hOC, hE]
  clear hOC
  obtain ⟨hT, hK⟩ := ofE_zero hE
  clear hE
  obtain ⟨W, H, C, D, L, tA, ts, tc, aA, al, ac, cA, cl, cc, sA, sa, sc⟩ := r
  replace hC : C = 6 := hC
  subst hC
  have hm := (tab_facts hT).1
  have hlk := (look_facts hK).2.1
  replace hm : mayS W H 6 D = true := hm
  obtain ⟨m1, m2, m3, m4, m5, m6, m7, m8, m9⟩ := may_facts hm
  obtain ⟨dn, rfl, hd1, hd16⟩ : ∃ dn : Nat, D = dn ∧ 1 ≤ dn ∧ dn ≤ 16 := ⟨D.toNat, by omega, by omega, by omega⟩
  obtain ⟨P, st, ⟨s1, s2, s3, s4⟩, hqs, hpw, hdiv⟩ := dep_nums (dn := dn) (by omega)
  replace hlk : ∀ v ∈ [(y0 : Int), (y1 : Int), (y2 : Int), (y3 : Int)], 0 ≤ v ∧ v ≤ (2 : Int) ^ dn - 1 := hlk
  rw [show (2 : Int) ^ dn = (P : Int) by rw [hqs.2.1]; simp] at hlk
  have HPW := hid hpw
  have HQ := hid hqs
  clear hpw hdiv hqs
  obtain ⟨a0, ha0⟩ : ∃ a, a = y0 * st := ⟨_, rfl⟩
  have hb0 : y0 ≤ P - 1 := by have := (hlk (y0 : Int) (by simp)).2; omega
  have HF0 := hid (show ∀ w, Calls Try.prog 35 #[.int .i64 y0, .int .i64 dn] w fun e w' => e = .returned (.int .u16 (a0 : Int)) ∧ w' = w from fun w => by rw [ha0]; exact full_calls dn y0 P st ⟨s1, s2⟩ HQ.out.1 HPW.out hd16 hb0 w)
  obtain ⟨a1, ha1⟩ : ∃ a, a = y1 * st := ⟨_, rfl⟩
  have hb1 : y1 ≤ P - 1 := by have := (hlk (y1 : Int) (by simp)).2; omega
  have HF1 := hid (show ∀ w, Calls Try.prog 35 #[.int .i64 y1, .int .i64 dn] w fun e w' => e = .returned (.int .u16 (a1 : Int)) ∧ w' = w from fun w => by rw [ha1]; exact full_calls dn y1 P st ⟨s1, s2⟩ HQ.out.1 HPW.out hd16 hb1 w)
  obtain ⟨a2, ha2⟩ : ∃ a, a = y2 * st := ⟨_, rfl⟩
  have hb2 : y2 ≤ P - 1 := by have := (hlk (y2 : Int) (by simp)).2; omega
  have HF2 := hid (show ∀ w, Calls Try.prog 35 #[.int .i64 y2, .int .i64 dn] w fun e w' => e = .returned (.int .u16 (a2 : Int)) ∧ w' = w from fun w => by rw [ha2]; exact full_calls dn y2 P st ⟨s1, s2⟩ HQ.out.1 HPW.out hd16 hb2 w)
  obtain ⟨a3, ha3⟩ : ∃ a, a = y3 * st := ⟨_, rfl⟩
  have hb3 : y3 ≤ P - 1 := by have := (hlk (y3 : Int) (by simp)).2; omega
  have HF3 := hid (show ∀ w, Calls Try.prog 35 #[.int .i64 y3, .int .i64 dn] w fun e w' => e = .returned (.int .u16 (a3 : Int)) ∧ w' = w from fun w => by rw [ha3]; exact full_calls dn y3 P st ⟨s1, s2⟩ HQ.out.1 HPW.out hd16 hb3 w)
  have HCOL := hid (show colS ⟨W, H, 6, dn, L, tA, ts, tc, aA, al, ac, cA, cl, cc, sA, sa, sc⟩ [(y0 : Int), (y1 : Int), (y2 : Int), (y3 : Int)] = ((a0 : Int), (a1 : Int), (a2 : Int), if 0 < cl.length ∧ cl = [(y0 : Int), (y1 : Int), (y2 : Int), (y3 : Int)] then 0 else (a3 : Int)) by
    rw [ha0, ha1, ha2, ha3]
    unfold colS
    rw [if_neg (show ¬ ((6 : Int) = 3) by decide)]
    simp [HQ.out.2.2])
  clear ha0 ha1 ha2 ha3 hb0 hb1 hb2 hb3 hm hlk m1 m2 m3 m4 m5 m6 m7 m8 m9 s1 s2 s3 s4 HQ HPW hd1 hd16
  obtain ⟨ad, rfl, hcs⟩ := hxr (by simp)
  have e0 := hcs 0 (by simp)
  have e1 := hcs 1 (by simp)
  have e2 := hcs 2 (by simp)
  have e3 := hcs 3 (by simp)
  have HE := hid (And.intro e0 ( And.intro e1 ( And.intro e2 (e3))))
  clear hcs e0 e1 e2 e3
  have HT0 := hid hT
  have HK0 := hid hK
  clear hT hK
  obtain ⟨nt, hnt⟩ : ∃ n, n = ts.length := ⟨_, rfl⟩
  obtain ⟨na, hna⟩ : ∃ n, n = al.length := ⟨_, rfl⟩
  obtain ⟨nc, hnc⟩ : ∃ n, n = cl.length := ⟨_, rfl⟩
  obtain ⟨ns, hns⟩ : ∃ n, n = sa.length := ⟨_, rfl⟩
  obtain ⟨v, hv⟩ : ∃ v, v = (RS.mk W H 6 dn L tA ts tc aA al ac cA cl cc sA sa sc).v := ⟨_, rfl⟩
  have hv2 : v = .agg #[.int .i64 W, .int .i64 H, .int .i64 6, .int .i64 dn, .bool L, .slice tA nt tc, .slice aA na ac, .slice cA nc cc, .slice sA ns sc] := by rw [hv, hnt, hna, hnc, hns]; rfl
  obtain ⟨T, hT⟩ : ∃ T, T = tabS ⟨W, H, 6, dn, L, tA, ts, tc, aA, al, ac, cA, cl, cc, sA, sa, sc⟩ := ⟨_, rfl⟩
  obtain ⟨w2, hw2⟩ : ∃ w2, w2 = (w.alloc (.cells #[.int .i64 W, .int .i64 H, .int .i64 6, .int .i64 dn, .bool L, .slice tA nt tc, .slice aA na ac, .slice cA nc cc, .slice sA ns sc] 34)).alloc (.cells #[.int .u16 0, .int .u16 0, .int .u16 0, .int .u16 0] 38) := ⟨_, rfl⟩
  obtain ⟨g, hg⟩ : ∃ g, g = w.heap.size := ⟨_, rfl⟩
  have hf2 : Fr No w w2 := by rw [hw2]; exact ((Fr.refl _ _).alloc _).alloc _
  have hb9 : w2.heap[g]? = some (.cells #[.int .i64 W, .int .i64 H, .int .i64 6, .int .i64 dn, .bool L, .slice tA nt tc, .slice aA na ac, .slice cA nc cc, .slice sA ns sc] 34 (0, 0)) := by
    rw [hw2, ((Fr.refl No (w.alloc _)).alloc _).block g (by rw [World.size_alloc, hg]; omega) (fun h => h), hg]; exact heap_new _ _
  have hbR : w2.heap[g + 1]? = some (.cells #[.int .u16 0, .int .u16 0, .int .u16 0, .int .u16 0] 38 (0, 0)) := by
    have := heap_new (w.alloc (.cells #[.int .i64 W, .int .i64 H, .int .i64 6, .int .i64 dn, .bool L, .slice tA nt tc, .slice aA na ac, .slice cA nc cc, .slice sA ns sc] 34)) (.cells #[.int .u16 0, .int .u16 0, .int .u16 0, .int .u16 0] 38)
    rw [World.size_alloc, ← hg] at this
    rw [hw2]; exact this
  have hcell : ∀ X, Fr No w2 X → X.heap[g]? = some (.cells #[.int .i64 W, .int .i64 H, .int .i64 6, .int .i64 dn, .bool L, .slice tA nt tc, .slice aA na ac, .slice cA nc cc, .slice sA ns sc] 34 (0, 0)) ∧ X.heap[g + 1]? = some (.cells #[.int .u16 0, .int .u16 0, .int .u16 0, .int .u16 0] 38 (0, 0)) := fun X hf =>
    ⟨(hf.block g (Array.getElem?_eq_some_iff.1 hb9).1 (fun h => h)).trans hb9, (hf.block (g + 1) (Array.getElem?_eq_some_iff.1 hbR).1 (fun h => h)).trans hbR⟩
  have hgs : g + 1 < w2.heap.size := (Array.getElem?_eq_some_iff.1 hbR).1
  have hfin : ∀ (W' : World) (a b c d : Value), Fr No w W' → Fr No w ((((W'.setCell ⟨g + 1, 0, none⟩ a).setCell ⟨g + 1, 1, none⟩ b).setCell ⟨g + 1, 2, none⟩ c).setCell ⟨g + 1, 3, none⟩ d) := fun W' a b c d hf => by
    have hs : ∀ k, k < w.heap.size → HK.One (g + 1) k → No k := fun k hk e => by have e : k = g + 1 := e; omega
    exact (((hf.trans (Fr.set1 _ _ _ _) hs).trans (Fr.set1 _ _ _ _) hs).trans (Fr.set1 _ _ _ _) hs).trans (Fr.set1 _ _ _ _) hs
  have HC := hid hcell
  have HW := hid (And.intro hw2 (And.intro hg (And.intro hf2 (And.intro (hr.fr hf2) (And.intro hv2 (And.intro hfin (And.intro hx hxr)))))))
  have HV := hid hv
  have HT := hid hT
  rw [show tabS ⟨W, H, 6, dn, L, tA, ts, tc, aA, al, ac, cA, cl, cc, sA, sa, sc⟩ = 0 from HT0.out] at hT
  rw [show (RS.mk W H 6 dn L tA ts tc aA al ac cA cl cc sA sa sc).v = .agg #[.int .i64 W, .int .i64 H, .int .i64 6, .int .i64 dn, .bool L, .slice tA nt tc, .slice aA na ac, .slice cA nc cc, .slice sA ns sc] from hv.symm.trans hv2]
  clear hw2 hg hf2 hb9 hbR hcell hr hnt hna hns hfin hv hv2 hT hx hxr
  have HN := hid hnc
  clear hnc
  go_enter Try.func16, Try.ntmps16
  go_wp2_with fail
  rw [← HW.out.1, ← HW.out.2.1, ← HW.out.2.2.2.2.1, HV.out]
  refine (refTables_calls _ _ HW.out.2.2.2.1).mono ?_
  rw [HT0.out]
  rintro e w3 ⟨rfl, hf3⟩
  have h3 := HC.out w3 hf3
  obtain ⟨q0, q1, q2, q3, q4, q5, q6, q7, q8⟩ := blk9 h3.1
  have hs3 : g < w3.heap.size := by have := hf3.size; omega
  clear h3
  go_wp2_with fail
  go_region_held3 (fun w' => w'.cell? ⟨g, 0, none⟩ = some (.int .i64 W) ∧ w'.cell? ⟨g, 1, none⟩ = some (.int .i64 H) ∧ w'.cell? ⟨g, 2, none⟩ = some (.int .i64 6) ∧ w'.cell? ⟨g, 3, none⟩ = some (.int .i64 dn) ∧ w'.cell? ⟨g, 4, none⟩ = some (.bool L) ∧ w'.cell? ⟨g, 5, none⟩ = some (.slice tA nt tc) ∧ w'.cell? ⟨g, 6, none⟩ = some (.slice aA na ac) ∧ w'.cell? ⟨g, 7, none⟩ = some (.slice cA nc cc) ∧ w'.cell? ⟨g, 8, none⟩ = some (.slice sA ns sc))
    (first | go_keep | (refine ⟨(hf5.cellg g 0 (by have h2 := hf4.size; simp at h2; omega) (fun h => h)).trans ?_, (hf5.cellg g 1 (by have h2 := hf4.size; simp at h2; omega) (fun h => h)).trans ?_, (hf5.cellg g 2 (by have h2 := hf4.size; simp at h2; omega) (fun h => h)).trans ?_, (hf5.cellg g 3 (by have h2 := hf4.size; simp at h2; omega) (fun h => h)).trans ?_, (hf5.cellg g 4 (by have h2 := hf4.size; simp at h2; omega) (fun h => h)).trans ?_, (hf5.cellg g 5 (by have h2 := hf4.size; simp at h2; omega) (fun h => h)).trans ?_, (hf5.cellg g 6 (by have h2 := hf4.size; simp at h2; omega) (fun h => h)).trans ?_, (hf5.cellg g 7 (by have h2 := hf4.size; simp at h2; omega) (fun h => h)).trans ?_, (hf5.cellg g 8 (by have h2 := hf4.size; simp at h2; omega) (fun h => h)).trans ?_⟩ <;> go_keep) | (refine ⟨(hf4.cellg g 0 (by simp; omega) (fun h => h)).trans ?_, (hf4.cellg g 1 (by simp; omega) (fun h => h)).trans ?_, (hf4.cellg g 2 (by simp; omega) (fun h => h)).trans ?_, (hf4.cellg g 3 (by simp; omega) (fun h => h)).trans ?_, (hf4.cellg g 4 (by simp; omega) (fun h => h)).trans ?_, (hf4.cellg g 5 (by simp; omega) (fun h => h)).trans ?_, (hf4.cellg g 6 (by simp; omega) (fun h => h)).trans ?_, (hf4.cellg g 7 (by simp; omega) (fun h => h)).trans ?_, (hf4.cellg g 8 (by simp; omega) (fun h => h)).trans ?_⟩ <;> go_keep))
    (first
      | (go_at_call 34; refine (refSamples_calls 6 _).mono ?_; rintro e w4 ⟨rfl, hw4⟩; have hf4 := fr_eq hw4; clear hw4)
      | (go_at_call 33; rw [← HW.out.2.2.2.2.1, HV.out]; refine (numbers_calls _ (some ad) [(y0 : Int), (y1 : Int), (y2 : Int), (y3 : Int)] 4 c (samS 6) _ (HW.out.2.2.2.1.fr (hf3.drew.then hf4)) (tab_facts HT0.out).1 HW.out.2.2.2.2.2.2.1 (HW.out.2.2.2.2.2.2.2.fr0 (HW.out.2.2.1.then (hf3.drew.then hf4))) hl).mono ?_; rintro e w5 ⟨rfl, hf5⟩))
  rw [HK0.out]
  have hF5 := (hf3.drew.then hf4).then hf5
  have h5 := HC.out w5 hF5
  obtain ⟨p0, p1, p2, p3, p4, p5, p6, p7, p8⟩ := blk9 h5.1
  obtain ⟨⟨z0, z1, z2, z3⟩, f0, f1, f2, f3⟩ := blk4c h5.2
  have HF5 := hid (And.intro h5.2 hF5)
  clear h5 hF5 hf3 hf4 hf5 q0 q1 q2 q3 q4 q5 q6 q7 q8
  rename_i hHeldX
  clear hHeldX
  have q2' : ∀ o, (w5.alloc o).cell? ⟨g, 2, none⟩ = some (.int .i64 6) := fun o => (((Fr.refl No w5).alloc o).cellg g 2 (lt_of_cell (a := ⟨g, 2, none⟩) p2) (fun h => h)).trans p2
  have c0' : ∀ o, (w5.alloc o).cell? (ad.add 0) = some (.int .i64 (y0 : Int)) := fun o => (((HW.out.2.2.1.then HF5.out.2).alloc o).cell (lt_of_cell (HE.out.1)) (fun h => h)).trans (HE.out.1)
  rw [add_zero] at c0'
  go_wp2_with fail
  clear q2' c0'
  obtain ⟨h, hh⟩ : ∃ h, h = w5.heap.size := ⟨_, rfl⟩
  obtain ⟨X, hX⟩ : ∃ X, X = w5.alloc (.cells #[.int .u16 0, .int .u16 0, .int .u16 0, .int .u16 65535] 38) := ⟨_, rfl⟩
  have hfX : Fr No w5 X := by rw [hX]; exact (Fr.refl _ _).alloc _
  have hbX : X.heap[h]? = some (.cells #[.int .u16 0, .int .u16 0, .int .u16 0, .int .u16 65535] 38 (0, 0)) := by rw [hX, hh]; exact heap_new _ _
  rw [← hX, ← hh]
  have hFX := HF5.out.2.then hfX
  have hX2 := HC.out X hFX
  have hgh : g + 1 < h := by rw [hh]; exact (Array.getElem?_eq_some_iff.1 HF5.out.1).1
  clear p0 p1 p2 p3 p4 p5 p6 p7 p8 z0 z1 z2 z3 f0 f1 f2 f3
  obtain ⟨p0, p1, p2, p3, p4, p5, p6, p7, p8⟩ := blk9 hX2.1
  obtain ⟨⟨z0, z1, z2, z3⟩, f0, f1, f2, f3⟩ := blk4c hX2.2
  obtain ⟨⟨x0, x1, x2, x3⟩, u0, u1, u2, u3⟩ := blk4c hbX
  have hah : ad.block < h := by
    have h1 : ad.block < w.heap.size := lt_of_cell (a := ad.add 0) (HE.out.1)
    have := HW.out.2.1
    omega
  have c0 : X.cell? (ad.add 0) = some (.int .i64 (y0 : Int)) := ((HW.out.2.2.1.then hFX).cell (lt_of_cell (HE.out.1)) (fun h => h)).trans (HE.out.1)
  have c1 : X.cell? (ad.add 1) = some (.int .i64 (y1 : Int)) := ((HW.out.2.2.1.then hFX).cell (lt_of_cell (HE.out.2.1)) (fun h => h)).trans (HE.out.2.1)
  have c2 : X.cell? (ad.add 2) = some (.int .i64 (y2 : Int)) := ((HW.out.2.2.1.then hFX).cell (lt_of_cell (HE.out.2.2.1)) (fun h => h)).trans (HE.out.2.2.1)
  have c3 : X.cell? (ad.add 3) = some (.int .i64 (y3 : Int)) := ((HW.out.2.2.1.then hFX).cell (lt_of_cell (HE.out.2.2.2)) (fun h => h)).trans (HE.out.2.2.2)
  replace c1 : X.cell? ⟨ad.block, ad.off + 1, none⟩ = some (.int .i64 (y1 : Int)) := c1
  replace c2 : X.cell? ⟨ad.block, ad.off + 2, none⟩ = some (.int .i64 (y2 : Int)) := c2
  replace c3 : X.cell? ⟨ad.block, ad.off + 3, none⟩ = some (.int .i64 (y3 : Int)) := c3
  rw [add_zero] at c0
  have hYY : ∀ Y, Fr (HK.One h) X Y → Y.heap[g + 1]? = some (.cells #[.int .u16 0, .int .u16 0, .int .u16 0, .int .u16 0] 38 (0, 0)) ∧ Fr No w Y := fun Y hY =>
    ⟨(hY.block (g + 1) (Array.getElem?_eq_some_iff.1 hX2.2).1 (fun e => by have e : g + 1 = h := e; omega)).trans hX2.2, (HW.out.2.2.1.then hFX).trans hY (fun j hj (e : j = h) => by have := HW.out.2.1; omega)⟩
  have hII : ∀ Y, Fr (HK.One h) X Y → Rd II Y cA cl ∧ Rd II Y (some ad) [(y0 : Int), (y1 : Int), (y2 : Int), (y3 : Int)] := fun Y hY =>
    ⟨HW.out.2.2.2.1.c.fr0 (hFX.trans hY (fun j hj (e : j = h) => by have := HF5.out.2.size; omega)), HW.out.2.2.2.2.2.2.2.fr0 (hYY Y hY).2⟩
  have HYY := hid (And.intro hYY hII)
  clear hX2 hFX hbX hX hfX hh hYY hII
  refine (HF0.out _).mono ?_
  rintro e w6 ⟨rfl, rfl⟩
  go_wp2_with fail
  refine (HF1.out _).mono ?_
  rintro e w7 ⟨rfl, rfl⟩
  go_wp2_with fail
  refine (HF2.out _).mono ?_
  rintro e w7 ⟨rfl, rfl⟩
  go_wp2_with fail
  refine (HF3.out _).mono ?_
  rintro e w7 ⟨rfl, rfl⟩
  rcases Nat.eq_zero_or_pos nc with h0 | h0
  · have hn0 : ¬ (nc : Int) > 0 := by omega
    have H0 := hid h0
    clear h0
    go_wp2_with fail
    refine ret_col2 rfl (g := g + 1) (x := a0) (y := a1) (z := a2) (u := a3) (er := .int .i64 0) (col_cells (HYY.out.1 _ (by repeat (first | exact Fr.refl _ _ | exact Fr.set1 _ _ _ _ | refine Fr.drewN ?_ _ | refine Fr.then ?_ (Fr.set1 _ _ _ _)))).1) rfl rfl rfl ?_
    exact ⟨by rw [HCOL.out, if_neg (show ¬ (0 < cl.length ∧ cl = [(y0 : Int), (y1 : Int), (y2 : Int), (y3 : Int)]) from fun h => by have := h.1; rw [← HN.out, H0.out] at this; exact absurd this (by omega))]; rfl, HW.out.2.2.2.2.2.1 _ _ _ _ _ (HYY.out.1 _ (by repeat (first | exact Fr.refl _ _ | exact Fr.set1 _ _ _ _ | refine Fr.drewN ?_ _ | refine Fr.then ?_ (Fr.set1 _ _ _ _)))).2⟩
  · exact absurd h0 (by rw [HN.out, show cl.length = 0 from tab_nc HT0.out (by show ¬ ((6 : Int) = 3); decide) (by show ¬ ((6 : Int) < 3); decide)]; exact Nat.lt_irrefl _)
end Go.Proofs.Ytdbbkdlocmafgaa

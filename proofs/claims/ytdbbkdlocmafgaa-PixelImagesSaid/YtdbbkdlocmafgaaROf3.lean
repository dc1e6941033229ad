/- The document's Of, of a table. -/
import Derived.Test.YtdbbkdlocmafgaaROf2
import Derived.Deep.RegionHeld3
import Derived.BigRegion
import Derived.Deep.QuietTactic
import Derived.BigQuiet
namespace Go.Proofs.Ytdbbkdlocmafgaa
open Go.RowKit Go.Proofs.HK
set_option linter.unusedVariables false
set_option linter.unusedSimpArgs false
attribute [local go_sem] max2_int min2_int max_two min_two

set_option maxRecDepth 100000 in
set_option maxHeartbeats 3200000 in
theorem refOf_3 (r : RS) (A : Option Addr) (y0 c : Nat) (w : World) (hr : r.ok w) (hC : r.C = 3) (hxr : Rd II w A [(y0 : Int)]) (hE : ofE r [(y0 : Int)] = 0) :
    Calls Try.prog 16 #[r.v, .slice A 1 c] w fun e w' => e = .returned (.tuple #[(ofC r [(y0 : Int)]).v, .int .i64 (ofE r [(y0 : Int)])]) ∧ Fr No w w' := by
  have hx : [(y0 : Int)].length = 1 := rfl
  have hl : (1 : Nat) ≤ 5000 := by decide
  have hOC : ofC r [(y0 : Int)] = colS r [(y0 : Int)] := by unfold ofC; rw [if_pos hE]
  rw [hOC, hE]
  clear hOC
  obtain ⟨hT, hK⟩ := ofE_zero hE
  clear hE
  obtain ⟨W, H, C, D, L, tA, ts, tc, aA, al, ac, cA, cl, cc, sA, sa, sc⟩ := r
  replace hC : C = 3 := hC
  subst hC
  have hm := (tab_facts hT).1
  have hlk := (look_facts hK).2.1
  replace hm : mayS W H 3 D = true := hm
  obtain ⟨m1, m2, m3, m4, m5, m6, m7, m8, m9⟩ := may_facts hm
  obtain ⟨dn, rfl, hd1, hd16⟩ : ∃ dn : Nat, D = dn ∧ 1 ≤ dn ∧ dn ≤ 16 := ⟨D.toNat, by omega, by omega, by omega⟩
  obtain ⟨P, st, ⟨s1, s2, s3, s4⟩, hqs, hpw, hdiv⟩ := dep_nums (dn := dn) (by omega)
  replace hlk : ∀ v ∈ [(y0 : Int)], 0 ≤ v ∧ v ≤ (2 : Int) ^ dn - 1 := hlk
  rw [show (2 : Int) ^ dn = (P : Int) by rw [hqs.2.1]; simp] at hlk
  have HPW := hid hpw
  have HQ := hid hqs
  clear hpw hdiv hqs
  have hyn : y0 < ts.length := by
    have := ((look_facts hK).2.2 rfl (y0 : Int) (by simp)).2
    have e : ((RS.mk W H 3 dn L tA ts tc aA al ac cA cl cc sA sa sc).ts.length : Int) = (ts.length : Int) := rfl
    rw [e] at this
    omega
  have hal := ((tab_facts hT).2 rfl).1
  have hcl := ((tab_facts hT).2 rfl).2
  replace hal : ∀ v ∈ al, 0 ≤ v ∧ v ≤ 255 := hal
  replace hcl : cl.length = 0 := hcl
  obtain ⟨t, ht⟩ : ∃ t, t = ts[y0] := ⟨_, rfl⟩
  obtain ⟨R, hR⟩ : ∃ R : Nat, R = t.1.toNat := ⟨_, rfl⟩
  obtain ⟨G, hG⟩ : ∃ R : Nat, R = t.2.1.toNat := ⟨_, rfl⟩
  obtain ⟨Bb, hB⟩ : ∃ R : Nat, R = t.2.2.toNat := ⟨_, rfl⟩
  have hRb : R < 256 := by rw [hR]; exact t.1.toNat_lt
  have hGb : G < 256 := by rw [hG]; exact t.2.1.toNat_lt
  have hBb : Bb < 256 := by rw [hB]; exact t.2.2.toNat_lt
  have HCOL := hid (show colS ⟨W, H, 3, dn, L, tA, ts, tc, aA, al, ac, cA, cl, cc, sA, sa, sc⟩ [(y0 : Int)] = ((R : Int) * 257, (G : Int) * 257, (Bb : Int) * 257, if (y0 : Int) < al.length then al.getD y0 0 * 257 else 65535) by
    unfold colS
    rw [if_pos rfl, hR, hG, hB, ht]
    simp [List.getD, hyn])
  have HTS := hid (And.intro hyn (And.intro hal (And.intro hcl (And.intro hR (And.intro hG (And.intro hB ht))))))
  obtain ⟨td, rfl, -⟩ := hr.t (by rw [tinsC_length]; exact Nat.mul_pos (Nat.lt_of_le_of_lt (Nat.zero_le _) hyn) (by decide))
  have hnt0 : (y0 : Int) < (ts.length : Int) := by omega
  clear hR hG hB ht hal hcl
  clear hm hlk m1 m2 m3 m4 m5 m6 m7 m8 m9 s1 s2 s3 s4 HQ HPW hd1 hd16
  obtain ⟨ad, rfl, hcs⟩ := hxr (by simp)
  have e0 := hcs 0 (by simp)
  have HE := hid e0
  clear hcs e0
  have HT0 := hid hT
  have HK0 := hid hK
  clear hT hK
  obtain ⟨nt, hnt⟩ : ∃ n, n = ts.length := ⟨_, rfl⟩
  obtain ⟨na, hna⟩ : ∃ n, n = al.length := ⟨_, rfl⟩
  obtain ⟨nc, hnc⟩ : ∃ n, n = cl.length := ⟨_, rfl⟩
  obtain ⟨ns, hns⟩ : ∃ n, n = sa.length := ⟨_, rfl⟩
  obtain ⟨v, hv⟩ : ∃ v, v = (RS.mk W H 3 dn L (some td) ts tc aA al ac cA cl cc sA sa sc).v := ⟨_, rfl⟩
  have hv2 : v = .agg #[.int .i64 W, .int .i64 H, .int .i64 3, .int .i64 dn, .bool L, .slice (some td) nt tc, .slice aA na ac, .slice cA nc cc, .slice sA ns sc] := by rw [hv, hnt, hna, hnc, hns]; rfl
  obtain ⟨T, hT⟩ : ∃ T, T = tabS ⟨W, H, 3, dn, L, some td, ts, tc, aA, al, ac, cA, cl, cc, sA, sa, sc⟩ := ⟨_, rfl⟩
  obtain ⟨w2, hw2⟩ : ∃ w2, w2 = (w.alloc (.cells #[.int .i64 W, .int .i64 H, .int .i64 3, .int .i64 dn, .bool L, .slice (some td) nt tc, .slice aA na ac, .slice cA nc cc, .slice sA ns sc] 34)).alloc (.cells #[.int .u16 0, .int .u16 0, .int .u16 0, .int .u16 0] 38) := ⟨_, rfl⟩
  obtain ⟨g, hg⟩ : ∃ g, g = w.heap.size := ⟨_, rfl⟩
  have hf2 : Fr No w w2 := by rw [hw2]; exact ((Fr.refl _ _).alloc _).alloc _
  have hb9 : w2.heap[g]? = some (.cells #[.int .i64 W, .int .i64 H, .int .i64 3, .int .i64 dn, .bool L, .slice (some td) nt tc, .slice aA na ac, .slice cA nc cc, .slice sA ns sc] 34 (0, 0)) := by
    rw [hw2, ((Fr.refl No (w.alloc _)).alloc _).block g (by rw [World.size_alloc, hg]; omega) (fun h => h), hg]; exact heap_new _ _
  have hbR : w2.heap[g + 1]? = some (.cells #[.int .u16 0, .int .u16 0, .int .u16 0, .int .u16 0] 38 (0, 0)) := by
    have := heap_new (w.alloc (.cells #[.int .i64 W, .int .i64 H, .int .i64 3, .int .i64 dn, .bool L, .slice (some td) nt tc, .slice aA na ac, .slice cA nc cc, .slice sA ns sc] 34)) (.cells #[.int .u16 0, .int .u16 0, .int .u16 0, .int .u16 0] 38)
    rw [World.size_alloc, ← hg] at this
    rw [hw2]; exact this
  have hcell : ∀ X, Fr No w2 X → X.heap[g]? = some (.cells #[.int .i64 W, .int .i64 H, .int .i64 3, .int .i64 dn, .bool L, .slice (some td) nt tc, .slice aA na ac, .slice cA nc cc, .slice sA ns sc] 34 (0, 0)) ∧ X.heap[g + 1]? = some (.cells #[.int .u16 0, .int .u16 0, .int .u16 0, .int .u16 0] 38 (0, 0)) := fun X hf =>
    ⟨(hf.block g (Array.getElem?_eq_some_iff.1 hb9).1 (fun h => h)).trans hb9, (hf.block (g + 1) (Array.getElem?_eq_some_iff.1 hbR).1 (fun h => h)).trans hbR⟩
  have hgs : g + 1 < w2.heap.size := (Array.getElem?_eq_some_iff.1 hbR).1
  have hfin : ∀ (W' : World) (a b c d : Value), Fr No w W' → Fr No w ((((W'.setCell ⟨g + 1, 0, none⟩ a).setCell ⟨g + 1, 1, none⟩ b).setCell ⟨g + 1, 2, none⟩ c).setCell ⟨g + 1, 3, none⟩ d) := fun W' a b c d hf => by
    have hs : ∀ k, k < w.heap.size → HK.One (g + 1) k → No k := fun k hk e => by have e : k = g + 1 := e; omega
    exact (((hf.trans (Fr.set1 _ _ _ _) hs).trans (Fr.set1 _ _ _ _) hs).trans (Fr.set1 _ _ _ _) hs).trans (Fr.set1 _ _ _ _) hs
  have HC := hid hcell
  have HW := hid (And.intro hw2 (And.intro hg (And.intro hf2 (And.intro (hr.fr hf2) (And.intro hv2 (And.intro hfin (And.intro hx hxr)))))))
  have HV := hid hv
  have HT := hid hT
  rw [show tabS ⟨W, H, 3, dn, L, some td, ts, tc, aA, al, ac, cA, cl, cc, sA, sa, sc⟩ = 0 from HT0.out] at hT
  rw [show (RS.mk W H 3 dn L (some td) ts tc aA al ac cA cl cc sA sa sc).v = .agg #[.int .i64 W, .int .i64 H, .int .i64 3, .int .i64 dn, .bool L, .slice (some td) nt tc, .slice aA na ac, .slice cA nc cc, .slice sA ns sc] from hv.symm.trans hv2]
  clear hw2 hg hf2 hb9 hbR hcell hr hns hfin hv hv2 hT hx hxr
  have hyi : (y0 : Int) < (nt : Int) := by rw [hnt]; exact hnt0
  have HN := hid (And.intro hnc (And.intro hna hnt))
  clear hnc hna hnt hnt0
  go_enter Try.func16, Try.ntmps16
  go_wp2_with fail
  rw [← HW.out.1, ← HW.out.2.1, ← HW.out.2.2.2.2.1, HV.out]
  refine (refTables_calls _ _ HW.out.2.2.2.1).mono ?_
  rw [HT0.out]
  rintro e w3 ⟨rfl, hf3⟩
  have h3 := HC.out w3 hf3
  obtain ⟨q0, q1, q2, q3, q4, q5, q6, q7, q8⟩ := blk9 h3.1
  have hs3 : g < w3.heap.size := by have := hf3.size; omega
  clear h3
  go_wp2_with fail
  go_region_held3 (fun w' => w'.cell? ⟨g, 0, none⟩ = some (.int .i64 W) ∧ w'.cell? ⟨g, 1, none⟩ = some (.int .i64 H) ∧ w'.cell? ⟨g, 2, none⟩ = some (.int .i64 3) ∧ w'.cell? ⟨g, 3, none⟩ = some (.int .i64 dn) ∧ w'.cell? ⟨g, 4, none⟩ = some (.bool L) ∧ w'.cell? ⟨g, 5, none⟩ = some (.slice (some td) nt tc) ∧ w'.cell? ⟨g, 6, none⟩ = some (.slice aA na ac) ∧ w'.cell? ⟨g, 7, none⟩ = some (.slice cA nc cc) ∧ w'.cell? ⟨g, 8, none⟩ = some (.slice sA ns sc))
    (first | go_keep | (refine ⟨(hf5.cellg g 0 (by have h2 := hf4.size; simp at h2; omega) (fun h => h)).trans ?_, (hf5.cellg g 1 (by have h2 := hf4.size; simp at h2; omega) (fun h => h)).trans ?_, (hf5.cellg g 2 (by have h2 := hf4.size; simp at h2; omega) (fun h => h)).trans ?_, (hf5.cellg g 3 (by have h2 := hf4.size; simp at h2; omega) (fun h => h)).trans ?_, (hf5.cellg g 4 (by have h2 := hf4.size; simp at h2; omega) (fun h => h)).trans ?_, (hf5.cellg g 5 (by have h2 := hf4.size; simp at h2; omega) (fun h => h)).trans ?_, (hf5.cellg g 6 (by have h2 := hf4.size; simp at h2; omega) (fun h => h)).trans ?_, (hf5.cellg g 7 (by have h2 := hf4.size; simp at h2; omega) (fun h => h)).trans ?_, (hf5.cellg g 8 (by have h2 := hf4.size; simp at h2; omega) (fun h => h)).trans ?_⟩ <;> go_keep) | (refine ⟨(hf4.cellg g 0 (by simp; omega) (fun h => h)).trans ?_, (hf4.cellg g 1 (by simp; omega) (fun h => h)).trans ?_, (hf4.cellg g 2 (by simp; omega) (fun h => h)).trans ?_, (hf4.cellg g 3 (by simp; omega) (fun h => h)).trans ?_, (hf4.cellg g 4 (by simp; omega) (fun h => h)).trans ?_, (hf4.cellg g 5 (by simp; omega) (fun h => h)).trans ?_, (hf4.cellg g 6 (by simp; omega) (fun h => h)).trans ?_, (hf4.cellg g 7 (by simp; omega) (fun h => h)).trans ?_, (hf4.cellg g 8 (by simp; omega) (fun h => h)).trans ?_⟩ <;> go_keep))
    (first
      | (go_at_call 34; refine (refSamples_calls 3 _).mono ?_; rintro e w4 ⟨rfl, hw4⟩; have hf4 := fr_eq hw4; clear hw4)
      | (go_at_call 33; rw [← HW.out.2.2.2.2.1, HV.out]; refine (numbers_calls _ (some ad) [(y0 : Int)] 1 c (samS 3) _ (HW.out.2.2.2.1.fr (hf3.drew.then hf4)) (tab_facts HT0.out).1 HW.out.2.2.2.2.2.2.1 (HW.out.2.2.2.2.2.2.2.fr0 (HW.out.2.2.1.then (hf3.drew.then hf4))) hl).mono ?_; rintro e w5 ⟨rfl, hf5⟩))
  rw [HK0.out]
  have hF5 := (hf3.drew.then hf4).then hf5
  have h5 := HC.out w5 hF5
  obtain ⟨p0, p1, p2, p3, p4, p5, p6, p7, p8⟩ := blk9 h5.1
  obtain ⟨⟨z0, z1, z2, z3⟩, f0, f1, f2, f3⟩ := blk4c h5.2
  have HF5 := hid (And.intro h5.2 hF5)
  clear h5 hF5 hf3 hf4 hf5 q0 q1 q2 q3 q4 q5 q6 q7 q8
  rename_i hHeldX
  clear hHeldX
  have q2' : ∀ o, (w5.alloc o).cell? ⟨g, 2, none⟩ = some (.int .i64 3) := fun o => (((Fr.refl No w5).alloc o).cellg g 2 (lt_of_cell (a := ⟨g, 2, none⟩) p2) (fun h => h)).trans p2
  have c0' : ∀ o, (w5.alloc o).cell? (ad.add 0) = some (.int .i64 (y0 : Int)) := fun o => (((HW.out.2.2.1.then HF5.out.2).alloc o).cell (lt_of_cell (HE.out)) (fun h => h)).trans (HE.out)
  rw [add_zero] at c0'
  go_wp2_with fail
  clear q2' c0'
  obtain ⟨h, hh⟩ : ∃ h, h = w5.heap.size := ⟨_, rfl⟩
  obtain ⟨X, hX⟩ : ∃ X, X = w5.alloc (.cells #[.int .u16 0, .int .u16 0, .int .u16 0, .int .u16 65535] 38) := ⟨_, rfl⟩
  have hfX : Fr No w5 X := by rw [hX]; exact (Fr.refl _ _).alloc _
  have hbX : X.heap[h]? = some (.cells #[.int .u16 0, .int .u16 0, .int .u16 0, .int .u16 65535] 38 (0, 0)) := by rw [hX, hh]; exact heap_new _ _
  rw [← hX, ← hh]
  have hFX := HF5.out.2.then hfX
  have hX2 := HC.out X hFX
  have hgh : g + 1 < h := by rw [hh]; exact (Array.getElem?_eq_some_iff.1 HF5.out.1).1
  clear p0 p1 p2 p3 p4 p5 p6 p7 p8 z0 z1 z2 z3 f0 f1 f2 f3
  obtain ⟨p0, p1, p2, p3, p4, p5, p6, p7, p8⟩ := blk9 hX2.1
  obtain ⟨⟨z0, z1, z2, z3⟩, f0, f1, f2, f3⟩ := blk4c hX2.2
  obtain ⟨⟨x0, x1, x2, x3⟩, u0, u1, u2, u3⟩ := blk4c hbX
  have hah : ad.block < h := by
    have h1 : ad.block < w.heap.size := lt_of_cell (a := ad.add 0) (HE.out)
    have := HW.out.2.1
    omega
  have c0 : X.cell? (ad.add 0) = some (.int .i64 (y0 : Int)) := ((HW.out.2.2.1.then hFX).cell (lt_of_cell (HE.out)) (fun h => h)).trans (HE.out)
  have hyt : y0 < ts.length := HTS.out.1
  obtain ⟨td', htd, t0, t1, t2⟩ := tins_at (HW.out.2.2.2.1.fr hFX).t y0 hyt
  obtain rfl : td = td' := Option.some.inj htd
  clear htd
  replace t0 : X.cell? (td.add (y0 * 3)) = some (.int .u8 (R : Int)) := by rw [HTS.out.2.2.2.1, HTS.out.2.2.2.2.2.2]; exact t0
  replace t1 : X.cell? ⟨(td.add (y0 * 3)).block, (td.add (y0 * 3)).off + 1, none⟩ = some (.int .u8 (G : Int)) := by rw [HTS.out.2.2.2.2.1, HTS.out.2.2.2.2.2.2]; exact t1
  replace t2 : X.cell? ⟨(td.add (y0 * 3)).block, (td.add (y0 * 3)).off + 2, none⟩ = some (.int .u8 (Bb : Int)) := by rw [HTS.out.2.2.2.2.2.1, HTS.out.2.2.2.2.2.2]; exact t2
  rw [add_zero] at c0
  have al0 : ∀ (a : Addr) (v : Value), X.cell? a = some v → ∀ o, (X.alloc o).cell? a = some v := fun a v h o => (((Fr.refl No X).alloc o).cell (lt_of_cell h) (fun h => h)).trans h
  have fr0' : ∀ k i, k < h + 1 → X.frozen? ⟨k, i, none⟩ = false → ∀ o, (X.alloc o).frozen? ⟨k, i, none⟩ = false := fun k i hk hf o => (((Fr.refl No X).alloc o).frozen (p := ⟨k, i, none⟩) (by show k < _; have := (Array.getElem?_eq_some_iff.1 hbX).1; omega) (fun h => h)).trans hf
  have t0' := al0 _ _ t0
  have t1' := al0 _ _ t1
  have t2' := al0 _ _ t2
  have c0' := al0 _ _ c0
  have p2' := al0 _ _ p2
  have p5' := al0 _ _ p5
  have p6' := al0 _ _ p6
  have p7' := al0 _ _ p7
  have z0' := al0 _ _ z0
  have z1' := al0 _ _ z1
  have z2' := al0 _ _ z2
  have z3' := al0 _ _ z3
  have x0' := al0 _ _ x0
  have x1' := al0 _ _ x1
  have x2' := al0 _ _ x2
  have x3' := al0 _ _ x3
  have f0' := fr0' (g + 1) 0 (by omega) f0
  have f1' := fr0' (g + 1) 1 (by omega) f1
  have f2' := fr0' (g + 1) 2 (by omega) f2
  have f3' := fr0' (g + 1) 3 (by omega) f3
  have u0' := fr0' h 0 (by omega) u0
  have u1' := fr0' h 1 (by omega) u1
  have u2' := fr0' h 2 (by omega) u2
  have u3' := fr0' h 3 (by omega) u3
  clear al0 fr0'
  have hYY : ∀ Y, Fr (HK.One h) X Y → Y.heap[g + 1]? = some (.cells #[.int .u16 0, .int .u16 0, .int .u16 0, .int .u16 0] 38 (0, 0)) ∧ Fr No w Y := fun Y hY =>
    ⟨(hY.block (g + 1) (Array.getElem?_eq_some_iff.1 hX2.2).1 (fun e => by have e : g + 1 = h := e; omega)).trans hX2.2, (HW.out.2.2.1.then hFX).trans hY (fun j hj (e : j = h) => by have := HW.out.2.1; omega)⟩
  have hII : ∀ Y, Fr (HK.One h) X Y → Rd II Y cA cl ∧ Rd II Y (some ad) [(y0 : Int)] := fun Y hY =>
    ⟨HW.out.2.2.2.1.c.fr0 (hFX.trans hY (fun j hj (e : j = h) => by have := HF5.out.2.size; omega)), HW.out.2.2.2.2.2.2.2.fr0 (hYY Y hY).2⟩
  have HYY := hid (And.intro hYY hII)
  have HXH := hid (Array.getElem?_eq_some_iff.1 hbX).1
  have HRX := hid hFX
  have HBX := hid hbX
  have hw2h : w2.heap.size ≤ h := by rw [hh]; exact HF5.out.2.size
  clear hX2 hFX hbX hX hfX hh hYY hII
  have hn0 : ¬ (nc : Int) > 0 := by rw [HN.out.1, HTS.out.2.2.1]; decide
  have hXh : h < X.heap.size := HXH.out
  by_cases hya : y0 < na
  · have hyai : (y0 : Int) < (na : Int) := by omega
    have hyal : y0 < al.length := by rw [← HN.out.2.1]; exact hya
    have hab := HTS.out.2.1 al[y0] (List.getElem_mem hyal)
    obtain ⟨an, han⟩ : ∃ an : Nat, al[y0] = an := ⟨al[y0].toNat, by omega⟩
    have han2 : an ≤ 255 := by omega
    obtain ⟨cd, rfl, hc9⟩ := HW.out.2.2.2.1.a (Nat.lt_of_le_of_lt (Nat.zero_le _) hyal)
    have hcA : X.cell? (cd.add y0) = some (.int .i64 (an : Int)) := by rw [HRX.out.cell (lt_of_cell (hc9 y0 hyal)) (fun h => h), hc9 y0 hyal]; show some (Value.int .i64 al[y0]) = _; rw [han]
    have hcA' : ∀ o, (X.alloc o).cell? (cd.add y0) = some (.int .i64 (an : Int)) := fun o => (((Fr.refl No X).alloc o).cell (lt_of_cell hcA) (fun h => h)).trans hcA
    have hcd : (cd.add y0).block < h := Nat.lt_of_lt_of_le (lt_of_cell (hc9 y0 hyal)) hw2h
    have HC2 := hid (show (if (y0 : Int) < al.length then al.getD y0 0 * 257 else 65535) = (an : Int) * 257 by rw [if_pos (by omega), show al.getD y0 0 = (an : Int) by simp [List.getD, hyal, han]])
    clear hab han hyal hc9
    go_region
    go_wp2_with fail
    obtain ⟨Y, hY⟩ : ∃ Y, Y = (((X.setCell ⟨h, 0, none⟩ (.int .u16 ((R : Int) * 257))).setCell ⟨h, 1, none⟩ (.int .u16 ((G : Int) * 257))).setCell ⟨h, 2, none⟩ (.int .u16 ((Bb : Int) * 257))).alloc (.cells #[.int .u8 (R : Int), .int .u8 (G : Int), .int .u8 (Bb : Int)] 62) := ⟨_, rfl⟩
    rw [← hY]
    have hfY : Fr (HK.One h) X Y := by rw [hY]; exact (((Fr.set1 _ _ _ _).then (Fr.set1 _ _ _ _)).then (Fr.set1 _ _ _ _)).alloc _
    have hbY : Y.heap[h]? = some (.cells #[.int .u16 ((R : Int) * 257), .int .u16 ((G : Int) * 257), .int .u16 ((Bb : Int) * 257), .int .u16 65535] 38 (0, 0)) := by
      have e := heap_set _ _ 2 _ _ (.int .u16 ((Bb : Int) * 257)) (heap_set _ _ 1 _ _ (.int .u16 ((G : Int) * 257)) (heap_set _ _ 0 _ _ (.int .u16 ((R : Int) * 257)) HBX.out))
      rw [hY, ((Fr.refl No _).alloc _).block h (Array.getElem?_eq_some_iff.1 e).1 (fun h => h), e]; rfl
    clear t0' t1' t2' c0' p2' p5' p6' p7' z0' z1' z2' z3' x0' x1' x2' x3' f0' f1' f2' f3' u0' u1' u2' u3'
    have yc : ∀ (a : Addr) (v : Value), X.cell? a = some v → a.block < h → Y.cell? a = some v := fun a v h1 h2 => (hfY.cell (lt_of_cell h1) (fun e => by have e : a.block = h := e; omega)).trans h1
    have c9 := yc _ _ c0 hah
    have p29 := yc _ _ p2 (by show g < h; omega)
    have p69 := yc _ _ p6 (by show g < h; omega)
    have p79 := yc _ _ p7 (by show g < h; omega)
    have hYR := (HYY.out.1 Y hfY).1
    obtain ⟨⟨y0', y1', y2', y3'⟩, v0', v1', v2', v3'⟩ := blk4c hbY
    obtain ⟨⟨b0', b1', b2', b3'⟩, d0', d1', d2', d3'⟩ := blk4c hYR
    have hcAY := yc _ _ hcA hcd
    have HfY := hid hfY
    clear hY hbY yc hYR hfY
    go_quiet (fail)
    go_wp2_with fail
    go_region
    go_wp2_with fail
    refine ret_col2 rfl (g := g + 1) (x := (R : Int) * 257) (y := (G : Int) * 257) (z := (Bb : Int) * 257) (u := (an : Int) * 257) (er := .int .i64 0) (col_cells (HYY.out.1 _ (by repeat (first | exact HfY.out | exact Fr.refl _ _ | exact Fr.set1 _ _ _ _ | refine Fr.drewN ?_ _ | refine Fr.drew ?_ | refine Fr.then ?_ (Fr.set1 _ _ _ _) | refine Fr.alloc ?_ _))).1) rfl rfl rfl ?_
    exact ⟨by rw [HCOL.out, HC2.out]; rfl, HW.out.2.2.2.2.2.1 _ _ _ _ _ (HYY.out.1 _ (by repeat (first | exact HfY.out | exact Fr.refl _ _ | exact Fr.set1 _ _ _ _ | refine Fr.drewN ?_ _ | refine Fr.drew ?_ | refine Fr.then ?_ (Fr.set1 _ _ _ _) | refine Fr.alloc ?_ _))).2⟩
  · have hyai : ¬ (y0 : Int) < (na : Int) := by omega
    have HC2 := hid (show (if (y0 : Int) < al.length then al.getD y0 0 * 257 else 65535) = (65535 : Int) by rw [if_neg (by rw [← HN.out.2.1]; exact hyai)])
    clear hya
    go_region
    go_wp2_with fail
    obtain ⟨Y, hY⟩ : ∃ Y, Y = (((X.setCell ⟨h, 0, none⟩ (.int .u16 ((R : Int) * 257))).setCell ⟨h, 1, none⟩ (.int .u16 ((G : Int) * 257))).setCell ⟨h, 2, none⟩ (.int .u16 ((Bb : Int) * 257))).alloc (.cells #[.int .u8 (R : Int), .int .u8 (G : Int), .int .u8 (Bb : Int)] 62) := ⟨_, rfl⟩
    rw [← hY]
    have hfY : Fr (HK.One h) X Y := by rw [hY]; exact (((Fr.set1 _ _ _ _).then (Fr.set1 _ _ _ _)).then (Fr.set1 _ _ _ _)).alloc _
    have hbY : Y.heap[h]? = some (.cells #[.int .u16 ((R : Int) * 257), .int .u16 ((G : Int) * 257), .int .u16 ((Bb : Int) * 257), .int .u16 65535] 38 (0, 0)) := by
      have e := heap_set _ _ 2 _ _ (.int .u16 ((Bb : Int) * 257)) (heap_set _ _ 1 _ _ (.int .u16 ((G : Int) * 257)) (heap_set _ _ 0 _ _ (.int .u16 ((R : Int) * 257)) HBX.out))
      rw [hY, ((Fr.refl No _).alloc _).block h (Array.getElem?_eq_some_iff.1 e).1 (fun h => h), e]; rfl
    clear t0' t1' t2' c0' p2' p5' p6' p7' z0' z1' z2' z3' x0' x1' x2' x3' f0' f1' f2' f3' u0' u1' u2' u3'
    have yc : ∀ (a : Addr) (v : Value), X.cell? a = some v → a.block < h → Y.cell? a = some v := fun a v h1 h2 => (hfY.cell (lt_of_cell h1) (fun e => by have e : a.block = h := e; omega)).trans h1
    have c9 := yc _ _ c0 hah
    have p29 := yc _ _ p2 (by show g < h; omega)
    have p69 := yc _ _ p6 (by show g < h; omega)
    have p79 := yc _ _ p7 (by show g < h; omega)
    have hYR := (HYY.out.1 Y hfY).1
    obtain ⟨⟨y0', y1', y2', y3'⟩, v0', v1', v2', v3'⟩ := blk4c hbY
    obtain ⟨⟨b0', b1', b2', b3'⟩, d0', d1', d2', d3'⟩ := blk4c hYR
    have HfY := hid hfY
    clear hY hbY yc hYR hfY
    go_quiet (fail)
    go_wp2_with fail
    refine ret_col2 rfl (g := g + 1) (x := (R : Int) * 257) (y := (G : Int) * 257) (z := (Bb : Int) * 257) (u := 65535) (er := .int .i64 0) (col_cells (HYY.out.1 _ (by repeat (first | exact HfY.out | exact Fr.refl _ _ | exact Fr.set1 _ _ _ _ | refine Fr.drewN ?_ _ | refine Fr.drew ?_ | refine Fr.then ?_ (Fr.set1 _ _ _ _) | refine Fr.alloc ?_ _))).1) rfl rfl rfl ?_
    exact ⟨by rw [HCOL.out, HC2.out]; rfl, HW.out.2.2.2.2.2.1 _ _ _ _ _ (HYY.out.1 _ (by repeat (first | exact HfY.out | exact Fr.refl _ _ | exact Fr.set1 _ _ _ _ | refine Fr.drewN ?_ _ | refine Fr.drew ?_ | refine Fr.then ?_ (Fr.set1 _ _ _ _) | refine Fr.alloc ?_ _))).2⟩
end Go.Proofs.Ytdbbkdlocmafgaa

/- The contracts of Check, of the program and of the document. -/
import Derived.Test.YtdbbkdlocmafgaaOf
namespace Go.Proofs.Ytdbbkdlocmafgaa
open Go.RowKit Go.Proofs.HK
set_option linter.unusedVariables false
set_option linter.unusedSimpArgs false
attribute [local go_sem] max2_int min2_int max_two min_two

def chkS (r : RS) : Int := if tabS r = 0 then lookS r r.sa (r.W * r.H * samS r.C) else tabS r
theorem chk_num {W H C : Int} (h1 : 0 < W) (h2 : 0 < H) (h3 : W ≤ 2048) (h4 : H ≤ 2048) (h5 : W * H ≤ 65536) (h6 : 1 ≤ samS C) (h7 : samS C ≤ 4) : IntKind.i64.wrap (W * H) = W * H ∧ IntKind.i64.wrap (W * H * samS C) = W * H * samS C := by
  obtain ⟨a, b, c⟩ := mul_wrap W H h1 h2 h3 h4
  refine ⟨a, ?_⟩
  have h8 : samS C = 1 ∨ samS C = 2 ∨ samS C = 3 ∨ samS C = 4 := by omega
  obtain ⟨M, hM⟩ : ∃ M, M = W * H := ⟨_, rfl⟩
  rw [← hM] at b h5 ⊢
  rcases h8 with h | h | h | h <;> rw [h] <;> exact w64 _ (by omega) (by omega)
set_option maxRecDepth 100000 in
set_option maxHeartbeats 3200000 in
theorem check_calls (r : RS) (w : World) (hr : r.ok w) : Calls Try.prog 17 #[r.v] w fun e w' => e = .returned (.int .i64 (chkS r)) ∧ Fr No w w' := by
  obtain ⟨W, H, C, D, L, tA, ts, tc, aA, al, ac, cA, cl, cc, sA, sa, sc⟩ := r
  obtain ⟨nt, hnt⟩ : ∃ n, n = ts.length := ⟨_, rfl⟩
  obtain ⟨na, hna⟩ : ∃ n, n = al.length := ⟨_, rfl⟩
  obtain ⟨nc, hnc⟩ : ∃ n, n = cl.length := ⟨_, rfl⟩
  obtain ⟨ns, hns⟩ : ∃ n, n = sa.length := ⟨_, rfl⟩
  obtain ⟨v, hv⟩ : ∃ v, v = (RS.mk W H C D L tA ts tc aA al ac cA cl cc sA sa sc).v := ⟨_, rfl⟩
  have hv2 : v = .agg #[.int .i64 W, .int .i64 H, .int .i64 C, .int .i64 D, .bool L, .slice tA nt tc, .slice aA na ac, .slice cA nc cc, .slice sA ns sc] := by rw [hv, hnt, hna, hnc, hns]; rfl
  obtain ⟨T, hT⟩ : ∃ T, T = tabS ⟨W, H, C, D, L, tA, ts, tc, aA, al, ac, cA, cl, cc, sA, sa, sc⟩ := ⟨_, rfl⟩
  obtain ⟨w2, hw2⟩ : ∃ w2, w2 = w.alloc (.cells #[.int .i64 W, .int .i64 H, .int .i64 C, .int .i64 D, .bool L, .slice tA nt tc, .slice aA na ac, .slice cA nc cc, .slice sA ns sc] 34) := ⟨_, rfl⟩
  obtain ⟨g, hg⟩ : ∃ g, g = w.heap.size := ⟨_, rfl⟩
  have hf2 : Fr No w w2 := by rw [hw2]; exact (Fr.refl _ _).alloc _
  have hb9 : w2.heap[g]? = some (.cells #[.int .i64 W, .int .i64 H, .int .i64 C, .int .i64 D, .bool L, .slice tA nt tc, .slice aA na ac, .slice cA nc cc, .slice sA ns sc] 34 (0, 0)) := by rw [hw2, hg]; exact heap_new _ _
  have hcell : ∀ X, Fr No w2 X → X.heap[g]? = some (.cells #[.int .i64 W, .int .i64 H, .int .i64 C, .int .i64 D, .bool L, .slice tA nt tc, .slice aA na ac, .slice cA nc cc, .slice sA ns sc] 34 (0, 0)) := fun X hf => (hf.block g (Array.getElem?_eq_some_iff.1 hb9).1 (fun h => h)).trans hb9
  have hgs : g < w2.heap.size := (Array.getElem?_eq_some_iff.1 hb9).1
  have hl : ns ≤ 5000 := by rw [hns]; exact hr.sl
  have HC := hid hcell
  have HW := hid (And.intro hw2 (And.intro hg (And.intro hf2 (And.intro (hr.fr hf2) (And.intro hv2 hns)))))
  have HV := hid hv
  have HT := hid hT
  rw [show (RS.mk W H C D L tA ts tc aA al ac cA cl cc sA sa sc).v = .agg #[.int .i64 W, .int .i64 H, .int .i64 C, .int .i64 D, .bool L, .slice tA nt tc, .slice aA na ac, .slice cA nc cc, .slice sA ns sc] from hv.symm.trans hv2]
  clear hw2 hg hf2 hb9 hcell hr hnt hna hnc hns hv hv2 hT
  by_cases ht : T = 0
  · have HT0 := hid (HT.out.symm.trans ht)
    subst ht
    obtain ⟨m1, m2, m3, m4, m5, m6, m7, m8, m9⟩ := may_facts (tab_facts HT0.out).1
    obtain ⟨u1, u2⟩ := chk_num m1 m2 m3 m4 m5 m8 m9
    have HK0 := hid (show chkS ⟨W, H, C, D, L, tA, ts, tc, aA, al, ac, cA, cl, cc, sA, sa, sc⟩ = lookS ⟨W, H, C, D, L, tA, ts, tc, aA, al, ac, cA, cl, cc, sA, sa, sc⟩ sa (W * H * samS C) by unfold chkS; rw [if_pos HT0.out])
    obtain ⟨M, hM⟩ : ∃ M, M = W * H := ⟨_, rfl⟩
    obtain ⟨Sm, hSm⟩ : ∃ M, M = samS C := ⟨_, rfl⟩
    obtain ⟨M2, hM2⟩ : ∃ M2, M2 = M * Sm := ⟨_, rfl⟩
    rw [← hM, ← hSm, ← hM2] at HK0 u2
    replace u1 : IntKind.i64.wrap (W * H) = M := u1.trans hM.symm
    replace u2 : IntKind.i64.wrap (M * Sm) = M2 := by rw [hM2]; rw [hM2] at u2; exact u2
    have HSm := hid hSm
    clear hM hSm hM2 m1 m2 m3 m4 m5 m6 m7 m8 m9
    go_enter Try.func17, Try.ntmps17
    go_wp2_with fail
    rw [← HW.out.1, ← HW.out.2.1, ← HW.out.2.2.2.2.1, HV.out]
    refine (tables_calls _ _ HW.out.2.2.2.1).mono ?_
    rw [← HT.out]
    rintro e w3 ⟨rfl, hf3⟩
    have h3 := HC.out w3 hf3
    obtain ⟨q0, q1, q2, q3, q4, q5, q6, q7, q8⟩ := blk9 h3
    have hs3 : g < w3.heap.size := by have := hf3.size; omega
    clear h3
    go_wp2_with fail
    go_region_held3 (fun w' => w'.cell? ⟨g, 0, none⟩ = some (.int .i64 W) ∧ w'.cell? ⟨g, 1, none⟩ = some (.int .i64 H) ∧ w'.cell? ⟨g, 2, none⟩ = some (.int .i64 C) ∧ w'.cell? ⟨g, 3, none⟩ = some (.int .i64 D) ∧ w'.cell? ⟨g, 4, none⟩ = some (.bool L) ∧ w'.cell? ⟨g, 5, none⟩ = some (.slice tA nt tc) ∧ w'.cell? ⟨g, 6, none⟩ = some (.slice aA na ac) ∧ w'.cell? ⟨g, 7, none⟩ = some (.slice cA nc cc) ∧ w'.cell? ⟨g, 8, none⟩ = some (.slice sA ns sc))
      (first | go_keep | (refine ⟨(hf5.cellg g 0 (by have h2 := hf4.size; simp at h2; omega) (fun h => h)).trans ?_, (hf5.cellg g 1 (by have h2 := hf4.size; simp at h2; omega) (fun h => h)).trans ?_, (hf5.cellg g 2 (by have h2 := hf4.size; simp at h2; omega) (fun h => h)).trans ?_, (hf5.cellg g 3 (by have h2 := hf4.size; simp at h2; omega) (fun h => h)).trans ?_, (hf5.cellg g 4 (by have h2 := hf4.size; simp at h2; omega) (fun h => h)).trans ?_, (hf5.cellg g 5 (by have h2 := hf4.size; simp at h2; omega) (fun h => h)).trans ?_, (hf5.cellg g 6 (by have h2 := hf4.size; simp at h2; omega) (fun h => h)).trans ?_, (hf5.cellg g 7 (by have h2 := hf4.size; simp at h2; omega) (fun h => h)).trans ?_, (hf5.cellg g 8 (by have h2 := hf4.size; simp at h2; omega) (fun h => h)).trans ?_⟩ <;> go_keep) | (refine ⟨(hf4.cellg g 0 (by simp; omega) (fun h => h)).trans ?_, (hf4.cellg g 1 (by simp; omega) (fun h => h)).trans ?_, (hf4.cellg g 2 (by simp; omega) (fun h => h)).trans ?_, (hf4.cellg g 3 (by simp; omega) (fun h => h)).trans ?_, (hf4.cellg g 4 (by simp; omega) (fun h => h)).trans ?_, (hf4.cellg g 5 (by simp; omega) (fun h => h)).trans ?_, (hf4.cellg g 6 (by simp; omega) (fun h => h)).trans ?_, (hf4.cellg g 7 (by simp; omega) (fun h => h)).trans ?_, (hf4.cellg g 8 (by simp; omega) (fun h => h)).trans ?_⟩ <;> go_keep))
      (first
        | (go_at_call 30; refine (samples_calls C _).mono ?_; rw [← HSm.out]; rintro e w4 ⟨rfl, hf4⟩)
        | (go_at_call 29; rw [← HW.out.2.2.2.2.1, HV.out]; refine (look_calls _ sA sa ns sc M2 _ (HW.out.2.2.2.1.fr (hf3.drew.then hf4)) (tab_facts HT0.out).1 HW.out.2.2.2.2.2.symm (HW.out.2.2.2.1.s.fr0 (hf3.drew.then hf4)) hl).mono ?_; rintro e w5 ⟨rfl, hf5⟩))
    go_wp2_with fail
    go_ret
    exact ⟨by rw [HK0.out]; rfl, HW.out.2.2.1.then ((hf3.drew.then hf4).then hf5)⟩
  · have htn : (T != 0) = true := by rw [bne_iff_ne]; exact ht
    have HE := hid (show chkS ⟨W, H, C, D, L, tA, ts, tc, aA, al, ac, cA, cl, cc, sA, sa, sc⟩ = T by unfold chkS; rw [← HT.out, if_neg ht])
    clear ht
    go_enter Try.func17, Try.ntmps17
    go_wp2_with fail
    rw [← HW.out.1, ← HW.out.2.1, ← HW.out.2.2.2.2.1, HV.out]
    refine (tables_calls _ _ HW.out.2.2.2.1).mono ?_
    rw [← HT.out]
    rintro e w3 ⟨rfl, hf3⟩
    go_wp2_with fail
    go_ret
    exact ⟨by rw [HE.out]; rfl, HW.out.2.2.1.then hf3⟩
set_option maxRecDepth 100000 in
set_option maxHeartbeats 3200000 in
theorem refCheck_calls (r : RS) (w : World) (hr : r.ok w) : Calls Try.prog 18 #[r.v] w fun e w' => e = .returned (.int .i64 (chkS r)) ∧ Fr No w w' := by
  obtain ⟨W, H, C, D, L, tA, ts, tc, aA, al, ac, cA, cl, cc, sA, sa, sc⟩ := r
  obtain ⟨nt, hnt⟩ : ∃ n, n = ts.length := ⟨_, rfl⟩
  obtain ⟨na, hna⟩ : ∃ n, n = al.length := ⟨_, rfl⟩
  obtain ⟨nc, hnc⟩ : ∃ n, n = cl.length := ⟨_, rfl⟩
  obtain ⟨ns, hns⟩ : ∃ n, n = sa.length := ⟨_, rfl⟩
  obtain ⟨v, hv⟩ : ∃ v, v = (RS.mk W H C D L tA ts tc aA al ac cA cl cc sA sa sc).v := ⟨_, rfl⟩
  have hv2 : v = .agg #[.int .i64 W, .int .i64 H, .int .i64 C, .int .i64 D, .bool L, .slice tA nt tc, .slice aA na ac, .slice cA nc cc, .slice sA ns sc] := by rw [hv, hnt, hna, hnc, hns]; rfl
  obtain ⟨T, hT⟩ : ∃ T, T = tabS ⟨W, H, C, D, L, tA, ts, tc, aA, al, ac, cA, cl, cc, sA, sa, sc⟩ := ⟨_, rfl⟩
  obtain ⟨w2, hw2⟩ : ∃ w2, w2 = w.alloc (.cells #[.int .i64 W, .int .i64 H, .int .i64 C, .int .i64 D, .bool L, .slice tA nt tc, .slice aA na ac, .slice cA nc cc, .slice sA ns sc] 34) := ⟨_, rfl⟩
  obtain ⟨g, hg⟩ : ∃ g, g = w.heap.size := ⟨_, rfl⟩
  have hf2 : Fr No w w2 := by rw [hw2]; exact (Fr.refl _ _).alloc _
  have hb9 : w2.heap[g]? = some (.cells #[.int .i64 W, .int .i64 H, .int .i64 C, .int .i64 D, .bool L, .slice tA nt tc, .slice aA na ac, .slice cA nc cc, .slice sA ns sc] 34 (0, 0)) := by rw [hw2, hg]; exact heap_new _ _
  have hcell : ∀ X, Fr No w2 X → X.heap[g]? = some (.cells #[.int .i64 W, .int .i64 H, .int .i64 C, .int .i64 D, .bool L, .slice tA nt tc, .slice aA na ac, .slice cA nc cc, .slice sA ns sc] 34 (0, 0)) := fun X hf => (hf.block g (Array.getElem?_eq_some_iff.1 hb9).1 (fun h => h)).trans hb9
  have hgs : g < w2.heap.size := (Array.getElem?_eq_some_iff.1 hb9).1
  have hl : ns ≤ 5000 := by rw [hns]; exact hr.sl
  have HC := hid hcell
  have HW := hid (And.intro hw2 (And.intro hg (And.intro hf2 (And.intro (hr.fr hf2) (And.intro hv2 hns)))))
  have HV := hid hv
  have HT := hid hT
  rw [show (RS.mk W H C D L tA ts tc aA al ac cA cl cc sA sa sc).v = .agg #[.int .i64 W, .int .i64 H, .int .i64 C, .int .i64 D, .bool L, .slice tA nt tc, .slice aA na ac, .slice cA nc cc, .slice sA ns sc] from hv.symm.trans hv2]
  clear hw2 hg hf2 hb9 hcell hr hnt hna hnc hns hv hv2 hT
  by_cases ht : T = 0
  · have HT0 := hid (HT.out.symm.trans ht)
    subst ht
    obtain ⟨m1, m2, m3, m4, m5, m6, m7, m8, m9⟩ := may_facts (tab_facts HT0.out).1
    obtain ⟨u1, u2⟩ := chk_num m1 m2 m3 m4 m5 m8 m9
    have HK0 := hid (show chkS ⟨W, H, C, D, L, tA, ts, tc, aA, al, ac, cA, cl, cc, sA, sa, sc⟩ = lookS ⟨W, H, C, D, L, tA, ts, tc, aA, al, ac, cA, cl, cc, sA, sa, sc⟩ sa (W * H * samS C) by unfold chkS; rw [if_pos HT0.out])
    obtain ⟨M, hM⟩ : ∃ M, M = W * H := ⟨_, rfl⟩
    obtain ⟨Sm, hSm⟩ : ∃ M, M = samS C := ⟨_, rfl⟩
    obtain ⟨M2, hM2⟩ : ∃ M2, M2 = M * Sm := ⟨_, rfl⟩
    rw [← hM, ← hSm, ← hM2] at HK0 u2
    replace u1 : IntKind.i64.wrap (W * H) = M := u1.trans hM.symm
    replace u2 : IntKind.i64.wrap (M * Sm) = M2 := by rw [hM2]; rw [hM2] at u2; exact u2
    have HSm := hid hSm
    clear hM hSm hM2 m1 m2 m3 m4 m5 m6 m7 m8 m9
    go_enter Try.func18, Try.ntmps18
    go_wp2_with fail
    rw [← HW.out.1, ← HW.out.2.1, ← HW.out.2.2.2.2.1, HV.out]
    refine (refTables_calls _ _ HW.out.2.2.2.1).mono ?_
    rw [← HT.out]
    rintro e w3 ⟨rfl, hf3⟩
    have h3 := HC.out w3 hf3
    obtain ⟨q0, q1, q2, q3, q4, q5, q6, q7, q8⟩ := blk9 h3
    have hs3 : g < w3.heap.size := by have := hf3.size; omega
    clear h3
    go_wp2_with fail
    go_region_held3 (fun w' => w'.cell? ⟨g, 0, none⟩ = some (.int .i64 W) ∧ w'.cell? ⟨g, 1, none⟩ = some (.int .i64 H) ∧ w'.cell? ⟨g, 2, none⟩ = some (.int .i64 C) ∧ w'.cell? ⟨g, 3, none⟩ = some (.int .i64 D) ∧ w'.cell? ⟨g, 4, none⟩ = some (.bool L) ∧ w'.cell? ⟨g, 5, none⟩ = some (.slice tA nt tc) ∧ w'.cell? ⟨g, 6, none⟩ = some (.slice aA na ac) ∧ w'.cell? ⟨g, 7, none⟩ = some (.slice cA nc cc) ∧ w'.cell? ⟨g, 8, none⟩ = some (.slice sA ns sc))
      (first | go_keep | (refine ⟨(hf5.cellg g 0 (by simp; omega) (fun h => h)).trans ?_, (hf5.cellg g 1 (by simp; omega) (fun h => h)).trans ?_, (hf5.cellg g 2 (by simp; omega) (fun h => h)).trans ?_, (hf5.cellg g 3 (by simp; omega) (fun h => h)).trans ?_, (hf5.cellg g 4 (by simp; omega) (fun h => h)).trans ?_, (hf5.cellg g 5 (by simp; omega) (fun h => h)).trans ?_, (hf5.cellg g 6 (by simp; omega) (fun h => h)).trans ?_, (hf5.cellg g 7 (by simp; omega) (fun h => h)).trans ?_, (hf5.cellg g 8 (by simp; omega) (fun h => h)).trans ?_⟩ <;> go_keep))
      (first
        | (go_at_call 34; refine (refSamples_calls C _).mono ?_; rw [← HSm.out]; rintro e w4 ⟨rfl, rfl⟩)
        | (go_at_call 33; rw [← HW.out.2.2.2.2.1, HV.out]; refine (numbers_calls _ sA sa ns sc M2 _ (HW.out.2.2.2.1.fr hf3.drew) (tab_facts HT0.out).1 HW.out.2.2.2.2.2.symm (HW.out.2.2.2.1.s.fr0 hf3.drew) hl).mono ?_; rintro e w5 ⟨rfl, hf5⟩))
    go_wp2_with fail
    go_ret
    exact ⟨by rw [HK0.out]; rfl, HW.out.2.2.1.then (hf3.drew.then hf5)⟩
  · have htn : (T != 0) = true := by rw [bne_iff_ne]; exact ht
    have HE := hid (show chkS ⟨W, H, C, D, L, tA, ts, tc, aA, al, ac, cA, cl, cc, sA, sa, sc⟩ = T by unfold chkS; rw [← HT.out, if_neg ht])
    clear ht
    go_enter Try.func18, Try.ntmps18
    go_wp2_with fail
    rw [← HW.out.1, ← HW.out.2.1, ← HW.out.2.2.2.2.1, HV.out]
    refine (refTables_calls _ _ HW.out.2.2.2.1).mono ?_
    rw [← HT.out]
    rintro e w3 ⟨rfl, hf3⟩
    go_wp2_with fail
    go_ret
    exact ⟨by rw [HE.out]; rfl, HW.out.2.2.1.then hf3⟩
end Go.Proofs.Ytdbbkdlocmafgaa

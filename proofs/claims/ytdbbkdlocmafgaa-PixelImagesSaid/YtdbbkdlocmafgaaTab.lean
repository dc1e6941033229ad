/- The contract of pixel's tables. -/
import Derived.Test.YtdbbkdlocmafgaaRas
import Derived.Test.YtdbbkdlocmafgaaPackP
namespace Go.Proofs.Ytdbbkdlocmafgaa
open Go.RowKit Go.Proofs.HK
set_option linter.unusedVariables false
set_option linter.unusedSimpArgs false
attribute [local go_sem] max2_int min2_int max_two min_two

set_option maxRecDepth 100000 in
set_option maxHeartbeats 6400000 in
theorem tables_calls (r : RS) (w : World) (hr : r.ok w) : Calls Try.prog 28 #[r.v] w fun e w' => e = .returned (.int .i64 (tabS r)) ∧ Fr No w w' := by
  obtain ⟨W, H, C, D, L, tA, ts, tc, aA, al, ac, cA, cl, cc, sA, sa, sc⟩ := r
  obtain ⟨nt, hnt⟩ : ∃ n, n = ts.length := ⟨_, rfl⟩
  obtain ⟨na, hna⟩ : ∃ n, n = al.length := ⟨_, rfl⟩
  obtain ⟨nc, hnc⟩ : ∃ n, n = cl.length := ⟨_, rfl⟩
  obtain ⟨ns, hns⟩ : ∃ n, n = sa.length := ⟨_, rfl⟩
  obtain ⟨S, hS⟩ : ∃ S, S = tabS ⟨W, H, C, D, L, tA, ts, tc, aA, al, ac, cA, cl, cc, sA, sa, sc⟩ := ⟨_, rfl⟩
  have hS2 := hS
  unfold tabS at hS2
  simp only [← hnt, ← hna, ← hnc] at hS2
  rw [← hS]
  unfold RS.v RS.cs
  simp only [← hnt, ← hna, ← hnc, ← hns]
  have b1 : nt ≤ 300 := by rw [hnt]; exact hr.tl
  have b2 : na ≤ 300 := by rw [hna]; exact hr.al
  have b3 : nc ≤ 10 := by rw [hnc]; exact hr.cl
  obtain ⟨w2, hw2⟩ : ∃ w2, w2 = (w.alloc (.cells #[.int .i64 W, .int .i64 H, .int .i64 C, .int .i64 D, .bool L, .slice tA nt tc, .slice aA na ac, .slice cA nc cc, .slice sA ns sc] 34)).alloc (.cells #[.int .i64 W, .int .i64 H, .int .i64 C, .int .i64 D, .bool L] 31) := ⟨_, rfl⟩
  obtain ⟨g, hg⟩ : ∃ g, g = w.heap.size := ⟨_, rfl⟩
  have hf2 : Fr No w w2 := by rw [hw2]; exact ((Fr.refl _ _).alloc _).alloc _
  have hb9 : w2.heap[g]? = some (.cells #[.int .i64 W, .int .i64 H, .int .i64 C, .int .i64 D, .bool L, .slice tA nt tc, .slice aA na ac, .slice cA nc cc, .slice sA ns sc] 34 (0, 0)) := by
    rw [hw2, ((Fr.refl No (w.alloc _)).alloc _).block g (by rw [World.size_alloc, hg]; omega) (fun h => h), hg]; exact heap_new _ _
  have hb5 : w2.heap[g + 1]? = some (.cells #[.int .i64 W, .int .i64 H, .int .i64 C, .int .i64 D, .bool L] 31 (0, 0)) := by
    have := heap_new (w.alloc (.cells #[.int .i64 W, .int .i64 H, .int .i64 C, .int .i64 D, .bool L, .slice tA nt tc, .slice aA na ac, .slice cA nc cc, .slice sA ns sc] 34)) (.cells #[.int .i64 W, .int .i64 H, .int .i64 C, .int .i64 D, .bool L] 31)
    rw [World.size_alloc, ← hg] at this
    rw [hw2]; exact this
  have hcell : ∀ X, Fr No w2 X → X.heap[g]? = some (.cells #[.int .i64 W, .int .i64 H, .int .i64 C, .int .i64 D, .bool L, .slice tA nt tc, .slice aA na ac, .slice cA nc cc, .slice sA ns sc] 34 (0, 0)) ∧ X.heap[g + 1]? = some (.cells #[.int .i64 W, .int .i64 H, .int .i64 C, .int .i64 D, .bool L] 31 (0, 0)) := fun X hf =>
    ⟨(hf.block g (Array.getElem?_eq_some_iff.1 hb9).1 (fun h => h)).trans hb9, (hf.block (g + 1) (Array.getElem?_eq_some_iff.1 hb5).1 (fun h => h)).trans hb5⟩
  have HC := hid hcell
  have HW := hid (And.intro hw2 (And.intro hg (And.intro hf2 (hr.fr hf2))))
  have HR := hid (And.intro hnt (And.intro hna hnc))
  clear hr hnt hna hnc hns hS hw2 hg hf2 hb9 hb5 hcell
  cases hm : mayS W H C D with
  | false =>
    rw [if_pos hm] at hS2
    have HS := hid hS2
    have HM := hid hm
    clear hS2 hm
    go_enter Try.func28, Try.ntmps28
    go_wp2_with fail
    rw [← HW.out.1, ← HW.out.2.1]
    refine (may_calls _ _ _ _ _ _).mono ?_
    rw [HM.out]
    rintro e w3 ⟨rfl, hf3⟩
    have h3 := HC.out w3 hf3
    obtain ⟨q0, q1, q2, q3, q4, q5, q6, q7, q8⟩ := blk9 h3.1
    obtain ⟨p0, p1, p2, p3, p4⟩ := blk5c h3.2
    clear h3
    go_wp2_with fail
    go_ret
    exact ⟨by rw [HS.out]; rfl, HW.out.2.2.1.then hf3⟩
  | true =>
    obtain ⟨m1, m2, m3, m4, m5, m6, m7, m8, m9⟩ := may_facts hm
    obtain ⟨dn, rfl, hd1, hd16⟩ : ∃ dn : Nat, D = dn ∧ 1 ≤ dn ∧ dn ≤ 16 := ⟨D.toNat, by omega, by omega, by omega⟩
    rw [if_neg (by rw [hm]; simp), Int.toNat_natCast] at hS2
    obtain ⟨P, hP⟩ : ∃ P, P = 2 ^ dn := ⟨_, rfl⟩
    have hP1 : 1 ≤ P := by rw [hP]; exact Nat.one_le_two_pow
    have hP2 : P ≤ 65536 := by rw [hP]; exact Nat.pow_le_pow_right (n := 2) (by decide) hd16
    have hpi : ((2 : Int) ^ dn) = (P : Int) := by rw [hP]; simp
    rw [hpi] at hS2
    have hpw : wrap64 ((2 : Int) ^ dn) = (P : Int) := by
      rw [hpi]; exact w64i _ (by omega) (by omega)
    have HM := hid hm
    clear hm hP hpi m1 m2 m3 m4 m5 m7
    by_cases hc : C = 3
    · subst hc
      rw [if_pos rfl] at hS2
      have hc3 : ((3 : Int) == 3) = true := rfl
      by_cases t1 : 0 < nt
      · by_cases t2 : (nt : Int) ≤ (P : Int)
        · by_cases t3 : na ≤ nt
          · have HS := hid hS2
            clear hS2 m6
            go_enter Try.func28, Try.ntmps28
            go_wp2_with fail
            rw [← HW.out.1, ← HW.out.2.1]
            refine (may_calls _ _ _ _ _ _).mono ?_
            rw [HM.out]
            rintro e w3 ⟨rfl, hf3⟩
            have h3 := HC.out w3 hf3
            obtain ⟨q0, q1, q2, q3, q4, q5, q6, q7, q8⟩ := blk9 h3.1
            obtain ⟨p0, p1, p2, p3, p4⟩ := blk5c h3.2
            clear h3
            go_wp2_with fail
            refine (within_calls aA al na ac 255 _ HR.out.2.1.symm (HW.out.2.2.2.fr hf3).a (by omega)).mono ?_
            cases hwi : witB al 255 with
            | false =>
              have HS2 := hid (show S = 12 by rw [HS.out]; exact if_neg (fun h => by rw [hwi] at h; exact absurd h.2.2.2.1 (by simp)))
              have HWI := hid hwi
              clear hwi
              rintro e w4 ⟨rfl, hf4⟩
              go_wp2_with fail
              go_ret
              exact ⟨by rw [HS2.out]; rfl, (HW.out.2.2.1.then hf3).then hf4⟩
            | true =>
              by_cases t5 : nc = 0
              · have HS2 := hid (show S = 0 by rw [HS.out]; exact if_pos ⟨t1, t2, t3, hwi, t5⟩)
                have t5b : ((nc : Int) == 0) = true := by rw [t5]; rfl
                have HWI := hid hwi
                clear hwi t5
                rintro e w4 ⟨rfl, hf4⟩
                obtain ⟨⟨k0, k1, k2, k3, k4, k5, k6, k7, k8⟩, _⟩ := HC.out w4 (hf3.then hf4) |>.imp blk9 id
                go_wp2_with fail
                go_ret
                exact ⟨by rw [HS2.out]; rfl, (HW.out.2.2.1.then hf3).then hf4⟩
              · have HS2 := hid (show S = 12 by rw [HS.out]; exact if_neg (fun h => t5 h.2.2.2.2))
                have t5b : ((nc : Int) == 0) = false := by rw [beq_eq_false_iff_ne]; omega
                have HWI := hid hwi
                clear hwi t5
                rintro e w4 ⟨rfl, hf4⟩
                obtain ⟨⟨k0, k1, k2, k3, k4, k5, k6, k7, k8⟩, _⟩ := HC.out w4 (hf3.then hf4) |>.imp blk9 id
                go_wp2_with fail
                go_ret
                exact ⟨by rw [HS2.out]; rfl, (HW.out.2.2.1.then hf3).then hf4⟩
          · have HS := hid (show S = 12 by rw [hS2]; exact if_neg (fun h => t3 h.2.2.1))
            clear hS2 m6
            go_enter Try.func28, Try.ntmps28
            go_wp2_with fail
            rw [← HW.out.1, ← HW.out.2.1]
            refine (may_calls _ _ _ _ _ _).mono ?_
            rw [HM.out]
            rintro e w3 ⟨rfl, hf3⟩
            have h3 := HC.out w3 hf3
            obtain ⟨q0, q1, q2, q3, q4, q5, q6, q7, q8⟩ := blk9 h3.1
            obtain ⟨p0, p1, p2, p3, p4⟩ := blk5c h3.2
            clear h3
            go_wp2_with fail
            go_ret
            exact ⟨by rw [HS.out]; rfl, HW.out.2.2.1.then hf3⟩
        · have HS := hid (show S = 12 by rw [hS2]; exact if_neg (fun h => t2 h.2.1))
          clear hS2 m6
          go_enter Try.func28, Try.ntmps28
          go_wp2_with fail
          rw [← HW.out.1, ← HW.out.2.1]
          refine (may_calls _ _ _ _ _ _).mono ?_
          rw [HM.out]
          rintro e w3 ⟨rfl, hf3⟩
          have h3 := HC.out w3 hf3
          obtain ⟨q0, q1, q2, q3, q4, q5, q6, q7, q8⟩ := blk9 h3.1
          obtain ⟨p0, p1, p2, p3, p4⟩ := blk5c h3.2
          clear h3
          go_wp2_with fail
          go_ret
          exact ⟨by rw [HS.out]; rfl, HW.out.2.2.1.then hf3⟩
      · have HS := hid (show S = 12 by rw [hS2]; exact if_neg (fun h => t1 h.1))
        clear hS2 m6
        go_enter Try.func28, Try.ntmps28
        go_wp2_with fail
        rw [← HW.out.1, ← HW.out.2.1]
        refine (may_calls _ _ _ _ _ _).mono ?_
        rw [HM.out]
        rintro e w3 ⟨rfl, hf3⟩
        have h3 := HC.out w3 hf3
        obtain ⟨q0, q1, q2, q3, q4, q5, q6, q7, q8⟩ := blk9 h3.1
        obtain ⟨p0, p1, p2, p3, p4⟩ := blk5c h3.2
        clear h3
        go_wp2_with fail
        go_ret
        exact ⟨by rw [HS.out]; rfl, HW.out.2.2.1.then hf3⟩
    · rw [if_neg hc] at hS2
      have hc3 : (C == 3) = false := by rw [beq_eq_false_iff_ne]; exact hc
      clear hc m6
      by_cases t1 : nt + na = 0
      · have t1b : (((nt : Int) + (na : Int)) == 0) = true := by rw [beq_iff_eq]; omega
        have HT1 := hid t1
        have HS := hid hS2
        clear hS2 t1
        go_enter Try.func28, Try.ntmps28
        go_wp2_with fail
        rw [← HW.out.1, ← HW.out.2.1]
        refine (may_calls _ _ _ _ _ _).mono ?_
        rw [HM.out]
        rintro e w3 ⟨rfl, hf3⟩
        have h3 := HC.out w3 hf3
        obtain ⟨q0, q1, q2, q3, q4, q5, q6, q7, q8⟩ := blk9 h3.1
        obtain ⟨p0, p1, p2, p3, p4⟩ := blk5c h3.2
        clear h3
        go_wp2_with fail
        refine (within_calls cA cl nc cc ((P : Int) - 1) _ HR.out.2.2.symm (HW.out.2.2.2.fr hf3).c (by omega)).mono ?_
        cases hwi : witB cl ((P : Int) - 1) with
        | false =>
          have HS2 := hid (show S = 12 by rw [HS.out]; exact if_neg (fun h => by rw [hwi] at h; exact absurd h.2.1 (by simp)))
          have HWI := hid hwi
          clear hwi
          rintro e w4 ⟨rfl, hf4⟩
          go_wp2_with fail
          go_ret
          exact ⟨by rw [HS2.out]; rfl, (HW.out.2.2.1.then hf3).then hf4⟩
        | true =>
          by_cases t5 : nc = 0
          · have HS2 := hid (show S = 0 by rw [HS.out]; exact if_pos ⟨HT1.out, hwi, .inl t5⟩)
            have t5b : ((nc : Int) == 0) = true := by rw [t5]; rfl
            have HWI := hid hwi
            clear hwi t5
            rintro e w4 ⟨rfl, hf4⟩
            go_wp2_with fail
            go_ret
            exact ⟨by rw [HS2.out]; rfl, (HW.out.2.2.1.then hf3).then hf4⟩
          · have t5b : ((nc : Int) == 0) = false := by rw [beq_eq_false_iff_ne]; omega
            by_cases t6 : C < 3
            · rintro e w4 ⟨rfl, hf4⟩
              have h4 := HC.out w4 (hf3.then hf4)
              obtain ⟨k0, k1, k2, k3, k4⟩ := blk5c h4.2
              have HWI := hid (And.intro hwi t5)
              clear hwi t5 h4
              go_wp2_with fail
              refine (samples_calls C _).mono ?_
              rintro e w5 ⟨rfl, hf5⟩
              by_cases t7 : (nc : Int) = samS C
              · have HS2 := hid (show S = 0 by rw [HS.out]; exact if_pos ⟨HT1.out, HWI.out.1, .inr ⟨t6, t7⟩⟩)
                have t7b : ((nc : Int) == samS C) = true := by rw [t7]; simp
                clear t7
                go_wp2_with fail
                go_ret
                exact ⟨by rw [HS2.out]; rfl, ((HW.out.2.2.1.then hf3).then hf4).then hf5⟩
              · have HS2 := hid (show S = 12 by rw [HS.out]; exact if_neg (fun h => by
                  rcases h.2.2 with h | h
                  · exact HWI.out.2 h
                  · exact t7 h.2))
                have t7b : ((nc : Int) == samS C) = false := by rw [beq_eq_false_iff_ne]; exact t7
                clear t7
                go_wp2_with fail
                go_ret
                exact ⟨by rw [HS2.out]; rfl, ((HW.out.2.2.1.then hf3).then hf4).then hf5⟩
            · have HS2 := hid (show S = 12 by rw [HS.out]; exact if_neg (fun h => by
                rcases h.2.2 with h | h
                · exact t5 h
                · exact t6 h.1))
              rintro e w4 ⟨rfl, hf4⟩
              have h4 := HC.out w4 (hf3.then hf4)
              obtain ⟨k0, k1, k2, k3, k4⟩ := blk5c h4.2
              have HWI := hid hwi
              clear hwi t5 h4
              go_wp2_with fail
              go_ret
              exact ⟨by rw [HS2.out]; rfl, (HW.out.2.2.1.then hf3).then hf4⟩
      · have t1b : (((nt : Int) + (na : Int)) == 0) = false := by rw [beq_eq_false_iff_ne]; omega
        have HS := hid (show S = 12 by rw [hS2]; exact if_neg (fun h => t1 h.1))
        clear hS2 t1
        go_enter Try.func28, Try.ntmps28
        go_wp2_with fail
        rw [← HW.out.1, ← HW.out.2.1]
        refine (may_calls _ _ _ _ _ _).mono ?_
        rw [HM.out]
        rintro e w3 ⟨rfl, hf3⟩
        have h3 := HC.out w3 hf3
        obtain ⟨q0, q1, q2, q3, q4, q5, q6, q7, q8⟩ := blk9 h3.1
        obtain ⟨p0, p1, p2, p3, p4⟩ := blk5c h3.2
        clear h3
        go_wp2_with fail
        go_ret
        exact ⟨by rw [HS.out]; rfl, HW.out.2.2.1.then hf3⟩
end Go.Proofs.Ytdbbkdlocmafgaa

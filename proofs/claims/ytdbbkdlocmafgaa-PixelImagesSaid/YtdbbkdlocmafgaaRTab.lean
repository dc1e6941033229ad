/- The contract of the document's tables. -/
import Derived.Test.YtdbbkdlocmafgaaTab
import Derived.Test.YtdbbkdlocmafgaaPackP
namespace Go.Proofs.Ytdbbkdlocmafgaa
open Go.RowKit Go.Proofs.HK
set_option linter.unusedVariables false
set_option linter.unusedSimpArgs false
attribute [local go_sem] max2_int min2_int max_two min_two

set_option maxRecDepth 100000 in
set_option maxHeartbeats 6400000 in
theorem refTables_calls (r : RS) (w : World) (hr : r.ok w) : Calls Try.prog 32 #[r.v] w fun e w' => e = .returned (.int .i64 (tabS r)) ∧ Fr No w w' := by
  obtain ⟨W, H, C, D, L, tA, ts, tc, aA, al, ac, cA, cl, cc, sA, sa, sc⟩ := r
  obtain ⟨nt, hnt⟩ : ∃ n, n = ts.length := ⟨_, rfl⟩
  obtain ⟨na, hna⟩ : ∃ n, n = al.length := ⟨_, rfl⟩
  obtain ⟨nc, hnc⟩ : ∃ n, n = cl.length := ⟨_, rfl⟩
  obtain ⟨ns, hns⟩ : ∃ n, n = sa.length := ⟨_, rfl⟩
  obtain ⟨S, hS⟩ : ∃ S, S = tabS ⟨W, H, C, D, L, tA, ts, tc, aA, al, ac, cA, cl, cc, sA, sa, sc⟩ := ⟨_, rfl⟩
  have hS2 := hS
  unfold tabS at hS2
  simp only [← hnt, ← hna, ← hnc] at hS2
  rw [← hS]
  unfold RS.v RS.cs
  simp only [← hnt, ← hna, ← hnc, ← hns]
  have b1 : nt ≤ 300 := by rw [hnt]; exact hr.tl
  have b2 : na ≤ 300 := by rw [hna]; exact hr.al
  have b3 : nc ≤ 10 := by rw [hnc]; exact hr.cl
  obtain ⟨w2, hw2⟩ : ∃ w2, w2 = w.alloc (.cells #[.int .i64 W, .int .i64 H, .int .i64 C, .int .i64 D, .bool L, .slice tA nt tc, .slice aA na ac, .slice cA nc cc, .slice sA ns sc] 34) := ⟨_, rfl⟩
  obtain ⟨g, hg⟩ : ∃ g, g = w.heap.size := ⟨_, rfl⟩
  have hf2 : Fr No w w2 := by rw [hw2]; exact (Fr.refl _ _).alloc _
  have hb9 : w2.heap[g]? = some (.cells #[.int .i64 W, .int .i64 H, .int .i64 C, .int .i64 D, .bool L, .slice tA nt tc, .slice aA na ac, .slice cA nc cc, .slice sA ns sc] 34 (0, 0)) := by
    rw [hw2, hg]; exact heap_new _ _
  have hcell : ∀ X, Fr No w2 X → X.heap[g]? = some (.cells #[.int .i64 W, .int .i64 H, .int .i64 C, .int .i64 D, .bool L, .slice tA nt tc, .slice aA na ac, .slice cA nc cc, .slice sA ns sc] 34 (0, 0)) := fun X hf =>
    (hf.block g (Array.getElem?_eq_some_iff.1 hb9).1 (fun h => h)).trans hb9
  have HC := hid hcell
  have HW := hid (And.intro hw2 (And.intro hg (And.intro hf2 (hr.fr hf2))))
  have HR := hid (And.intro hnt (And.intro hna hnc))
  clear hr hnt hna hnc hns hS hw2 hg hf2 hb9 hcell
  cases hm : mayS W H C D with
  | false =>
    rw [if_pos hm] at hS2
    have HS := hid hS2
    have HM := hid hm
    clear hS2 hm
    go_enter Try.func32, Try.ntmps32
    go_wp2_with fail
    rw [← HW.out.1, ← HW.out.2.1]
    refine (refMay_calls _ _ _ _ _ _).mono ?_
    rw [HM.out]
    rintro e w3 ⟨rfl, hf3⟩
    have h3 := HC.out w3 hf3
    obtain ⟨q0, q1, q2, q3, q4, q5, q6, q7, q8⟩ := blk9 h3
    clear h3
    go_wp2_with fail
    go_ret
    exact ⟨by rw [HS.out]; rfl, HW.out.2.2.1.then hf3⟩
  | true =>
    obtain ⟨m1, m2, m3, m4, m5, m6, m7, m8, m9⟩ := may_facts hm
    obtain ⟨dn, rfl, hd1, hd16⟩ : ∃ dn : Nat, D = dn ∧ 1 ≤ dn ∧ dn ≤ 16 := ⟨D.toNat, by omega, by omega, by omega⟩
    rw [if_neg (by rw [hm]; simp), Int.toNat_natCast] at hS2
    obtain ⟨P, hP⟩ : ∃ P, P = 2 ^ dn := ⟨_, rfl⟩
    have hP1 : 1 ≤ P := by rw [hP]; exact Nat.one_le_two_pow
    have hP2 : P ≤ 65536 := by rw [hP]; exact Nat.pow_le_pow_right (n := 2) (by decide) hd16
    have hpi : ((2 : Int) ^ dn) = (P : Int) := by rw [hP]; simp
    rw [hpi] at hS2
    have hpw : wrap64 ((2 : Int) ^ dn) = (P : Int) := by
      rw [hpi]; exact w64i _ (by omega) (by omega)
    have HM := hid hm
    clear hm hP hpi m1 m2 m3 m4 m5 m7
    by_cases hc : C = 3
    · subst hc
      rw [if_pos rfl] at hS2
      have hc3 : ((3 : Int) == 3) = true := rfl
      by_cases hok : 0 < nt ∧ (nt : Int) ≤ (P : Int) ∧ na ≤ nt ∧ nc = 0
      · obtain ⟨t1, t2, t3, t4⟩ := hok
        have HS := hid (show S = if witB al 255 = true then 0 else 12 by
          rw [hS2]
          by_cases hw : witB al 255 = true
          · rw [if_pos ⟨t1, t2, t3, hw, t4⟩, if_pos hw]
          · rw [if_neg (fun h => hw h.2.2.2.1), if_neg hw])
        have n1 : ¬ (nt : Int) < 1 := by omega
        have n2 : ¬ (nt : Int) > (P : Int) := by omega
        have n3 : ¬ (na : Int) > (nt : Int) := by omega
        have n4 : ¬ (nc : Int) > 0 := by omega
        clear hS2 m6 t4
        go_enter Try.func32, Try.ntmps32
        go_wp2_with fail
        rw [← HW.out.1, ← HW.out.2.1]
        refine (refMay_calls _ _ _ _ _ _).mono ?_
        rw [HM.out]
        rintro e w3 ⟨rfl, hf3⟩
        have h3 := HC.out w3 hf3
        obtain ⟨q0, q1, q2, q3, q4, q5, q6, q7, q8⟩ := blk9 h3
        clear h3
        go_wp2_with fail
        clear hpw
        go_loop [51] (fun i => ∃ k : Nat, k ≤ na ∧ i = .int .i64 k ∧ Hid (∀ v ∈ al.take k, 0 ≤ v ∧ v ≤ 255)) (fun i => na - (intOf i).toNat)
        case atStart => exact ⟨0, by omega, rfl, fun v h => by simp at h⟩
        case round =>
          obtain ⟨k, hk, rfl, HSS⟩ := hrel
          by_cases hlt : k < na
          · have h1 : k < al.length := by rw [← HR.out.2.1]; exact hlt
            obtain ⟨ad, rfl, hc1⟩ : ∃ ad, aA = some ad ∧ w3.cell? (ad.add k) = some (.int .i64 al[k]) := by
              obtain ⟨ad, e, hc⟩ := (HW.out.2.2.2.fr hf3).a (Nat.lt_of_le_of_lt (Nat.zero_le _) h1)
              exact ⟨ad, e, hc k h1⟩
            obtain ⟨x, hx⟩ : ∃ x, x = al[k] := ⟨_, rfl⟩
            rw [← hx] at hc1
            by_cases hb : 0 ≤ x ∧ x ≤ 255
            · have HE := hid (show ∀ v ∈ al.take (k + 1), 0 ≤ v ∧ v ≤ 255 from fun v hv => by
                rw [List.take_succ_eq_append_getElem h1] at hv
                rcases List.mem_append.1 hv with hv | hv
                · exact HSS.out v hv
                · rw [List.mem_singleton.1 hv, ← hx]; exact hb)
              obtain ⟨hb1, hb2⟩ := hb
              clear hx h1
              go_wp2_with fail
              exact ⟨⟨_, _, _, ⟨k + 1, by omega, by go_num, HE⟩, rfl, rfl, rfl⟩, by simp [intOf]; omega⟩
            · have HE := hid (show S = 12 by
                rw [HS.out]
                exact if_neg (fun h => hb (wit_iff.1 h x (by rw [hx]; exact List.getElem_mem h1))))
              have hb' : x < 0 ∨ ¬ x < 0 ∧ x > 255 := by omega
              clear hx h1 hb
              rcases hb' with hb | ⟨hb, hb2⟩
              all_goals
                go_wp2_with fail
                go_ret
                exact ⟨by rw [HE.out]; rfl, HW.out.2.2.1.then hf3⟩
          · obtain rfl : na = k := by omega
            have HE := hid (show S = 0 by
              rw [HS.out]
              exact if_pos (wit_iff.2 fun v hv => HSS.out v (by rw [List.take_of_length_le (by rw [HR.out.2.1]; exact Nat.le_refl _)]; exact hv)))
            clear hlt
            go_wp2_with fail
            go_ret
            exact ⟨by rw [HE.out]; rfl, HW.out.2.2.1.then hf3⟩
      · have HS := hid (show S = 12 by rw [hS2]; exact if_neg (fun h => hok ⟨h.1, h.2.1, h.2.2.1, h.2.2.2.2⟩))
        have hb : (nt : Int) < 1 ∨ ¬ (nt : Int) < 1 ∧ (nt : Int) > (P : Int) ∨ ¬ (nt : Int) < 1 ∧ ¬ (nt : Int) > (P : Int) ∧ (na : Int) > (nt : Int) ∨ ¬ (nt : Int) < 1 ∧ ¬ (nt : Int) > (P : Int) ∧ ¬ (na : Int) > (nt : Int) ∧ (nc : Int) > 0 := by omega
        clear hS2 m6 hok
        rcases hb with hb | ⟨hb, hb2⟩ | ⟨hb, hb2, hb3⟩ | ⟨hb, hb2, hb3, hb4⟩
        all_goals
          go_enter Try.func32, Try.ntmps32
          go_wp2_with fail
          rw [← HW.out.1, ← HW.out.2.1]
          refine (refMay_calls _ _ _ _ _ _).mono ?_
          rw [HM.out]
          rintro e w3 ⟨rfl, hf3⟩
          have h3 := HC.out w3 hf3
          obtain ⟨q0, q1, q2, q3, q4, q5, q6, q7, q8⟩ := blk9 h3
          clear h3
          go_wp2_with fail
          go_ret
          exact ⟨by rw [HS.out]; rfl, HW.out.2.2.1.then hf3⟩
    · rw [if_neg hc] at hS2
      have hc3 : (C == 3) = false := by rw [beq_eq_false_iff_ne]; exact hc
      by_cases t1 : nt + na = 0
      · have hcl : nc = 0 ∨ nc ≠ 0 ∧ C = 0 ∧ nc = 1 ∨ nc ≠ 0 ∧ C = 2 ∧ nc = 3 ∨ nc ≠ 0 ∧ ¬ (C < 3 ∧ (nc : Int) = samS C) ∧ ¬ (C = 0 ∧ nc = 1) ∧ ¬ (C = 2 ∧ nc = 3) := by
          by_cases h0 : nc = 0
          · exact .inl h0
          · rcases m6 with h | h | h | h | h
            · subst h
              by_cases h1 : nc = 1
              · exact .inr (.inl ⟨h0, rfl, h1⟩)
              · exact .inr (.inr (.inr ⟨h0, fun hh => h1 (by have := hh.2; simp [samS] at this; omega), fun hh => h1 hh.2, fun hh => by omega⟩))
            · subst h
              by_cases h1 : nc = 3
              · exact .inr (.inr (.inl ⟨h0, rfl, h1⟩))
              · exact .inr (.inr (.inr ⟨h0, fun hh => h1 (by have := hh.2; simp [samS] at this; omega), fun hh => by omega, fun hh => h1 hh.2⟩))
            · exact absurd h hc
            · exact .inr (.inr (.inr ⟨h0, fun hh => by omega, fun hh => by omega, fun hh => by omega⟩))
            · exact .inr (.inr (.inr ⟨h0, fun hh => by omega, fun hh => by omega, fun hh => by omega⟩))
        have hbad : nc ≠ 0 ∧ ¬ (C < 3 ∧ (nc : Int) = samS C) ∧ ¬ (C = 0 ∧ nc = 1) ∧ ¬ (C = 2 ∧ nc = 3) ∨ (nc = 0 ∨ C < 3 ∧ (nc : Int) = samS C) ∧ (nc = 0 ∨ nc ≠ 0 ∧ C = 0 ∧ nc = 1 ∨ nc ≠ 0 ∧ C = 2 ∧ nc = 3) := by
          rcases hcl with h | h | h | h
          · exact .inr ⟨.inl h, .inl h⟩
          · exact .inr ⟨.inr ⟨by omega, by rw [h.2.1, h.2.2]; rfl⟩, .inr (.inl h)⟩
          · exact .inr ⟨.inr ⟨by omega, by rw [h.2.1, h.2.2]; rfl⟩, .inr (.inr h)⟩
          · exact .inl h
        have n1 : ¬ (nt : Int) > 0 := by omega
        have n2 : ¬ (na : Int) > 0 := by omega
        have HT1 := hid t1
        clear hcl t1 hc m6
        rcases hbad with ⟨h0, h1, h2, h3⟩ | ⟨hok, hcs⟩
        · have HS := hid (show S = 12 by rw [hS2]; exact if_neg (fun h => h.2.2.elim h0 h1))
          have n3 : (nc : Int) > 0 := by omega
          have hb : ((C == 0) = false ∨ (C == 0) = true ∧ ((nc : Int) == 1) = false) := by
            by_cases e : C = 0
            · refine .inr ⟨by rw [e]; rfl, ?_⟩
              rw [beq_eq_false_iff_ne]; omega
            · exact .inl (by rw [beq_eq_false_iff_ne]; exact e)
          have hb2 : ((C == 2) = false ∨ (C == 2) = true ∧ ((nc : Int) == 3) = false) := by
            by_cases e : C = 2
            · refine .inr ⟨by rw [e]; rfl, ?_⟩
              rw [beq_eq_false_iff_ne]; omega
            · exact .inl (by rw [beq_eq_false_iff_ne]; exact e)
          clear hS2 h0 h1 h2 h3
          rcases hb with hb | ⟨hb, hb'⟩ <;> rcases hb2 with hb2 | ⟨hb2, hb2'⟩
          all_goals
            go_enter Try.func32, Try.ntmps32
            go_wp2_with fail
            rw [← HW.out.1, ← HW.out.2.1]
            refine (refMay_calls _ _ _ _ _ _).mono ?_
            rw [HM.out]
            rintro e w3 ⟨rfl, hf3⟩
            have h3 := HC.out w3 hf3
            obtain ⟨q0, q1, q2, q3, q4, q5, q6, q7, q8⟩ := blk9 h3
            clear h3
            go_wp2_with fail
            go_ret
            exact ⟨by rw [HS.out]; rfl, HW.out.2.2.1.then hf3⟩
        · have HS := hid (show S = if witB cl ((P : Int) - 1) = true then 0 else 12 by
            rw [hS2]
            by_cases hw : witB cl ((P : Int) - 1) = true
            · rw [if_pos ⟨HT1.out, hw, hok⟩, if_pos hw]
            · rw [if_neg (fun h => hw h.2.1), if_neg hw])
          clear hS2 hok
          have hts : ¬ (nc : Int) > 0 ∨ (nc : Int) > 0 ∧ C = 0 ∧ ((nc : Int) == 1) = true ∨ (nc : Int) > 0 ∧ C = 2 ∧ ((nc : Int) == 3) = true := by
            rcases hcs with h | ⟨_, h, h'⟩ | ⟨_, h, h'⟩
            · exact .inl (by omega)
            · exact .inr (.inl ⟨by omega, h, by rw [h']; rfl⟩)
            · exact .inr (.inr ⟨by omega, h, by rw [h']; rfl⟩)
          clear hcs
          rcases hts with n3 | ⟨n3, rfl, n4⟩ | ⟨n3, rfl, n4⟩
          all_goals
            go_enter Try.func32, Try.ntmps32
            go_wp2_with fail
            rw [← HW.out.1, ← HW.out.2.1]
            refine (refMay_calls _ _ _ _ _ _).mono ?_
            rw [HM.out]
            rintro e w3 ⟨rfl, hf3⟩
            have h3 := HC.out w3 hf3
            obtain ⟨q0, q1, q2, q3, q4, q5, q6, q7, q8⟩ := blk9 h3
            clear h3
            go_wp2_with fail
            clear hpw
            go_loop [102] (fun i => ∃ k : Nat, k ≤ nc ∧ i = .int .i64 k ∧ Hid (∀ v ∈ cl.take k, 0 ≤ v ∧ v ≤ (P : Int) - 1)) (fun i => nc - (intOf i).toNat)
            case atStart => exact ⟨0, by omega, rfl, fun v h => by simp at h⟩
            case round =>
              obtain ⟨k, hk, rfl, HSS⟩ := hrel
              by_cases hlt : k < nc
              · have h1 : k < cl.length := by rw [← HR.out.2.2]; exact hlt
                obtain ⟨ad, rfl, hc1⟩ : ∃ ad, cA = some ad ∧ w3.cell? (ad.add k) = some (.int .i64 cl[k]) := by
                  obtain ⟨ad, e, hc⟩ := (HW.out.2.2.2.fr hf3).c (Nat.lt_of_le_of_lt (Nat.zero_le _) h1)
                  exact ⟨ad, e, hc k h1⟩
                obtain ⟨x, hx⟩ : ∃ x, x = cl[k] := ⟨_, rfl⟩
                rw [← hx] at hc1
                by_cases hb : 0 ≤ x ∧ x ≤ (P : Int) - 1
                · have HE := hid (show ∀ v ∈ cl.take (k + 1), 0 ≤ v ∧ v ≤ (P : Int) - 1 from fun v hv => by
                    rw [List.take_succ_eq_append_getElem h1] at hv
                    rcases List.mem_append.1 hv with hv | hv
                    · exact HSS.out v hv
                    · rw [List.mem_singleton.1 hv, ← hx]; exact hb)
                  have hb1 : ¬ x < 0 := by omega
                  have hb2 : ¬ x ≥ (P : Int) := by omega
                  clear hx h1 hb
                  go_wp2_with fail
                  go_round
                  case rel => exact ⟨k + 1, by omega, by go_num, HE⟩
                  case measure => simp [intOf]; omega
                · have HE := hid (show S = 12 by
                    rw [HS.out]
                    exact if_neg (fun h => hb (wit_iff.1 h x (by rw [hx]; exact List.getElem_mem h1))))
                  have hb' : x < 0 ∨ ¬ x < 0 ∧ x ≥ (P : Int) := by omega
                  clear hx h1 hb
                  rcases hb' with hb | ⟨hb, hb2⟩
                  all_goals
                    go_wp2_with fail
                    go_ret
                    exact ⟨by rw [HE.out]; rfl, HW.out.2.2.1.then hf3⟩
              · obtain rfl : nc = k := by omega
                have HE := hid (show S = 0 by
                  rw [HS.out]
                  exact if_pos (wit_iff.2 fun v hv => HSS.out v (by rw [List.take_of_length_le (by rw [HR.out.2.2]; exact Nat.le_refl _)]; exact hv)))
                clear hlt
                go_wp2_with fail
                go_ret
                exact ⟨by rw [HE.out]; rfl, HW.out.2.2.1.then hf3⟩
      · have HS := hid (show S = 12 by rw [hS2]; exact if_neg (fun h => t1 h.1))
        have hb : (nt : Int) > 0 ∨ ¬ (nt : Int) > 0 ∧ (na : Int) > 0 := by omega
        clear hS2 t1 hc m6
        rcases hb with hb | ⟨hb, hb2⟩
        all_goals
          go_enter Try.func32, Try.ntmps32
          go_wp2_with fail
          rw [← HW.out.1, ← HW.out.2.1]
          refine (refMay_calls _ _ _ _ _ _).mono ?_
          rw [HM.out]
          rintro e w3 ⟨rfl, hf3⟩
          have h3 := HC.out w3 hf3
          obtain ⟨q0, q1, q2, q3, q4, q5, q6, q7, q8⟩ := blk9 h3
          clear h3
          go_wp2_with fail
          go_ret
          exact ⟨by rw [HS.out]; rfl, HW.out.2.2.1.then hf3⟩
end Go.Proofs.Ytdbbkdlocmafgaa

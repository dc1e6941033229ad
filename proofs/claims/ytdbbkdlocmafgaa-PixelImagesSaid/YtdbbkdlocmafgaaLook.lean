/- The contracts of look and of the document's numbers. -/
import Derived.Test.YtdbbkdlocmafgaaRTab
namespace Go.Proofs.Ytdbbkdlocmafgaa
open Go.RowKit Go.Proofs.HK
set_option linter.unusedVariables false
set_option linter.unusedSimpArgs false
attribute [local go_sem] max2_int min2_int max_two min_two

set_option maxRecDepth 100000 in
set_option maxHeartbeats 3200000 in
theorem look_calls (r : RS) (A : Option Addr) (xs : List Int) (m c : Nat) (n : Int) (w : World) (hr : r.ok w) (hm : mayS r.W r.H r.C r.D = true) (hx : xs.length = m) (hxr : Rd II w A xs) (hl : m ≤ 5000) :
    Calls Try.prog 29 #[r.v, .slice A m c, .int .i64 n] w fun e w' => e = .returned (.int .i64 (lookS r xs n)) ∧ Fr No w w' := by
  obtain ⟨W, H, C, D, L, tA, ts, tc, aA, al, ac, cA, cl, cc, sA, sa, sc⟩ := r
  obtain ⟨nt, hnt⟩ : ∃ n, n = ts.length := ⟨_, rfl⟩
  obtain ⟨na, hna⟩ : ∃ n, n = al.length := ⟨_, rfl⟩
  obtain ⟨nc, hnc⟩ : ∃ n, n = cl.length := ⟨_, rfl⟩
  obtain ⟨ns, hns⟩ : ∃ n, n = sa.length := ⟨_, rfl⟩
  replace hm : mayS W H C D = true := hm
  obtain ⟨m1, m2, m3, m4, m5, m6, m7, m8, m9⟩ := may_facts hm
  obtain ⟨dn, rfl, hd1, hd16⟩ : ∃ dn : Nat, D = dn ∧ 1 ≤ dn ∧ dn ≤ 16 := ⟨D.toNat, by omega, by omega, by omega⟩
  obtain ⟨P, hP⟩ : ∃ P, P = 2 ^ dn := ⟨_, rfl⟩
  have hP1 : 1 ≤ P := by rw [hP]; exact Nat.one_le_two_pow
  have hP2 : P ≤ 65536 := by rw [hP]; exact Nat.pow_le_pow_right (n := 2) (by decide) hd16
  have hpi : ((2 : Int) ^ dn) = (P : Int) := by rw [hP]; simp
  obtain ⟨S, hS⟩ : ∃ S, S = lookS ⟨W, H, C, dn, L, tA, ts, tc, aA, al, ac, cA, cl, cc, sA, sa, sc⟩ xs n := ⟨_, rfl⟩
  have hS2 := hS
  unfold lookS at hS2
  simp only [← hnt, Int.toNat_natCast, hpi, hx] at hS2
  rw [← hS]
  unfold RS.v RS.cs
  simp only [← hnt, ← hna, ← hnc, ← hns]
  have b1 : nt ≤ 300 := by rw [hnt]; exact hr.tl
  have hpw : wrap64 ((2 : Int) ^ dn) = (P : Int) := by
    rw [hpi]; exact w64i _ (by omega) (by omega)
  obtain ⟨w2, hw2⟩ : ∃ w2, w2 = w.alloc (.cells #[.int .i64 W, .int .i64 H, .int .i64 C, .int .i64 dn, .bool L, .slice tA nt tc, .slice aA na ac, .slice cA nc cc, .slice sA ns sc] 34) := ⟨_, rfl⟩
  obtain ⟨g, hg⟩ : ∃ g, g = w.heap.size := ⟨_, rfl⟩
  have hf2 : Fr No w w2 := by rw [hw2]; exact (Fr.refl _ _).alloc _
  have hb9 : w2.heap[g]? = some (.cells #[.int .i64 W, .int .i64 H, .int .i64 C, .int .i64 dn, .bool L, .slice tA nt tc, .slice aA na ac, .slice cA nc cc, .slice sA ns sc] 34 (0, 0)) := by
    rw [hw2, hg]; exact heap_new _ _
  have hcell : ∀ X, Fr No w2 X → X.heap[g]? = some (.cells #[.int .i64 W, .int .i64 H, .int .i64 C, .int .i64 dn, .bool L, .slice tA nt tc, .slice aA na ac, .slice cA nc cc, .slice sA ns sc] 34 (0, 0)) := fun X hf =>
    (hf.block g (Array.getElem?_eq_some_iff.1 hb9).1 (fun h => h)).trans hb9
  have HC := hid hcell
  have HX := hid (And.intro hx (And.intro hxr (hxr.fr0 hf2)))
  have HW := hid (And.intro hw2 (And.intro hg hf2))
  clear hr hnt hna hnc hns hS hw2 hg hf2 hb9 hcell hP hpi hm hxr m1 m2 m3 m4 m5 m6 m7 m8 m9
  by_cases h1 : (m : Int) = n
  · have h1b : ((m : Int) != n) = false := by rw [h1]; simp
    have H1 := hid h1
    clear h1
    go_enter Try.func29, Try.ntmps29
    have hz := HC.out w2 (Fr.refl _ _)
    rw [HW.out.1, HW.out.2.1] at hz
    go_wp2_with fail
    refine (within_calls A xs m c ((P : Int) - 1) _ HX.out.1 (by rw [← HW.out.1]; exact HX.out.2.2) (by omega)).mono ?_
    clear hz
    rw [← HW.out.1, ← HW.out.2.1]
    cases hw1 : witB xs ((P : Int) - 1) with
    | false =>
      have HS := hid (show S = 1 by rw [hS2]; exact if_pos (.inr hw1))
      have HQ := hid hw1
      clear hS2 hw1
      rintro e w3 ⟨rfl, hf3⟩
      go_wp2_with fail
      go_ret
      exact ⟨by rw [HS.out]; rfl, HW.out.2.2.then hf3⟩
    | true =>
      rw [if_neg (fun h => by rcases h with h | h; · exact h H1.out
                              · rw [hw1] at h; exact absurd h (by simp))] at hS2
      rintro e w3 ⟨rfl, hf3⟩
      have HQ := hid hw1
      clear hw1
      have hz := HC.out w3 hf3
      obtain ⟨q0, q1, q2, q3, q4, q5, q6, q7, q8⟩ := blk9 hz
      clear hz
      by_cases hc : C = 3
      · subst hc
        have hc3 : ((3 : Int) == 3) = true := rfl
        have HS1 := hid hS2
        clear hS2
        go_wp2_with fail
        refine (within_calls A xs m c ((nt : Int) - 1) _ HX.out.1 (HX.out.2.2.fr0 hf3) (by omega)).mono ?_
        cases hw2 : witB xs ((nt : Int) - 1) with
        | false =>
          have HS := hid (show S = 14 by rw [HS1.out]; exact if_pos ⟨by first | rfl | trivial, hw2⟩)
          have HQ := hid hw2
          clear hw2
          rintro e w4 ⟨rfl, hf4⟩
          go_wp2_with fail
          go_ret
          exact ⟨by rw [HS.out]; rfl, (HW.out.2.2.then hf3).then hf4⟩
        | true =>
          have HS := hid (show S = 0 by rw [HS1.out]; exact if_neg (fun h => by rw [hw2] at h; exact absurd h.2 (by simp)))
          have HQ := hid hw2
          clear hw2
          rintro e w4 ⟨rfl, hf4⟩
          go_wp2_with fail
          go_ret
          exact ⟨by rw [HS.out]; rfl, (HW.out.2.2.then hf3).then hf4⟩
      · have hc3 : (C == 3) = false := by rw [beq_eq_false_iff_ne]; exact hc
        have HS := hid (show S = 0 by rw [hS2]; exact if_neg (fun h => hc h.1))
        clear hS2 hc
        go_wp2_with fail
        go_ret
        exact ⟨by rw [HS.out]; rfl, HW.out.2.2.then hf3⟩
  · have h1b : ((m : Int) != n) = true := by rw [bne_iff_ne]; exact h1
    have HS := hid (show S = 1 by rw [hS2]; exact if_pos (.inl h1))
    clear h1 hS2
    go_enter Try.func29, Try.ntmps29
    go_wp2_with fail
    go_ret
    rw [← HW.out.1]
    exact ⟨by rw [HS.out]; rfl, HW.out.2.2⟩
set_option maxRecDepth 100000 in
set_option maxHeartbeats 3200000 in
theorem numbers_calls (r : RS) (A : Option Addr) (xs : List Int) (m c : Nat) (n : Int) (w : World) (hr : r.ok w) (hm : mayS r.W r.H r.C r.D = true) (hx : xs.length = m) (hxr : Rd II w A xs) (hl : m ≤ 5000) :
    Calls Try.prog 33 #[r.v, .slice A m c, .int .i64 n] w fun e w' => e = .returned (.int .i64 (lookS r xs n)) ∧ Fr No w w' := by
  obtain ⟨W, H, C, D, L, tA, ts, tc, aA, al, ac, cA, cl, cc, sA, sa, sc⟩ := r
  obtain ⟨nt, hnt⟩ : ∃ n, n = ts.length := ⟨_, rfl⟩
  obtain ⟨na, hna⟩ : ∃ n, n = al.length := ⟨_, rfl⟩
  obtain ⟨nc, hnc⟩ : ∃ n, n = cl.length := ⟨_, rfl⟩
  obtain ⟨ns, hns⟩ : ∃ n, n = sa.length := ⟨_, rfl⟩
  replace hm : mayS W H C D = true := hm
  obtain ⟨m1, m2, m3, m4, m5, m6, m7, m8, m9⟩ := may_facts hm
  obtain ⟨dn, rfl, hd1, hd16⟩ : ∃ dn : Nat, D = dn ∧ 1 ≤ dn ∧ dn ≤ 16 := ⟨D.toNat, by omega, by omega, by omega⟩
  obtain ⟨P, hP⟩ : ∃ P, P = 2 ^ dn := ⟨_, rfl⟩
  have hP1 : 1 ≤ P := by rw [hP]; exact Nat.one_le_two_pow
  have hP2 : P ≤ 65536 := by rw [hP]; exact Nat.pow_le_pow_right (n := 2) (by decide) hd16
  have hpi : ((2 : Int) ^ dn) = (P : Int) := by rw [hP]; simp
  obtain ⟨S, hS⟩ : ∃ S, S = lookS ⟨W, H, C, dn, L, tA, ts, tc, aA, al, ac, cA, cl, cc, sA, sa, sc⟩ xs n := ⟨_, rfl⟩
  have hS2 := hS
  unfold lookS at hS2
  simp only [← hnt, Int.toNat_natCast, hpi, hx] at hS2
  rw [← hS]
  unfold RS.v RS.cs
  simp only [← hnt, ← hna, ← hnc, ← hns]
  have b1 : nt ≤ 300 := by rw [hnt]; exact hr.tl
  have hpw : wrap64 ((2 : Int) ^ dn) = (P : Int) := by
    rw [hpi]; exact w64i _ (by omega) (by omega)
  obtain ⟨w2, hw2⟩ : ∃ w2, w2 = w.alloc (.cells #[.int .i64 W, .int .i64 H, .int .i64 C, .int .i64 dn, .bool L, .slice tA nt tc, .slice aA na ac, .slice cA nc cc, .slice sA ns sc] 34) := ⟨_, rfl⟩
  obtain ⟨g, hg⟩ : ∃ g, g = w.heap.size := ⟨_, rfl⟩
  have hf2 : Fr No w w2 := by rw [hw2]; exact (Fr.refl _ _).alloc _
  have hb9 : w2.heap[g]? = some (.cells #[.int .i64 W, .int .i64 H, .int .i64 C, .int .i64 dn, .bool L, .slice tA nt tc, .slice aA na ac, .slice cA nc cc, .slice sA ns sc] 34 (0, 0)) := by
    rw [hw2, hg]; exact heap_new _ _
  have hcell : ∀ X, Fr No w2 X → X.heap[g]? = some (.cells #[.int .i64 W, .int .i64 H, .int .i64 C, .int .i64 dn, .bool L, .slice tA nt tc, .slice aA na ac, .slice cA nc cc, .slice sA ns sc] 34 (0, 0)) := fun X hf =>
    (hf.block g (Array.getElem?_eq_some_iff.1 hb9).1 (fun h => h)).trans hb9
  have HC := hid hcell
  have HX := hid (And.intro hx (And.intro hxr (hxr.fr0 hf2)))
  have HW := hid (And.intro hw2 (And.intro hg hf2))
  clear hr hnt hna hnc hns hS hw2 hg hf2 hb9 hcell hP hpi hm hxr m1 m2 m3 m4 m5 m6 m7 m8 m9
  by_cases h1 : (m : Int) = n
  · have h1b : ((m : Int) != n) = false := by rw [h1]; simp
    have HS0 := hid (show S = if witB xs ((P : Int) - 1) = false then 1 else if C = 3 ∧ witB xs ((nt : Int) - 1) = false then 14 else 0 by
      rw [hS2]
      by_cases hw : witB xs ((P : Int) - 1) = false
      · rw [if_pos (.inr hw), if_pos hw]
      · rw [if_neg (fun h => h.elim (fun h => h h1) hw), if_neg hw])
    clear h1 hS2
    go_enter Try.func33, Try.ntmps33
    go_wp2_with fail
    have hz := HC.out w2 (Fr.refl _ _)
    rw [← HW.out.1, ← HW.out.2.1]
    obtain ⟨q0, q1, q2, q3, q4, q5, q6, q7, q8⟩ := blk9 hz
    clear hz
    go_loop [17] (fun i => ∃ k : Nat, k ≤ m ∧ i = .int .i64 k ∧ Hid (∀ v ∈ xs.take k, 0 ≤ v ∧ v ≤ (P : Int) - 1)) (fun i => m - (intOf i).toNat)
    case atStart => exact ⟨0, by omega, rfl, fun v h => by simp at h⟩
    case round =>
      obtain ⟨k, hk, rfl, HSS⟩ := hrel
      by_cases hlt : k < m
      · have h1 : k < xs.length := by rw [HX.out.1]; exact hlt
        obtain ⟨ad, rfl, hc1⟩ : ∃ ad, A = some ad ∧ w2.cell? (ad.add k) = some (.int .i64 xs[k]) := by
          obtain ⟨ad, e, hc⟩ := HX.out.2.2 (Nat.lt_of_le_of_lt (Nat.zero_le _) h1)
          exact ⟨ad, e, hc k h1⟩
        obtain ⟨x, hx⟩ : ∃ x, x = xs[k] := ⟨_, rfl⟩
        rw [← hx] at hc1
        by_cases hb : 0 ≤ x ∧ x ≤ (P : Int) - 1
        · have HE := hid (show ∀ v ∈ xs.take (k + 1), 0 ≤ v ∧ v ≤ (P : Int) - 1 from fun v hv => by
            rw [List.take_succ_eq_append_getElem h1] at hv
            rcases List.mem_append.1 hv with hv | hv
            · exact HSS.out v hv
            · rw [List.mem_singleton.1 hv, ← hx]; exact hb)
          have hb1 : ¬ x < 0 := by omega
          have hb2 : ¬ x ≥ (P : Int) := by omega
          clear hx h1 hb
          go_wp2_with fail
          first
            | (go_round; (case rel => exact ⟨k + 1, by omega, by go_num, HE⟩); (case measure => (simp [intOf]; omega)))
            | exact ⟨⟨_, _, _, ⟨k + 1, by omega, by go_num, HE⟩, rfl, rfl, rfl⟩, by simp [intOf]; omega⟩
            | exact ⟨⟨_, _, _, _, ⟨k + 1, by omega, by go_num, HE⟩, rfl, rfl, rfl, rfl⟩, by simp [intOf]; omega⟩
        · have HE := hid (show S = 1 by
            rw [HS0.out]
            refine if_pos ?_
            cases hw : witB xs ((P : Int) - 1) with
            | false => rfl
            | true => exact absurd (wit_iff.1 hw x (by rw [hx]; exact List.getElem_mem h1)) hb)
          have hb' : x < 0 ∨ ¬ x < 0 ∧ x ≥ (P : Int) := by omega
          clear hx h1 hb
          rcases hb' with hb | ⟨hb, hb2⟩
          all_goals
            go_wp2_with fail
            go_ret
            exact ⟨by rw [HE.out]; rfl, HW.out.2.2⟩
      · obtain rfl : m = k := by omega
        have hwt : witB xs ((P : Int) - 1) = true := wit_iff.2 fun v hv => HSS.out v (by rw [List.take_of_length_le (by rw [HX.out.1]; exact Nat.le_refl _)]; exact hv)
        have HWT := hid (And.intro (wit_iff.1 hwt) (show S = if C = 3 ∧ witB xs ((nt : Int) - 1) = false then 14 else 0 by rw [HS0.out, if_neg (by rw [hwt]; simp)]))
        clear hlt hwt
        by_cases hc : C = 3
        · subst hc
          have hc3 : ((3 : Int) == 3) = true := rfl
          go_wp2_with fail
          go_loop [35] (fun i => ∃ k : Nat, k ≤ m ∧ i = .int .i64 k ∧ Hid (∀ v ∈ xs.take k, v < (nt : Int))) (fun i => m - (intOf i).toNat)
          case atStart => exact ⟨0, by omega, rfl, fun v h => by simp at h⟩
          case round =>
            obtain ⟨k, hk2, rfl, HST⟩ := hrel
            by_cases hlt : k < m
            · have h1 : k < xs.length := by rw [HX.out.1]; exact hlt
              obtain ⟨ad, rfl, hc1⟩ : ∃ ad, A = some ad ∧ w2.cell? (ad.add k) = some (.int .i64 xs[k]) := by
                obtain ⟨ad, e, hc⟩ := HX.out.2.2 (Nat.lt_of_le_of_lt (Nat.zero_le _) h1)
                exact ⟨ad, e, hc k h1⟩
              obtain ⟨x, hx⟩ : ∃ x, x = xs[k] := ⟨_, rfl⟩
              rw [← hx] at hc1
              by_cases hb : x < (nt : Int)
              · have HE := hid (show ∀ v ∈ xs.take (k + 1), v < (nt : Int) from fun v hv => by
                  rw [List.take_succ_eq_append_getElem h1] at hv
                  rcases List.mem_append.1 hv with hv | hv
                  · exact HST.out v hv
                  · rw [List.mem_singleton.1 hv, ← hx]; exact hb)
                have hb2 : ¬ x ≥ (nt : Int) := by omega
                clear hx h1
                go_wp2_with fail
                first
                  | (go_round; (case rel => exact ⟨k + 1, by omega, by go_num, HE⟩); (case measure => (simp [intOf]; omega)))
                  | exact ⟨⟨_, _, _, ⟨k + 1, by omega, by go_num, HE⟩, rfl, rfl, rfl⟩, by simp [intOf]; omega⟩
                  | exact ⟨⟨_, _, _, _, ⟨k + 1, by omega, by go_num, HE⟩, rfl, rfl, rfl, rfl⟩, by simp [intOf]; omega⟩
              · have HE := hid (show S = 14 by
                  rw [HWT.out.2]
                  refine if_pos ⟨by first | rfl | trivial, ?_⟩
                  cases hw : witB xs ((nt : Int) - 1) with
                  | false => rfl
                  | true => exact absurd (show x < (nt : Int) by have := wit_iff.1 hw x (by rw [hx]; exact List.getElem_mem h1); omega) hb)
                have hb2 : x ≥ (nt : Int) := by omega
                clear hx h1 hb
                go_wp2_with fail
                go_ret
                exact ⟨by rw [HE.out]; rfl, HW.out.2.2⟩
            · obtain rfl : m = k := by omega
              have HE := hid (show S = 0 by
                rw [HWT.out.2]
                refine if_neg (fun h => ?_)
                have hw : witB xs ((nt : Int) - 1) = true := wit_iff.2 fun v hv => by
                  have h1 := HST.out v (by rw [List.take_of_length_le (by rw [HX.out.1]; exact Nat.le_refl _)]; exact hv)
                  have h2 := HWT.out.1 v hv
                  omega
                rw [hw] at h
                exact absurd h.2 (by simp))
              clear hlt
              go_wp2_with fail
              go_ret
              exact ⟨by rw [HE.out]; rfl, HW.out.2.2⟩
        · have hc3 : (C == 3) = false := by rw [beq_eq_false_iff_ne]; exact hc
          have HE := hid (show S = 0 by rw [HWT.out.2]; exact if_neg (fun h => hc h.1))
          clear hc
          go_wp2_with fail
          go_loop [35] (fun i => ∃ k : Nat, k ≤ m ∧ i = .int .i64 k) (fun i => m - (intOf i).toNat)
          case atStart => exact ⟨0, by omega, rfl⟩
          case round =>
            obtain ⟨k, hk2, rfl⟩ := hrel
            by_cases hlt : k < m
            · have h1 : k < xs.length := by rw [HX.out.1]; exact hlt
              obtain ⟨ad, rfl, hc1⟩ : ∃ ad, A = some ad ∧ w2.cell? (ad.add k) = some (.int .i64 xs[k]) := by
                obtain ⟨ad, e, hc⟩ := HX.out.2.2 (Nat.lt_of_le_of_lt (Nat.zero_le _) h1)
                exact ⟨ad, e, hc k h1⟩
              obtain ⟨x, hx⟩ : ∃ x, x = xs[k] := ⟨_, rfl⟩
              rw [← hx] at hc1
              clear hx h1
              go_wp2_with fail
              first
                | (go_round; (case rel => exact ⟨k + 1, by omega, by go_num⟩); (case measure => (simp [intOf]; omega)))
                | exact ⟨⟨_, _, _, ⟨k + 1, by omega, by go_num⟩, rfl, rfl, rfl⟩, by simp [intOf]; omega⟩
                | exact ⟨⟨_, _, _, _, ⟨k + 1, by omega, by go_num⟩, rfl, rfl, rfl, rfl⟩, by simp [intOf]; omega⟩
            · obtain rfl : m = k := by omega
              clear hlt
              go_wp2_with fail
              go_ret
              exact ⟨by rw [HE.out]; rfl, HW.out.2.2⟩
  · have h1b : ((m : Int) != n) = true := by rw [bne_iff_ne]; exact h1
    have HS := hid (show S = 1 by rw [hS2]; exact if_pos (.inl h1))
    clear h1 hS2
    go_enter Try.func33, Try.ntmps33
    go_wp2_with fail
    go_ret
    rw [← HW.out.1]
    exact ⟨by rw [HS.out]; rfl, HW.out.2.2⟩
end Go.Proofs.Ytdbbkdlocmafgaa

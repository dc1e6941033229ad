/- Few enough?; PixelChecks' walk. -/
import Derived.Test.YtdbbkdlocmafgaaPLaw1
import Derived.Test.YtdbbkdlocmafgaaChk
import Derived.Test.YtdbbkdlocmafgaaDecR
namespace Go.Proofs.Ytdbbkdlocmafgaa
open Go.RowKit Go.Proofs.HK
set_option linter.unusedVariables false
set_option linter.unusedSimpArgs false
attribute [local go_sem] max2_int min2_int max_two min_two

set_option maxRecDepth 100000 in
set_option maxHeartbeats 1600000 in
theorem few_calls (r : RS) (w : World) : Calls Try.prog 14 #[r.v] w fun e w' => e = .returned (.bool (fewB r)) ∧ Fr No w w' := by
  obtain ⟨W, H, C, D, L, tA, ts, tc, aA, al, ac, cA, cl, cc, sA, sa, sc⟩ := r
  obtain ⟨nt, hnt⟩ : ∃ n, n = ts.length := ⟨_, rfl⟩
  obtain ⟨na, hna⟩ : ∃ n, n = al.length := ⟨_, rfl⟩
  obtain ⟨nc, hnc⟩ : ∃ n, n = cl.length := ⟨_, rfl⟩
  obtain ⟨ns, hns⟩ : ∃ n, n = sa.length := ⟨_, rfl⟩
  obtain ⟨v, hv⟩ : ∃ v, v = (RS.mk W H C D L tA ts tc aA al ac cA cl cc sA sa sc).v := ⟨_, rfl⟩
  have hv2 : v = .agg #[.int .i64 W, .int .i64 H, .int .i64 C, .int .i64 D, .bool L, .slice tA nt tc, .slice aA na ac, .slice cA nc cc, .slice sA ns sc] := by rw [hv, hnt, hna, hnc, hns]; rfl
  have hfew : fewB ⟨W, H, C, D, L, tA, ts, tc, aA, al, ac, cA, cl, cc, sA, sa, sc⟩ = decide (ns ≤ 5000 ∧ nt ≤ 300 ∧ na ≤ 300 ∧ nc ≤ 10) := by rw [hns, hnt, hna, hnc]; rfl
  rw [hfew, ← hv, hv2]
  obtain ⟨fb, hfb⟩ : ∃ b, b = decide (ns ≤ 5000 ∧ nt ≤ 300 ∧ na ≤ 300 ∧ nc ≤ 10) := ⟨_, rfl⟩
  rw [← hfb]
  clear hv hv2 hfew hnt hna hnc hns
  by_cases h1 : (ns : Int) ≤ 5000
  · by_cases h2 : (nt : Int) ≤ 300
    · by_cases h3 : (na : Int) ≤ 300
      · by_cases h4 : (nc : Int) ≤ 10
        · have HB := hid (show fb = true from hfb.trans (decide_eq_true (by omega)))
          clear hfb
          go_enter Try.func14, Try.ntmps14
          go_wp2_with fail
          go_ret
          exact ⟨by rw [HB.out]; rfl, (Fr.refl _ _).alloc _⟩
        · have HB := hid (show fb = false from hfb.trans (decide_eq_false (by omega)))
          clear hfb
          go_enter Try.func14, Try.ntmps14
          go_wp2_with fail
          go_ret
          exact ⟨by rw [HB.out]; rfl, (Fr.refl _ _).alloc _⟩
      · have HB := hid (show fb = false from hfb.trans (decide_eq_false (by omega)))
        clear hfb
        go_enter Try.func14, Try.ntmps14
        go_wp2_with fail
        go_ret
        exact ⟨by rw [HB.out]; rfl, (Fr.refl _ _).alloc _⟩
    · have HB := hid (show fb = false from hfb.trans (decide_eq_false (by omega)))
      clear hfb
      go_enter Try.func14, Try.ntmps14
      go_wp2_with fail
      go_ret
      exact ⟨by rw [HB.out]; rfl, (Fr.refl _ _).alloc _⟩
  · have HB := hid (show fb = false from hfb.trans (decide_eq_false (by omega)))
    clear hfb
    go_enter Try.func14, Try.ntmps14
    go_wp2_with fail
    go_ret
    exact ⟨by rw [HB.out]; rfl, (Fr.refl _ _).alloc _⟩
set_option maxRecDepth 100000 in
set_option maxHeartbeats 3200000 in
theorem pixelChecks_w (r : RS) (w : World) (hr : r.rd w) : Calls Try.prog 6 #[r.v] w fun e w' => e = .returned (.bool true) ∧ Fr No w w' := by
  obtain ⟨FB, hFB⟩ : ∃ b, b = fewB r := ⟨_, rfl⟩
  have hok : FB = true → r.ok w := fun h => hr.ok (by rw [← hFB]; exact h)
  have HF := hid hFB
  have HOK := hid hok
  obtain ⟨K, hK⟩ : ∃ K, K = chkS r := ⟨_, rfl⟩
  have HK1 := hid hK
  have hself : (K == K) = true := by simp
  clear hFB hok hr hK
  have few_c := fun w => few_calls r w
  rw [← HF.out] at few_c
  have FC := hid few_c
  have chk_c : FB = true → ∀ w', Fr No w w' → Calls Try.prog 17 #[r.v] w' fun e w'' => e = .returned (.int .i64 K) ∧ Fr No w' w'' := fun h w' hf => by
    have := check_calls r w' ((HOK.out h).fr hf)
    rw [← HK1.out] at this; exact this
  have rchk_c : FB = true → ∀ w', Fr No w w' → Calls Try.prog 18 #[r.v] w' fun e w'' => e = .returned (.int .i64 K) ∧ Fr No w' w'' := fun h w' hf => by
    have := refCheck_calls r w' ((HOK.out h).fr hf)
    rw [← HK1.out] at this; exact this
  have CC := hid (And.intro chk_c rchk_c)
  clear few_c chk_c rchk_c HF HK1 HOK
  obtain ⟨W, H, C, D, L, tA, ts, tc, aA, al, ac, cA, cl, cc, sA, sa, sc⟩ := r
  obtain ⟨nt, hnt⟩ : ∃ n, n = ts.length := ⟨_, rfl⟩
  obtain ⟨na, hna⟩ : ∃ n, n = al.length := ⟨_, rfl⟩
  obtain ⟨nc, hnc⟩ : ∃ n, n = cl.length := ⟨_, rfl⟩
  obtain ⟨ns, hns⟩ : ∃ n, n = sa.length := ⟨_, rfl⟩
  obtain ⟨v, hv⟩ : ∃ v, v = (RS.mk W H C D L tA ts tc aA al ac cA cl cc sA sa sc).v := ⟨_, rfl⟩
  have hv2 : v = .agg #[.int .i64 W, .int .i64 H, .int .i64 C, .int .i64 D, .bool L, .slice tA nt tc, .slice aA na ac, .slice cA nc cc, .slice sA ns sc] := by rw [hv, hnt, hna, hnc, hns]; rfl
  rw [← hv]
  have HV := hid hv
  rw [← hv] at FC CC
  rw [hv2]
  obtain ⟨w2, hw2⟩ : ∃ w2, w2 = w.alloc (.cells #[.int .i64 W, .int .i64 H, .int .i64 C, .int .i64 D, .bool L, .slice tA nt tc, .slice aA na ac, .slice cA nc cc, .slice sA ns sc] 34) := ⟨_, rfl⟩
  obtain ⟨g, hg⟩ : ∃ g, g = w.heap.size := ⟨_, rfl⟩
  have hf2 : Fr No w w2 := by rw [hw2]; exact (Fr.refl _ _).alloc _
  have hb9 : w2.heap[g]? = some (.cells #[.int .i64 W, .int .i64 H, .int .i64 C, .int .i64 D, .bool L, .slice tA nt tc, .slice aA na ac, .slice cA nc cc, .slice sA ns sc] 34 (0, 0)) := by rw [hw2, hg]; exact heap_new _ _
  have hcell : ∀ X, Fr No w2 X → X.heap[g]? = some (.cells #[.int .i64 W, .int .i64 H, .int .i64 C, .int .i64 D, .bool L, .slice tA nt tc, .slice aA na ac, .slice cA nc cc, .slice sA ns sc] 34 (0, 0)) := fun X hf => (hf.block g (Array.getElem?_eq_some_iff.1 hb9).1 (fun h => h)).trans hb9
  have hgs : g < w2.heap.size := (Array.getElem?_eq_some_iff.1 hb9).1
  have HC := hid hcell
  have HW := hid (And.intro hw2 (And.intro hg (And.intro hf2 hv2)))
  clear hv hv2 hw2 hg hf2 hb9 hcell hnt hna hnc hns
  go_enter Try.func6, Try.ntmps6
  go_wp2_with fail
  rw [← HW.out.1, ← HW.out.2.1]
  refine (fixed15_calls _).mono ?_
  rintro e w3 ⟨rfl, hf3⟩
  have hw3 := hid (HW.out.2.2.1.then hf3)
  obtain ⟨q0, q1, q2, q3, q4, q5, q6, q7, q8⟩ := blk9 (HC.out w3 hf3)
  have hs3 : g < w3.heap.size := by have := hf3.size; omega
  clear hf3
  go_wp2_with fail
  cases FB with
  | false =>
    go_region_with (first | (go_at_call 14; (try rw [← HW.out.2.2.2]); refine (FC.out _).mono ?_; rintro e w6 ⟨rfl, hf6⟩))
    all_goals
      go_wp2_with fail
      go_ret
      exact ⟨rfl, hw3.out.drew.then hf6⟩
  | true =>
    go_region_held3 (fun w' => w'.cell? ⟨g, 0, none⟩ = some (.int .i64 W) ∧ w'.cell? ⟨g, 1, none⟩ = some (.int .i64 H) ∧ w'.cell? ⟨g, 2, none⟩ = some (.int .i64 C) ∧ w'.cell? ⟨g, 3, none⟩ = some (.int .i64 D) ∧ w'.cell? ⟨g, 4, none⟩ = some (.bool L) ∧ w'.cell? ⟨g, 5, none⟩ = some (.slice tA nt tc) ∧ w'.cell? ⟨g, 6, none⟩ = some (.slice aA na ac) ∧ w'.cell? ⟨g, 7, none⟩ = some (.slice cA nc cc) ∧ w'.cell? ⟨g, 8, none⟩ = some (.slice sA ns sc))
      (first | go_keep | (refine ⟨(hf8.cellg g 0 (by have h2 := hf6.size; have h3 := hf7.size; simp at h2; omega) (fun h => h)).trans ?_, (hf8.cellg g 1 (by have h2 := hf6.size; have h3 := hf7.size; simp at h2; omega) (fun h => h)).trans ?_, (hf8.cellg g 2 (by have h2 := hf6.size; have h3 := hf7.size; simp at h2; omega) (fun h => h)).trans ?_, (hf8.cellg g 3 (by have h2 := hf6.size; have h3 := hf7.size; simp at h2; omega) (fun h => h)).trans ?_, (hf8.cellg g 4 (by have h2 := hf6.size; have h3 := hf7.size; simp at h2; omega) (fun h => h)).trans ?_, (hf8.cellg g 5 (by have h2 := hf6.size; have h3 := hf7.size; simp at h2; omega) (fun h => h)).trans ?_, (hf8.cellg g 6 (by have h2 := hf6.size; have h3 := hf7.size; simp at h2; omega) (fun h => h)).trans ?_, (hf8.cellg g 7 (by have h2 := hf6.size; have h3 := hf7.size; simp at h2; omega) (fun h => h)).trans ?_, (hf8.cellg g 8 (by have h2 := hf6.size; have h3 := hf7.size; simp at h2; omega) (fun h => h)).trans ?_⟩ <;> go_keep) | (refine ⟨(hf7.cellg g 0 (by have h2 := hf6.size; simp at h2; omega) (fun h => h)).trans ?_, (hf7.cellg g 1 (by have h2 := hf6.size; simp at h2; omega) (fun h => h)).trans ?_, (hf7.cellg g 2 (by have h2 := hf6.size; simp at h2; omega) (fun h => h)).trans ?_, (hf7.cellg g 3 (by have h2 := hf6.size; simp at h2; omega) (fun h => h)).trans ?_, (hf7.cellg g 4 (by have h2 := hf6.size; simp at h2; omega) (fun h => h)).trans ?_, (hf7.cellg g 5 (by have h2 := hf6.size; simp at h2; omega) (fun h => h)).trans ?_, (hf7.cellg g 6 (by have h2 := hf6.size; simp at h2; omega) (fun h => h)).trans ?_, (hf7.cellg g 7 (by have h2 := hf6.size; simp at h2; omega) (fun h => h)).trans ?_, (hf7.cellg g 8 (by have h2 := hf6.size; simp at h2; omega) (fun h => h)).trans ?_⟩ <;> go_keep) | (refine ⟨(hf6.cellg g 0 (by simp; omega) (fun h => h)).trans ?_, (hf6.cellg g 1 (by simp; omega) (fun h => h)).trans ?_, (hf6.cellg g 2 (by simp; omega) (fun h => h)).trans ?_, (hf6.cellg g 3 (by simp; omega) (fun h => h)).trans ?_, (hf6.cellg g 4 (by simp; omega) (fun h => h)).trans ?_, (hf6.cellg g 5 (by simp; omega) (fun h => h)).trans ?_, (hf6.cellg g 6 (by simp; omega) (fun h => h)).trans ?_, (hf6.cellg g 7 (by simp; omega) (fun h => h)).trans ?_, (hf6.cellg g 8 (by simp; omega) (fun h => h)).trans ?_⟩ <;> go_keep))
      (first
        | (go_at_call 14; (try rw [← HW.out.2.2.2]); refine (FC.out _).mono ?_; rintro e w6 ⟨rfl, hf6⟩)
        | (go_at_call 17; (try rw [← HW.out.2.2.2]); refine (CC.out.1 trivial _ (hw3.out.drew.then hf6)).mono ?_; rintro e w7 ⟨rfl, hf7⟩)
        | (go_at_call 18; (try rw [← HW.out.2.2.2]); refine (CC.out.2 trivial _ ((hw3.out.drew.then hf6).then hf7)).mono ?_; rintro e w8 ⟨rfl, hf8⟩))
    go_wp2_with fail
    go_ret
    exact ⟨rfl, ((hw3.out.drew.then hf6).then hf7).then hf8⟩
theorem pixelChecks_walk (v : Value) (x : RasT) (w : World) {base : Nat} (hok : Value.okWide Try.prog w .any base 34 v) (hx : rasD.K w x v.cells.toList) : Calls Try.prog 6 #[v] w fun e w' => e = .returned (.bool true) ∧ Fr No w w' := by
  obtain ⟨r, rfl, hr⟩ := rasD_val hok hx
  exact pixelChecks_w r w hr
end Go.Proofs.Ytdbbkdlocmafgaa

/- The contracts of deep and within. -/
import Derived.Test.YtdbbkdlocmafgaaPx1
namespace Go.Proofs.Ytdbbkdlocmafgaa
open Go.RowKit Go.Proofs.HK
set_option linter.unusedVariables false
set_option linter.unusedSimpArgs false
attribute [local go_sem] max2_int min2_int max_two min_two

theorem dep_facts {d : Int} (h : depB d = true) : ∃ n : Nat, d = n ∧ 1 ≤ n ∧ n ≤ 16 ∧ (n = 1 ∨ n = 2 ∨ n = 4 ∨ n = 8 ∨ n = 16) := by
  have := of_decide_eq_true h
  exact ⟨d.toNat, by omega, by omega, by omega, by omega⟩
theorem popc_dep {d : Int} (h1 : 1 ≤ d) (h2 : d ≤ 16) : (((popc d.toNat : Nat) : Int) == 1) = depB d := by
  rcases range16 h1 h2 with rfl | rfl | rfl | rfl | rfl | rfl | rfl | rfl | rfl | rfl | rfl | rfl | rfl | rfl | rfl | rfl <;> decide
set_option maxRecDepth 100000 in
set_option maxHeartbeats 800000 in
theorem deep_calls (d : Int) (w : World) : Calls Try.prog 25 #[.int .i64 d] w fun e w' => e = .returned (.bool (depB d)) ∧ w' = w := by
  by_cases h1 : d > 0
  · by_cases h2 : d ≤ 16
    · have HP := hid (popc_dep (d := d) (by omega) h2)
      obtain ⟨p, hp⟩ : ∃ p, p = popc d.toNat := ⟨_, rfl⟩
      rw [← hp] at HP
      have HQ := hid hp
      clear hp
      go_enter Try.func25, Try.ntmps25
      go_wp2_with fail
      refine (ones_calls d (by omega) h2 _).mono ?_
      rw [← HQ.out]
      rintro e w1 ⟨rfl, rfl⟩
      go_wp2_with fail
      go_ret
      exact ⟨by rw [← HP.out]; rfl, rfl⟩
    · have HB := hid (show depB d = false from decide_eq_false (by omega))
      go_enter Try.func25, Try.ntmps25
      go_wp2
      go_ret
      exact ⟨by rw [HB.out]; rfl, rfl⟩
  · have HB := hid (show depB d = false from decide_eq_false (by omega))
    go_enter Try.func25, Try.ntmps25
    go_wp2
    go_ret
    exact ⟨by rw [HB.out]; rfl, rfl⟩
set_option maxRecDepth 100000 in
set_option maxHeartbeats 800000 in
theorem refDepth_calls (d : Int) (w : World) : Calls Try.prog 27 #[.int .i64 d] w fun e w' => e = .returned (.bool (depB d)) ∧ w' = w := by
  by_cases h1 : d = 1
  · subst h1; go_enter Try.func27, Try.ntmps27; go_wp2; go_ret; exact ⟨rfl, rfl⟩
  by_cases h2 : d = 2
  · subst h2; go_enter Try.func27, Try.ntmps27; go_wp2; go_ret; exact ⟨rfl, rfl⟩
  by_cases h3 : d = 4
  · subst h3; go_enter Try.func27, Try.ntmps27; go_wp2; go_ret; exact ⟨rfl, rfl⟩
  by_cases h4 : d = 8
  · subst h4; go_enter Try.func27, Try.ntmps27; go_wp2; go_ret; exact ⟨rfl, rfl⟩
  by_cases h5 : d = 16
  · subst h5; go_enter Try.func27, Try.ntmps27; go_wp2; go_ret; exact ⟨rfl, rfl⟩
  have HB := hid (show depB d = false from decide_eq_false (by omega))
  have b1 : (d == 1) = false := by simpa using h1
  have b2 : (d == 2) = false := by simpa using h2
  have b3 : (d == 4) = false := by simpa using h3
  have b4 : (d == 8) = false := by simpa using h4
  have b5 : (d == 16) = false := by simpa using h5
  clear h1 h2 h3 h4 h5
  go_enter Try.func27, Try.ntmps27
  go_wp2
  go_ret
  exact ⟨by rw [HB.out]; rfl, rfl⟩

/-- Numbers from 0 to most. -/
def witB (xs : List Int) (most : Int) : Bool := xs.all fun v => decide (0 ≤ v ∧ v ≤ most)
def badB (v most : Int) : Bool := decide (v < 0 ∨ v > most)
theorem wit_iff {xs : List Int} {most : Int} : witB xs most = true ↔ ∀ v ∈ xs, 0 ≤ v ∧ v ≤ most := by simp [witB]
set_option maxRecDepth 100000 in
theorem within1_calls (v most : Int) (g : Nat) (w : World) (hc : w.cell? ⟨g, 0, none⟩ = some (.int .i64 most)) : Calls Try.prog 39 #[.int .i64 v, .pointer (some ⟨g, 0, none⟩)] w fun e w' => e = .returned (.bool (badB v most)) ∧ w' = w := by
  by_cases h1 : v < 0
  · have HB := hid (show badB v most = true from decide_eq_true (.inl h1))
    go_enter Try.func39, Try.ntmps39
    go_wp2
    go_ret
    exact ⟨by rw [HB.out]; rfl, rfl⟩
  · by_cases h2 : v > most
    · have HB := hid (show badB v most = true from decide_eq_true (.inr h2))
      go_enter Try.func39, Try.ntmps39
      go_wp2
      go_ret
      exact ⟨by rw [HB.out]; rfl, rfl⟩
    · have HB := hid (show badB v most = false from decide_eq_false (by omega))
      go_enter Try.func39, Try.ntmps39
      go_wp2
      go_ret
      exact ⟨by rw [HB.out]; rfl, rfl⟩
/-- Where the first one stands that is not within bounds. -/
def idxB (xs : List Int) (most : Int) : Int := if witB xs most = true then -1 else ((xs.findIdx fun v => badB v most : Nat) : Int)
theorem idx_neg {xs : List Int} {most : Int} : decide (idxB xs most ≥ 0) = !witB xs most := by
  unfold idxB
  cases h : witB xs most
  · rw [if_neg (by simp)]; simp
  · rw [if_pos rfl]; rfl
set_option maxRecDepth 100000 in
set_option maxHeartbeats 800000 in
theorem indexFunc_calls (A : Option Addr) (xs : List Int) (n c : Nat) (most : Int) (g : Nat) (w : World) (hn : xs.length = n) (hr : Rd II w A xs) (hl : n ≤ 140737488355328) (hc : w.cell? ⟨g, 0, none⟩ = some (.int .i64 most)) :
    Calls Try.prog 47 #[.slice A n c, .func (.func 39) #[] #[.pointer (some ⟨g, 0, none⟩)]] w fun e w' => e = .returned (.int .i64 (idxB xs most)) ∧ w' = w := by
  have HR := hid (And.intro hn (And.intro hr hc))
  clear hn hr hc
  go_enter Try.func47, Try.ntmps47
  go_wp2_with fail
  go_loop [8] (fun i => ∃ k : Nat, k ≤ n ∧ i = .int .i64 k ∧ Hid (∀ v ∈ xs.take k, badB v most = false)) (fun i => n - (intOf i).toNat)
  case atStart => exact ⟨0, by omega, rfl, fun v h => by simp at h⟩
  case round =>
    obtain ⟨k, hk, rfl, HS⟩ := hrel
    by_cases hlt : k < n
    · have h1 : k < xs.length := by rw [HR.out.1]; exact hlt
      obtain ⟨ad, rfl, hc1⟩ : ∃ ad, A = some ad ∧ w.cell? (ad.add k) = some (.int .i64 xs[k]) := by
        obtain ⟨ad, e, hc⟩ := HR.out.2.1 (by omega)
        exact ⟨ad, e, hc k h1⟩
      obtain ⟨x, hx⟩ : ∃ x, x = xs[k] := ⟨_, rfl⟩
      rw [← hx] at hc1
      cases hb : badB x most with
      | true =>
        have HE := hid (show idxB xs most = (k : Int) by
          unfold idxB
          have hw : ¬ witB xs most = true := fun h => by
            have := wit_iff.1 h x (by rw [hx]; exact List.getElem_mem h1)
            have := of_decide_eq_true hb
            omega
          rw [if_neg hw]
          congr 1
          refine (List.findIdx_eq h1).2 ⟨by rw [← hx]; exact hb, fun j hj => ?_⟩
          have := HS.out xs[j] (List.mem_take_iff_getElem.2 ⟨j, by omega, rfl⟩)
          exact this)
        have hB := hid hb
        clear hb hx
        go_wp2_with fail
        refine (within1_calls x most g _ HR.out.2.2).mono ?_
        rw [hB.out]
        rintro e w1 ⟨rfl, rfl⟩
        go_wp2_with fail
        go_ret
        exact ⟨by rw [HE.out]; rfl, rfl⟩
      | false =>
        have HE := hid (show ∀ v ∈ xs.take (k + 1), badB v most = false from fun v hv => by
          rw [List.take_succ_eq_append_getElem h1] at hv
          rcases List.mem_append.1 hv with hv | hv
          · exact HS.out v hv
          · rw [List.mem_singleton.1 hv, ← hx]; exact hb)
        have hB := hid hb
        clear hb hx
        go_wp2_with fail
        refine (within1_calls x most g _ HR.out.2.2).mono ?_
        rw [hB.out]
        rintro e w1 ⟨rfl, rfl⟩
        go_wp2_with fail
        go_round
        case rel => exact ⟨k + 1, by omega, by go_num, HE⟩
        case measure => simp [intOf]; omega
    · obtain rfl : n = k := by omega
      have HE := hid (show idxB xs most = -1 by
        have hw : witB xs most = true := wit_iff.2 fun v hv => by
          have h := HS.out v (by rw [List.take_of_length_le (by rw [HR.out.1]; exact Nat.le_refl _)]; exact hv)
          have := of_decide_eq_false h
          omega
        unfold idxB; rw [if_pos hw])
      clear hlt
      go_wp2_with fail
      go_ret
      exact ⟨by rw [HE.out]; rfl, rfl⟩
set_option maxRecDepth 100000 in
set_option maxHeartbeats 800000 in
theorem containsFunc_calls (A : Option Addr) (xs : List Int) (n c : Nat) (most : Int) (g : Nat) (w : World) (hn : xs.length = n) (hr : Rd II w A xs) (hl : n ≤ 140737488355328) (hc : w.cell? ⟨g, 0, none⟩ = some (.int .i64 most)) :
    Calls Try.prog 38 #[.slice A n c, .func (.func 39) #[] #[.pointer (some ⟨g, 0, none⟩)]] w fun e w' => e = .returned (.bool (!witB xs most)) ∧ w' = w := by
  have HI := hid (indexFunc_calls A xs n c most g w hn hr hl hc)
  have HE := hid (idx_neg (xs := xs) (most := most))
  clear hn hr hc
  go_enter Try.func38, Try.ntmps38
  go_wp2_with fail
  refine HI.out.mono ?_
  rintro e w1 ⟨rfl, rfl⟩
  obtain ⟨i, hi⟩ : ∃ i, i = idxB xs most := ⟨_, rfl⟩
  rw [← hi] at HE ⊢
  clear hi
  go_wp2_with fail
  go_ret
  exact ⟨by rw [← HE.out]; rfl, rfl⟩
set_option maxRecDepth 100000 in
set_option maxHeartbeats 800000 in
theorem within_calls (A : Option Addr) (xs : List Int) (n c : Nat) (most : Int) (w : World) (hn : xs.length = n) (hr : Rd II w A xs) (hl : n ≤ 140737488355328) :
    Calls Try.prog 26 #[.slice A n c, .int .i64 most] w fun e w' => e = .returned (.bool (witB xs most)) ∧ Fr No w w' := by
  have hf : Fr No w (w.alloc (.cells #[.int .i64 most] 3)) := (Fr.refl _ _).alloc _
  have HI := hid (containsFunc_calls A xs n c most w.heap.size (w.alloc (.cells #[.int .i64 most] 3)) hn (hr.fr0 hf) hl (cell_new1 _ _ _ 0 _ rfl))
  clear hn hr hf
  go_enter Try.func26, Try.ntmps26
  go_wp2_with fail
  refine HI.out.mono ?_
  rintro e w1 ⟨rfl, rfl⟩
  go_wp2_with fail
  go_ret
  exact ⟨by simp, (Fr.refl _ _).alloc _⟩
end Go.Proofs.Ytdbbkdlocmafgaa

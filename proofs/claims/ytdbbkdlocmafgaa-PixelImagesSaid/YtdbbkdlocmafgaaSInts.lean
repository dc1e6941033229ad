/- Numbers: the same ones. -/
import Derived.Test.YtdbbkdlocmafgaaHead2
import Derived.Test.YtdbbkdlocmafgaaRef2
namespace Go.Proofs.Ytdbbkdlocmafgaa
open Go.RowKit Go.Proofs.HK
set_option linter.unusedVariables false
set_option linter.unusedSimpArgs false
attribute [local go_sem] max2_int min2_int max_two min_two

theorem take_same {α : Type} (xs ys : List α) (k : Nat) (h : xs.take k = ys.take k) (h1 : k < xs.length) (h2 : k < ys.length) (e : xs[k] = ys[k]) : xs.take (k + 1) = ys.take (k + 1) := by
  rw [List.take_succ_eq_append_getElem h1, List.take_succ_eq_append_getElem h2, h, e]
set_option maxRecDepth 100000 in
set_option maxHeartbeats 800000 in
theorem sameInts_calls (A A' : Option Addr) (xs ys : List Int) (n n' c c' : Nat) (hn : xs.length = n) (hn' : ys.length = n') (w : World) (hx : Rd II w A xs) (hy : Rd II w A' ys) (hl : n ≤ 140737488355328) :
    Calls Try.prog 21 #[.slice A n c, .slice A' n' c'] w fun e w' => e = .returned (.bool (decide (xs = ys))) ∧ ∃ q, w' = w.drewN q := by
  have HR := hid (And.intro hn (And.intro hn' (And.intro hx hy)))
  clear hn hn' hx hy
  by_cases hnn : n = n'
  · subst hnn
    go_enter Try.func21, Try.ntmps21
    go_wp2_with fail
    go_loopw [13] (fun i wr => ∃ (k q : Nat), k ≤ n ∧ i = .int .i64 k ∧ wr = w.drewN q ∧ Hid (xs.take k = ys.take k)) (fun i _ => n - (intOf i).toNat)
    case atStart => exact ⟨0, 0, by omega, rfl, rfl, rfl⟩
    case round =>
      obtain ⟨k, q, hk, rfl, rfl, HT⟩ := hrel
      by_cases hlt : k < n
      · have h1 : k < xs.length := by rw [HR.out.1]; exact hlt
        have h2 : k < ys.length := by rw [HR.out.2.1]; exact hlt
        obtain ⟨ad, rfl, hc1⟩ : ∃ ad, A = some ad ∧ ∀ q, (w.drewN q).cell? (ad.add k) = some (.int .i64 xs[k]) := by
          obtain ⟨ad, e, hc⟩ := HR.out.2.2.1 (by omega)
          exact ⟨ad, e, fun _ => hc k h1⟩
        obtain ⟨ad', rfl, hc2⟩ : ∃ ad, A' = some ad ∧ ∀ q, (w.drewN q).cell? (ad.add k) = some (.int .i64 ys[k]) := by
          obtain ⟨ad, e, hc⟩ := HR.out.2.2.2 (by omega)
          exact ⟨ad, e, fun _ => hc k h2⟩
        obtain ⟨x, hx⟩ : ∃ x, x = xs[k] := ⟨_, rfl⟩
        obtain ⟨y, hy⟩ : ∃ y, y = ys[k] := ⟨_, rfl⟩
        rw [← hx] at hc1
        rw [← hy] at hc2
        have b1 : (0 : Int) ≤ (k : Int) := by omega
        have b2 : (k : Int) < (n : Int) := by omega
        by_cases hxy : x = y
        · have hb : (x != y) = false := by simp [hxy]
          have HS := hid (show xs.take (k + 1) = ys.take (k + 1) from take_same xs ys k HT.out h1 h2 (by rw [← hx, ← hy]; exact hxy))
          clear hx hy hxy
          go_wp2_with fail
          go_quiet (fail)
          go_wp2_with fail
          go_roundw
          case rel => exact ⟨k + 1, _, by omega, by go_num, rfl, HS⟩
          case measure => simp [intOf] <;> omega
        · have hb : (x != y) = true := by simpa using hxy
          have HS := hid (show decide (xs = ys) = false from decide_eq_false (fun e => hxy (by rw [hx, hy]; subst e; rfl)))
          clear hx hy hxy
          go_wp2_with fail
          go_quiet (fail)
          go_wp2_with fail
          go_ret
          rw [HS.out]
          exact ⟨rfl, q + nq, by simp⟩
      · obtain rfl : n = k := by omega
        have HS := hid (show decide (xs = ys) = true from decide_eq_true (by
          have := HT.out
          rwa [List.take_of_length_le (by rw [HR.out.1]; exact Nat.le_refl _), List.take_of_length_le (by rw [HR.out.2.1]; exact Nat.le_refl _)] at this))
        clear hlt
        go_wp2_with fail
        go_ret
        rw [HS.out]
        exact ⟨rfl, _, rfl⟩
  · have hb : ((n : Int) != (n' : Int)) = true := by rw [bne_iff_ne]; omega
    have HS := hid (show decide (xs = ys) = false from decide_eq_false (fun e => hnn (by rw [← HR.out.1, ← HR.out.2.1, e])))
    clear hnn
    go_enter Try.func21, Try.ntmps21
    go_wp2_with fail
    go_ret
    rw [HS.out]
    exact ⟨rfl, 0, rfl⟩

end Go.Proofs.Ytdbbkdlocmafgaa

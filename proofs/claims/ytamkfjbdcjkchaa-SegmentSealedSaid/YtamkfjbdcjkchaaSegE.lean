/- slices.Equal of bytes and of ranges; whether a message has something spare. -/
import Derived.Test.YtamkfjbdcjkchaaSegR4
import Derived.BigQuiet
import Derived.Deep.QuietTactic
import Derived.Test.YtamkfjbdcjkchaaArrEq
namespace Go.Proofs.Ytamkfjbdcjkchaa
open Go.RowKit Go.Proofs.HK
set_option linter.unusedVariables false
set_option linter.unusedSimpArgs false
attribute [local go_sem] max2_int min2_int max_two min_two
theorem neq2 (w : World) (L M : List Int) (hL : L.length = 2) (hM : M.length = 2) : (binOp .neq 53 (.agg (L.map (Value.int .i64)).toArray) (.agg (M.map (Value.int .i64)).toArray)).run Try.prog w = .ok (.bool (!decide (L = M))) w :=
  run_neq_ints w (n := 2) Try.underlying53 Try.underlying3 (by kernel_rfl) (by kernel_rfl) L M hL hM
theorem neq10 (w : World) (L M : List Int) (hL : L.length = 10) (hM : M.length = 10) : (binOp .neq 72 (.agg (L.map (Value.int .i64)).toArray) (.agg (M.map (Value.int .i64)).toArray)).run Try.prog w = .ok (.bool (!decide (L = M))) w :=
  run_neq_ints w (n := 10) Try.underlying72 Try.underlying3 (by kernel_rfl) (by kernel_rfl) L M hL hM
theorem take_same {α : Type} (xs ys : List α) (k : Nat) (h : xs.take k = ys.take k) (h1 : k < xs.length) (h2 : k < ys.length) (e : xs[k] = ys[k]) : xs.take (k + 1) = ys.take (k + 1) := by
  rw [List.take_succ_eq_append_getElem h1, List.take_succ_eq_append_getElem h2, h, e]
set_option maxRecDepth 100000 in
set_option maxHeartbeats 800000 in
theorem equalB_calls (A A' : Option Addr) (xs ys : List UInt8) (n n' c c' : Nat) (hn : xs.length = n) (hn' : ys.length = n') (w : World) (hx : Rd B w A xs) (hy : Rd B w A' ys) (hl : n ≤ 140737488355328) :
    Calls Try.prog 56 #[.slice A n c, .slice A' n' c'] w fun e w' => e = .returned (.bool (decide (xs = ys))) ∧ ∃ q, w' = w.drewN q := by
  have HR := hid (And.intro hn (And.intro hn' (And.intro hx hy)))
  clear hn hn' hx hy
  by_cases hnn : n = n'
  · subst hnn
    go_enter Try.func56, Try.ntmps56
    go_wp2_with fail
    go_loopw [13] (fun i wr => ∃ (k q : Nat), k ≤ n ∧ i = .int .i64 k ∧ wr = w.drewN q ∧ Hid (xs.take k = ys.take k)) (fun i _ => n - (intOf i).toNat)
    case atStart => exact ⟨0, 0, by omega, rfl, rfl, rfl⟩
    case round =>
      obtain ⟨k, q, hk, rfl, rfl, HT⟩ := hrel
      by_cases hlt : k < n
      · have h1 : k < xs.length := by rw [HR.out.1]; exact hlt
        have h2 : k < ys.length := by rw [HR.out.2.1]; exact hlt
        obtain ⟨ad, rfl, hc1⟩ : ∃ ad, A = some ad ∧ ∀ q, (w.drewN q).cell? (ad.add k) = some (.int .u8 (xs[k].toNat : Int)) := by
          obtain ⟨ad, e, hc⟩ := HR.out.2.2.1 (by omega)
          exact ⟨ad, e, fun _ => hc k h1⟩
        obtain ⟨ad', rfl, hc2⟩ : ∃ ad, A' = some ad ∧ ∀ q, (w.drewN q).cell? (ad.add k) = some (.int .u8 (ys[k].toNat : Int)) := by
          obtain ⟨ad, e, hc⟩ := HR.out.2.2.2 (by omega)
          exact ⟨ad, e, fun _ => hc k h2⟩
        obtain ⟨x, hx⟩ : ∃ x : Int, x = (xs[k].toNat : Int) := ⟨_, rfl⟩
        obtain ⟨y, hy⟩ : ∃ y : Int, y = (ys[k].toNat : Int) := ⟨_, rfl⟩
        rw [← hx] at hc1
        rw [← hy] at hc2
        have b1 : (0 : Int) ≤ (k : Int) := by omega
        have b2 : (k : Int) < (n : Int) := by omega
        by_cases hxy : x = y
        · have hb : (x != y) = false := by simp [hxy]
          have HS := hid (show xs.take (k + 1) = ys.take (k + 1) from take_same xs ys k HT.out h1 h2 (UInt8.toNat_inj.1 (by omega)))
          clear hx hy hxy
          go_wp2_with fail
          go_quiet (fail)
          go_wp2_with fail
          go_roundw
          case rel => exact ⟨k + 1, _, by omega, by go_num, rfl, HS⟩
          case measure => simp [intOf] <;> omega
        · have hb : (x != y) = true := by simpa using hxy
          have HS := hid (show decide (xs = ys) = false from decide_eq_false (fun e => hxy (by rw [hx, hy]; subst e; rfl)))
          clear hx hy hxy
          go_wp2_with fail
          go_quiet (fail)
          go_wp2_with fail
          go_ret
          rw [HS.out]
          exact ⟨rfl, q + nq, by simp⟩
      · obtain rfl : n = k := by omega
        have HS := hid (show decide (xs = ys) = true from decide_eq_true (by
          have := HT.out
          rwa [List.take_of_length_le (by rw [HR.out.1]; exact Nat.le_refl _), List.take_of_length_le (by rw [HR.out.2.1]; exact Nat.le_refl _)] at this))
        clear hlt
        go_wp2_with fail
        go_ret
        rw [HS.out]
        exact ⟨rfl, _, rfl⟩
  · have hb : ((n : Int) != (n' : Int)) = true := by rw [bne_iff_ne]; omega
    have HS := hid (show decide (xs = ys) = false from decide_eq_false (fun e => hnn (by rw [← HR.out.1, ← HR.out.2.1, e])))
    clear hnn
    go_enter Try.func56, Try.ntmps56
    go_wp2_with fail
    go_ret
    rw [HS.out]
    exact ⟨rfl, 0, rfl⟩

set_option maxRecDepth 100000 in
set_option maxHeartbeats 800000 in
theorem equalR_calls (A A' : Option Addr) (xs ys : List (Int × Int)) (n n' c c' : Nat) (hn : xs.length = n) (hn' : ys.length = n') (w : World) (hx : Cells w A (rngC xs)) (hy : Cells w A' (rngC ys)) (hl : n ≤ 140737488355328) :
    Calls Try.prog 55 #[.slice A n c, .slice A' n' c'] w fun e w' => e = .returned (.bool (decide (xs = ys))) ∧ ∃ q, w' = w.drewN q := by
  have HR := hid (And.intro hn (And.intro hn' (And.intro hx hy)))
  clear hn hn' hx hy
  by_cases hnn : n = n'
  · subst hnn
    go_enter Try.func55, Try.ntmps55
    go_wp2_with fail
    go_loopw [13] (fun i wr => ∃ (k q : Nat), k ≤ n ∧ i = .int .i64 k ∧ wr = w.drewN q ∧ Hid (xs.take k = ys.take k)) (fun i _ => n - (intOf i).toNat)
    case atStart => exact ⟨0, 0, by omega, rfl, rfl, rfl⟩
    case round =>
      obtain ⟨k, q, hk, rfl, rfl, HT⟩ := hrel
      by_cases hlt : k < n
      · have h1 : k < xs.length := by rw [HR.out.1]; exact hlt
        have h2 : k < ys.length := by rw [HR.out.2.1]; exact hlt
        obtain ⟨ad, rfl, e1, e2⟩ := cells2 HR.out.2.2.1 k h1
        obtain ⟨ad', rfl, e3, e4⟩ := cells2 HR.out.2.2.2 k h2
        have e1 : ∀ q, (w.drewN q).cell? (ad.add (k * 2)) = _ := fun _ => e1
        have e2 : ∀ q, (w.drewN q).cell? ⟨(ad.add (k * 2)).block, (ad.add (k * 2)).off + 1, none⟩ = _ := fun _ => e2
        have e3 : ∀ q, (w.drewN q).cell? (ad'.add (k * 2)) = _ := fun _ => e3
        have e4 : ∀ q, (w.drewN q).cell? ⟨(ad'.add (k * 2)).block, (ad'.add (k * 2)).off + 1, none⟩ = _ := fun _ => e4
        obtain ⟨⟨x, x'⟩, hx⟩ : ∃ x, x = xs[k] := ⟨_, rfl⟩
        obtain ⟨⟨y, y'⟩, hy⟩ : ∃ y, y = ys[k] := ⟨_, rfl⟩
        rw [← hx] at e1 e2
        rw [← hy] at e3 e4
        simp only at e1 e2 e3 e4
        have b1 : (0 : Int) ≤ (k : Int) := by omega
        have b2 : (k : Int) < (n : Int) := by omega
        by_cases hxy : (x, x') = (y, y')
        · have hneq : ∀ W, (binOp .neq 53 (.agg #[.int .i64 x, .int .i64 x']) (.agg #[.int .i64 y, .int .i64 y'])).run Try.prog W = .ok (.bool false) W := fun W => by
            have := neq2 W [x, x'] [y, y'] rfl rfl
            rw [decide_eq_true (by simp at hxy; rw [hxy.1, hxy.2])] at this
            exact this
          have HS := hid (show xs.take (k + 1) = ys.take (k + 1) from take_same xs ys k HT.out h1 h2 (by rw [← hx, ← hy]; exact hxy))
          clear hx hy hxy
          go_wp2_with fail
          go_quiet (fail)
          go_wp2_with fail
          go_roundw
          case rel => exact ⟨k + 1, _, by omega, by go_num, rfl, HS⟩
          case measure => simp [intOf] <;> omega
        · have hneq : ∀ W, (binOp .neq 53 (.agg #[.int .i64 x, .int .i64 x']) (.agg #[.int .i64 y, .int .i64 y'])).run Try.prog W = .ok (.bool true) W := fun W => by
            have := neq2 W [x, x'] [y, y'] rfl rfl
            rw [decide_eq_false (by intro e; simp at e; exact hxy (by rw [e.1, e.2]))] at this
            exact this
          have HS := hid (show decide (xs = ys) = false from decide_eq_false (fun e => hxy (by rw [hx, hy]; subst e; rfl)))
          clear hx hy hxy
          go_wp2_with fail
          go_quiet (fail)
          go_wp2_with fail
          go_ret
          rw [HS.out]
          exact ⟨rfl, q + nq, by simp⟩
      · obtain rfl : n = k := by omega
        have HS := hid (show decide (xs = ys) = true from decide_eq_true (by
          have := HT.out
          rwa [List.take_of_length_le (by rw [HR.out.1]; exact Nat.le_refl _), List.take_of_length_le (by rw [HR.out.2.1]; exact Nat.le_refl _)] at this))
        clear hlt
        go_wp2_with fail
        go_ret
        rw [HS.out]
        exact ⟨rfl, _, rfl⟩
  · have hb : ((n : Int) != (n' : Int)) = true := by rw [bne_iff_ne]; omega
    have HS := hid (show decide (xs = ys) = false from decide_eq_false (fun e => hnn (by rw [← HR.out.1, ← HR.out.2.1, e])))
    clear hnn
    go_enter Try.func55, Try.ntmps55
    go_wp2_with fail
    go_ret
    rw [HS.out]
    exact ⟨rfl, 0, rfl⟩

end Go.Proofs.Ytamkfjbdcjkchaa

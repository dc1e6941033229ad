/- Numbers: the same ones, the greatest of them; what covers nothing, as it is read. -/
import Derived.Test.YtkhglmmidgfliaaHead3
import Derived.Test.YtkhglmmidgfliaaRef2
namespace Go.Proofs.Ytkhglmmidgfliaa
open Go.RowKit Go.Proofs.HK
set_option linter.unusedVariables false
set_option linter.unusedSimpArgs false
attribute [local go_sem] max2_int min2_int max_two min_two

theorem take_same {α : Type} (xs ys : List α) (k : Nat) (h : xs.take k = ys.take k) (h1 : k < xs.length) (h2 : k < ys.length) (e : xs[k] = ys[k]) : xs.take (k + 1) = ys.take (k + 1) := by
  rw [List.take_succ_eq_append_getElem h1, List.take_succ_eq_append_getElem h2, h, e]
set_option maxRecDepth 100000 in
set_option maxHeartbeats 800000 in
theorem sameInts_calls (A A' : Option Addr) (xs ys : List Int) (n n' c c' : Nat) (hn : xs.length = n) (hn' : ys.length = n') (w : World) (hx : Rd II w A xs) (hy : Rd II w A' ys) (hl : n ≤ 140737488355328) :
    Calls Try.prog 37 #[.slice A n c, .slice A' n' c'] w fun e w' => e = .returned (.bool (decide (xs = ys))) ∧ ∃ q, w' = w.drewN q := by
  have HR := hid (And.intro hn (And.intro hn' (And.intro hx hy)))
  clear hn hn' hx hy
  by_cases hnn : n = n'
  · subst hnn
    go_enter Try.func37, Try.ntmps37
    go_wp2_with fail
    go_loopw [13] (fun i wr => ∃ (k q : Nat), k ≤ n ∧ i = .int .i64 k ∧ wr = w.drewN q ∧ Hid (xs.take k = ys.take k)) (fun i _ => n - (intOf i).toNat)
    case atStart => exact ⟨0, 0, by omega, rfl, rfl, rfl⟩
    case round =>
      obtain ⟨k, q, hk, rfl, rfl, HT⟩ := hrel
      by_cases hlt : k < n
      · have h1 : k < xs.length := by rw [HR.out.1]; exact hlt
        have h2 : k < ys.length := by rw [HR.out.2.1]; exact hlt
        obtain ⟨ad, rfl, hc1⟩ : ∃ ad, A = some ad ∧ ∀ q, (w.drewN q).cell? (ad.add k) = some (.int .i64 xs[k]) := by
          obtain ⟨ad, e, hc⟩ := HR.out.2.2.1 (by omega)
          exact ⟨ad, e, fun _ => hc k h1⟩
        obtain ⟨ad', rfl, hc2⟩ : ∃ ad, A' = some ad ∧ ∀ q, (w.drewN q).cell? (ad.add k) = some (.int .i64 ys[k]) := by
          obtain ⟨ad, e, hc⟩ := HR.out.2.2.2 (by omega)
          exact ⟨ad, e, fun _ => hc k h2⟩
        obtain ⟨x, hx⟩ : ∃ x, x = xs[k] := ⟨_, rfl⟩
        obtain ⟨y, hy⟩ : ∃ y, y = ys[k] := ⟨_, rfl⟩
        rw [← hx] at hc1
        rw [← hy] at hc2
        have b1 : (0 : Int) ≤ (k : Int) := by omega
        have b2 : (k : Int) < (n : Int) := by omega
        by_cases hxy : x = y
        · have hb : (x != y) = false := by simp [hxy]
          have HS := hid (show xs.take (k + 1) = ys.take (k + 1) from take_same xs ys k HT.out h1 h2 (by rw [← hx, ← hy]; exact hxy))
          clear hx hy hxy
          go_wp2_with fail
          go_quiet (fail)
          go_wp2_with fail
          go_roundw
          case rel => exact ⟨k + 1, _, by omega, by go_num, rfl, HS⟩
          case measure => simp [intOf] <;> omega
        · have hb : (x != y) = true := by simpa using hxy
          have HS := hid (show decide (xs = ys) = false from decide_eq_false (fun e => hxy (by rw [hx, hy]; subst e; rfl)))
          clear hx hy hxy
          go_wp2_with fail
          go_quiet (fail)
          go_wp2_with fail
          go_ret
          rw [HS.out]
          exact ⟨rfl, q + nq, by simp⟩
      · obtain rfl : n = k := by omega
        have HS := hid (show decide (xs = ys) = true from decide_eq_true (by
          have := HT.out
          rwa [List.take_of_length_le (by rw [HR.out.1]; exact Nat.le_refl _), List.take_of_length_le (by rw [HR.out.2.1]; exact Nat.le_refl _)] at this))
        clear hlt
        go_wp2_with fail
        go_ret
        rw [HS.out]
        exact ⟨rfl, _, rfl⟩
  · have hb : ((n : Int) != (n' : Int)) = true := by rw [bne_iff_ne]; omega
    have HS := hid (show decide (xs = ys) = false from decide_eq_false (fun e => hnn (by rw [← HR.out.1, ← HR.out.2.1, e])))
    clear hnn
    go_enter Try.func37, Try.ntmps37
    go_wp2_with fail
    go_ret
    rw [HS.out]
    exact ⟨rfl, 0, rfl⟩

/-- The greatest of some numbers. -/
def mxL (l : List Int) : Int := l.foldl mx (l.headD 0)
theorem foldl_mx (l : List Int) : ∀ a, (l.foldl mx a = a ∨ l.foldl mx a ∈ l) ∧ a ≤ l.foldl mx a ∧ ∀ v ∈ l, v ≤ l.foldl mx a := by
  induction l with
  | nil => intro a; exact ⟨.inl rfl, Int.le_refl _, fun v h => by cases h⟩
  | cons b l ih =>
    intro a
    obtain ⟨h1, h2, h3⟩ := ih (mx a b)
    have e := mx_eq a b
    refine ⟨?_, ?_, fun v hv => ?_⟩
    · show l.foldl mx (mx a b) = a ∨ l.foldl mx (mx a b) ∈ b :: l
      rcases h1 with h1 | h1
      · by_cases hab : a ≤ b
        · right; rw [h1, e, show max a b = b by omega]; exact List.mem_cons_self
        · left; rw [h1, e]; omega
      · exact .inr (List.mem_cons_of_mem _ h1)
    · show a ≤ l.foldl mx (mx a b); omega
    · show v ≤ l.foldl mx (mx a b)
      rcases List.mem_cons.1 hv with rfl | hv
      · omega
      · exact h3 v hv
theorem mxL_spec (l : List Int) (h : 0 < l.length) : mxL l ∈ l ∧ ∀ v ∈ l, v ≤ mxL l := by
  match l, h with
  | a :: l, _ =>
    obtain ⟨h1, h2, h3⟩ := foldl_mx (a :: l) a
    refine ⟨?_, h3⟩
    rcases h1 with h1 | h1
    · show (a :: l).foldl mx a ∈ _; rw [h1]; exact List.mem_cons_self
    · exact h1
theorem mxL_take (xs : List Int) (k : Nat) (h0 : 0 < k) (h : k < xs.length) : mxL (xs.take (k + 1)) = mx (mxL (xs.take k)) xs[k] := by
  unfold mxL
  rw [List.take_succ_eq_append_getElem h, List.foldl_append]
  obtain ⟨j, rfl⟩ : ∃ j, k = j + 1 := ⟨k - 1, by omega⟩
  match xs, h with
  | a :: xs, _ => rfl
theorem slII : SlT Try.prog 49 3 1 8 := SlT.of (z := .int .i64 0) Try.underlying49 (by kernel_rfl) rfl (by decide)
set_option maxRecDepth 100000 in
set_option maxHeartbeats 800000 in
theorem max_calls (A : Option Addr) (xs : List Int) (n c : Nat) (hn : xs.length = n) (h0 : 0 < n) (w : World) (hx : Rd II w A xs) (hl : n ≤ 140737488355328) :
    Calls Try.prog 60 #[.slice A n c] w fun e w' => e = .returned (.int .i64 (mxL xs)) ∧ w' = w := by
  have HR := hid (And.intro hn hx)
  clear hn hx
  obtain ⟨ad, rfl, hc⟩ := HR.out.2 (by rw [HR.out.1]; exact h0)
  have h00 : 0 < xs.length := by rw [HR.out.1]; exact h0
  have hcell : w.cell? (ad.add 0) = some (.int .i64 xs[0]) := hc 0 h00
  obtain ⟨x0, hx0⟩ : ∃ x, x = xs[0] := ⟨_, rfl⟩
  rw [← hx0, add_zero] at hcell
  have HX : Hid (mxL (xs.take 1) = x0) := by
    show _ = _
    rw [hx0]
    match xs, h00 with
    | a :: xs, _ => show mx a a = a; rw [mx_eq]; omega
  have HC := hid hc
  clear hc hx0
  have b1 : ¬ ((n : Int) < 1) := by omega
  have b2 : (0 : Int) < (n : Int) := by omega
  go_enter Try.func60, Try.ntmps60
  go_wp2_with fail
  go_loopw [3, 4] (fun m i wr => ∃ (k : Nat) (M : Int), 1 ≤ k ∧ k ≤ n ∧ i = .int .i64 k ∧ m = .int .i64 M ∧ Hid (mxL (xs.take k) = M) ∧ w = wr) (fun _ i _ => n - (intOf i).toNat)
  case atStart => exact ⟨1, x0, by omega, by omega, rfl, rfl, HX, rfl⟩
  case round =>
    obtain ⟨k, M, hk1, hk, rfl, rfl, HM, rfl⟩ := hrel
    by_cases hlt : k < n
    · have h1 : k < xs.length := by rw [HR.out.1]; exact hlt
      have hck : w.cell? (ad.add k) = some (.int .i64 xs[k]) := HC.out k h1
      have HN := hid (mxL_take xs k (by omega) h1)
      obtain ⟨x, hx⟩ : ∃ x, x = xs[k] := ⟨_, rfl⟩
      rw [← hx] at hck HN
      have b3 : (0 : Int) ≤ (k : Int) := by omega
      have b4 : (k : Int) < (n : Int) := by omega
      clear hx
      go_wp2_with fail
      go_roundw
      case rel => exact ⟨k + 1, _, by omega, by omega, by go_num, rfl, by show _ = _; rw [HN.out, HM.out], trivial⟩
      case measure => simp [intOf] <;> omega
    · obtain rfl : n = k := by omega
      clear hlt
      go_wp2_with fail
      go_ret
      have := HM.out
      rw [List.take_of_length_le (by rw [HR.out.1]; exact Nat.le_refl _)] at this
      rw [this]
      exact ⟨rfl, rfl⟩
end Go.Proofs.Ytkhglmmidgfliaa

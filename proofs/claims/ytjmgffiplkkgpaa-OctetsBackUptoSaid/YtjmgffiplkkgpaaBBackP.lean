/- BitsBack, plainly: what is put, number by number, is taken again. No program in sight. -/
import Derived.Test.YtjmgffiplkkgpaaBitsP
namespace Go.Proofs.HK

theorem low32_le (n : Int) : low32 n ≤ 32 := by unfold low32; omega
abbrev PutT := Int × Int × Bool × Unit
/-- What a writer's number and its bits become. -/
def wstep (s : Nat × Nat) (x : PutT) : Nat × Nat :=
  if x.2.2.1 then (s.1, 8 * ((s.2 + 7) / 8)) else (s.1 + 2 ^ s.2 * (x.1 % 2 ^ low32 x.2.1).toNat, s.2 + low32 x.2.1)
def wrun (s : Nat × Nat) (xs : List PutT) : Nat × Nat := xs.foldl wstep s
theorem wrun_snoc (s : Nat × Nat) (xs : List PutT) (k : Nat) (h : k < xs.length) : wrun s (xs.take (k + 1)) = wstep (wrun s (xs.take k)) xs[k] := by
  unfold wrun
  rw [List.take_succ_eq_append_getElem h, List.foldl_append]; rfl
theorem wstep_lt (s : Nat × Nat) (x : PutT) (h : s.1 < 2 ^ s.2) : (wstep s x).1 < 2 ^ (wstep s x).2 := by
  unfold wstep
  split
  · exact Nat.lt_of_lt_of_le h (Nat.pow_le_pow_right (by decide) (by show s.2 ≤ 8 * ((s.2 + 7) / 8); omega))
  · show s.1 + 2 ^ s.2 * (x.1 % 2 ^ low32 x.2.1).toNat < 2 ^ (s.2 + low32 x.2.1)
    have hp : (0 : Int) < 2 ^ low32 x.2.1 := Int.pow_pos (by decide)
    have h1 := Int.emod_nonneg x.1 (Int.ne_of_gt hp)
    have h2 := Int.emod_lt_of_pos x.1 hp
    have h3 : (x.1 % 2 ^ low32 x.2.1).toNat < 2 ^ low32 x.2.1 := by
      have e : ((2 ^ low32 x.2.1 : Nat) : Int) = (2 : Int) ^ low32 x.2.1 := by simp
      omega
    rw [Nat.pow_add]
    have h4 : 2 ^ s.2 * ((x.1 % 2 ^ low32 x.2.1).toNat + 1) ≤ 2 ^ s.2 * 2 ^ low32 x.2.1 := Nat.mul_le_mul_left _ h3
    rw [Nat.mul_add] at h4
    omega
theorem wrun_lt (xs : List PutT) : ∀ s : Nat × Nat, s.1 < 2 ^ s.2 → (wrun s xs).1 < 2 ^ (wrun s xs).2 := by
  induction xs with
  | nil => intro s h; exact h
  | cons x xs ih => intro s h; exact ih _ (wstep_lt s x h)
theorem wstep_T (s : Nat × Nat) (x : PutT) : s.2 ≤ (wstep s x).2 ∧ (wstep s x).2 ≤ s.2 + 32 := by
  unfold wstep
  have := low32_le x.2.1
  split
  · show s.2 ≤ 8 * ((s.2 + 7) / 8) ∧ 8 * ((s.2 + 7) / 8) ≤ s.2 + 32
    omega
  · show s.2 ≤ s.2 + low32 x.2.1 ∧ s.2 + low32 x.2.1 ≤ s.2 + 32
    omega
theorem wrun_T (xs : List PutT) : ∀ s : Nat × Nat, s.2 ≤ (wrun s xs).2 ∧ (wrun s xs).2 ≤ s.2 + 32 * xs.length := by
  induction xs with
  | nil => intro s; exact ⟨Nat.le_refl _, by simp [wrun]⟩
  | cons x xs ih =>
    intro s
    have h1 := wstep_T s x
    have h2 := ih (wstep s x)
    have e : wrun s (x :: xs) = wrun (wstep s x) xs := rfl
    rw [e, List.length_cons]
    omega
/-- What is put further on lies above. -/
theorem wrun_ext (xs : List PutT) : ∀ s : Nat × Nat, ∃ R, (wrun s xs).1 = s.1 + 2 ^ s.2 * R := by
  induction xs with
  | nil => intro s; exact ⟨0, by simp [wrun]⟩
  | cons x xs ih =>
    intro s
    obtain ⟨R, hR⟩ := ih (wstep s x)
    have e : wrun s (x :: xs) = wrun (wstep s x) xs := rfl
    rw [e, hR]
    have hT := (wstep_T s x).1
    have hp : 2 ^ (wstep s x).2 = 2 ^ s.2 * 2 ^ ((wstep s x).2 - s.2) := by rw [← Nat.pow_add, Nat.add_sub_cancel' hT]
    rw [hp]
    by_cases hb : x.2.2.1 = true
    · have e1 : (wstep s x).1 = s.1 := by unfold wstep; rw [if_pos hb]
      exact ⟨2 ^ ((wstep s x).2 - s.2) * R, by rw [e1, Nat.mul_assoc]⟩
    · have e1 : (wstep s x).1 = s.1 + 2 ^ s.2 * (x.1 % 2 ^ low32 x.2.1).toNat := by unfold wstep; rw [if_neg hb]
      exact ⟨(x.1 % 2 ^ low32 x.2.1).toNat + 2 ^ ((wstep s x).2 - s.2) * R, by rw [e1, Nat.mul_assoc, Nat.mul_add, Nat.add_assoc]⟩
theorem wrun_split (xs : List PutT) (k : Nat) (s : Nat × Nat) : wrun s xs = wrun (wrun s (xs.take k)) (xs.drop k) := by
  unfold wrun
  rw [← List.foldl_append, List.take_append_drop]
/-- The k-th number of what was put, out of all. -/
theorem wrun_take (xs : List PutT) (k : Nat) (h : k < xs.length) (hb : xs[k].2.2.1 = false) :
    (wrun (0, 0) xs).1 / 2 ^ (wrun (0, 0) (xs.take k)).2 % 2 ^ low32 xs[k].2.1 = (xs[k].1 % 2 ^ low32 xs[k].2.1).toNat := by
  rw [wrun_split xs (k + 1), wrun_snoc _ _ _ h]
  obtain ⟨s, hs⟩ : ∃ s, s = wrun (0, 0) (xs.take k) := ⟨_, rfl⟩
  have hlt : s.1 < 2 ^ s.2 := by rw [hs]; exact wrun_lt _ _ (by decide)
  rw [← hs]
  obtain ⟨R, hR⟩ := wrun_ext (xs.drop (k + 1)) (wstep s xs[k])
  rw [hR]
  have e : wstep s xs[k] = (s.1 + 2 ^ s.2 * (xs[k].1 % 2 ^ low32 xs[k].2.1).toNat, s.2 + low32 xs[k].2.1) := by unfold wstep; rw [hb]; rfl
  rw [e]
  show (s.1 + 2 ^ s.2 * (xs[k].1 % 2 ^ low32 xs[k].2.1).toNat + 2 ^ (s.2 + low32 xs[k].2.1) * R) / 2 ^ s.2 % 2 ^ low32 xs[k].2.1 = _
  have hp : (0 : Int) < 2 ^ low32 xs[k].2.1 := Int.pow_pos (by decide)
  have h1 := Int.emod_nonneg xs[k].1 (Int.ne_of_gt hp)
  have h2 := Int.emod_lt_of_pos xs[k].1 hp
  have h3 : (xs[k].1 % 2 ^ low32 xs[k].2.1).toNat < 2 ^ low32 xs[k].2.1 := by
    have e : ((2 ^ low32 xs[k].2.1 : Nat) : Int) = (2 : Int) ^ low32 xs[k].2.1 := by simp
    omega
  rw [Nat.pow_add, Nat.mul_assoc, Nat.add_assoc, ← Nat.mul_add, Nat.add_mul_div_left _ _ (Nat.two_pow_pos _), Nat.div_eq_of_lt hlt, Nat.zero_add, Nat.add_mul_mod_self_left, Nat.mod_eq_of_lt h3]
/-- v & (1 << m - 1). -/
theorem andmask (v : Int) (m : Nat) (hm : m ≤ 32) : bits .and .i64 v (IntKind.i64.wrap (IntKind.i64.wrap (2 ^ m) - 1)) = v % 2 ^ m := by
  have hp : 2 ^ m ≤ 2 ^ 32 := Nat.pow_le_pow_right (by decide) hm
  have hp0 : 0 < 2 ^ m := Nat.two_pow_pos m
  have e2 : (2 : Int) ^ m = ((2 ^ m : Nat) : Int) := by simp
  have e3 : IntKind.i64.wrap (IntKind.i64.wrap (2 ^ m) - 1) = ((2 ^ m - 1 : Nat) : Int) := by
    rw [e2, IntKind.wrap_i64, IntKind.wrap_i64]
    omega
  rw [e3]
  have h : bits .and .i64 v ((2 ^ m - 1 : Nat) : Int) = IntKind.i64.wrap (((v % 2 ^ 64).toNat &&& (((2 ^ m - 1 : Nat) : Int) % 2 ^ 64).toNat : Nat) : Int) := by
    simp only [bits]
    congr 2
  have e4 : (((2 ^ m - 1 : Nat) : Int) % 2 ^ 64).toNat = 2 ^ m - 1 := by omega
  rw [h, e4, Nat.and_two_pow_sub_one_eq_mod, e2]
  have e5 : (((v % 2 ^ 64).toNat % 2 ^ m : Nat) : Int) = v % ((2 ^ m : Nat) : Int) := by
    rw [Int.natCast_emod, Int.toNat_of_nonneg (Int.emod_nonneg _ (by decide)), ← e2]
    exact Int.emod_emod_of_dvd v ⟨2 ^ (64 - m), by rw [← Int.pow_add, Nat.add_sub_cancel' (by omega)]⟩
  rw [e5, IntKind.wrap_i64]
  have h1 := Int.emod_nonneg v (show ((2 ^ m : Nat) : Int) ≠ 0 by omega)
  have h2 := Int.emod_lt_of_pos v (show (0 : Int) < ((2 ^ m : Nat) : Int) by omega)
  omega
end Go.Proofs.HK

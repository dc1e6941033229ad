/- Bits that are turned one by one, plainly. No program in sight. -/
import Derived.Test.YtamkfjbdcjkchaaCrcP
namespace Go.Proofs.HK
theorem tb_xor (X Z j : Nat) : (X ^^^ Z) / 2 ^ j % 2 = (X / 2 ^ j % 2 + Z / 2 ^ j % 2) % 2 := by rw [Nat.xor_div_two_pow, xor_mod2]
theorem tb_mod (X T j : Nat) (h : j < T) : X % 2 ^ T / 2 ^ j % 2 = X / 2 ^ j % 2 := by
  have := bit_low (X % 2 ^ T) (X / 2 ^ T) T j h
  rwa [Nat.mod_add_div, eq_comm] at this
theorem tb_mod0 (X T j : Nat) (h : T ≤ j) : X % 2 ^ T / 2 ^ j % 2 = 0 := by
  have h1 : X % 2 ^ T < 2 ^ j := Nat.lt_of_lt_of_le (Nat.mod_lt _ (Nat.two_pow_pos T)) (Nat.pow_le_pow_right (by decide) h)
  rw [Nat.div_eq_of_lt h1]
theorem tb_mul (a z j : Nat) : 2 ^ a * z / 2 ^ j % 2 = if a ≤ j then z / 2 ^ (j - a) % 2 else 0 := by
  by_cases h : a ≤ j
  · rw [if_pos h, show 2 ^ j = 2 ^ a * 2 ^ (j - a) by rw [← Nat.pow_add]; congr 1; omega, Nat.mul_div_mul_left _ _ (Nat.two_pow_pos a)]
  · rw [if_neg h, show 2 ^ a = 2 ^ j * (2 * 2 ^ (a - j - 1)) by rw [← Nat.pow_succ', ← Nat.pow_add]; congr 1; omega, Nat.mul_assoc, Nat.mul_div_cancel_left _ (Nat.two_pow_pos j), Nat.mul_assoc, Nat.mul_mod_right]
theorem tb_burst (T a z j : Nat) (h : j < T) : burst T a z / 2 ^ j % 2 = if a ≤ j then z / 2 ^ (j - a) % 2 else 0 := by
  unfold burst
  rw [tb_mod _ _ _ h, tb_mul]
/-- One more bit of y is turned. -/
theorem turn_step (T V a y i : Nat) (j : Nat) (hj : j < T) :
    (V ^^^ burst T a (y % 2 ^ (i + 1))) / 2 ^ j % 2 = if j = a + i then ((V ^^^ burst T a (y % 2 ^ i)) / 2 ^ j % 2 + y / 2 ^ i % 2) % 2 else (V ^^^ burst T a (y % 2 ^ i)) / 2 ^ j % 2 := by
  rw [tb_xor, tb_xor, tb_burst _ _ _ _ hj, tb_burst _ _ _ _ hj]
  by_cases ha : a ≤ j
  · rw [if_pos ha, if_pos ha]
    by_cases he : j = a + i
    · rw [if_pos he, show j - a = i by omega, tb_mod _ _ _ (by omega), tb_mod0 _ _ _ (Nat.le_refl _)]
      omega
    · rw [if_neg he]
      by_cases hlt : j - a < i
      · rw [tb_mod _ _ _ (by omega), tb_mod _ _ _ hlt]
      · rw [tb_mod0 _ _ _ (by omega), tb_mod0 _ _ _ (by omega)]
  · rw [if_neg ha, if_neg ha, if_neg (by omega)]
theorem turn_set (T V a y i : Nat) (h : a + i < T) :
    (bitsN T (V ^^^ burst T a (y % 2 ^ i))).set (a + i) (((V ^^^ burst T a (y % 2 ^ i)) / 2 ^ (a + i) % 2 + y / 2 ^ i % 2) % 2) = bitsN T (V ^^^ burst T a (y % 2 ^ (i + 1))) := by
  apply bitsN_ext (by rw [List.length_set, bitsN_length])
  intro j hj
  rw [turn_step T V a y i j hj]
  by_cases he : j = a + i
  · rw [if_pos he, he, List.getElem?_set_self (by rw [bitsN_length]; omega)]
  · rw [if_neg he, List.getElem?_set_ne (by omega), bitsN_get _ _ _ hj]
theorem turn_out (T V a y i : Nat) (h : T ≤ a + i) : bitsN T (V ^^^ burst T a (y % 2 ^ i)) = bitsN T (V ^^^ burst T a (y % 2 ^ (i + 1))) := by
  apply bitsN_ext (by rw [bitsN_length])
  intro j hj
  rw [turn_step T V a y i j hj, if_neg (by omega), bitsN_get _ _ _ hj]
theorem turn_0 (T V a y : Nat) : V ^^^ burst T a (y % 2 ^ 0) = V := by
  rw [Nat.pow_zero, Nat.mod_one]
  unfold burst
  simp
end Go.Proofs.HK

/- Rows of bits, plainly. No program in sight. -/
import Derived.Test.YtamkfjbdcjkchaaBitsP
namespace Go.Proofs.HK

/-- n bits of V, the lowest first. -/
def bitsN : Nat → Nat → List Nat
  | 0, _ => []
  | n + 1, V => V % 2 :: bitsN n (V / 2)
def IB (b : Nat) : Value := .int .i64 (b : Int)
theorem bitsN_length : ∀ n V, (bitsN n V).length = n
  | 0, _ => rfl
  | n + 1, V => by simp [bitsN, bitsN_length n]
theorem bitsN_get : ∀ n V i, i < n → (bitsN n V)[i]? = some (V / 2 ^ i % 2)
  | 0, _, _, h => absurd h (by omega)
  | n + 1, V, 0, _ => by simp [bitsN]
  | n + 1, V, i + 1, h => by
    rw [bitsN, List.getElem?_cons_succ, bitsN_get n (V / 2) i (by omega), Nat.div_div_eq_div_mul, Nat.pow_succ, Nat.mul_comm]
theorem bitsN_ext {n V : Nat} {l : List Nat} (hl : l.length = n) (h : ∀ i, i < n → l[i]? = some (V / 2 ^ i % 2)) : l = bitsN n V := by
  apply List.ext_getElem?
  intro i
  by_cases hi : i < n
  · rw [h i hi, bitsN_get n V i hi]
  · rw [List.getElem?_eq_none (by omega), List.getElem?_eq_none (by rw [bitsN_length]; omega)]
theorem bitsN_snoc (n V : Nat) : bitsN (n + 1) V = bitsN n V ++ [V / 2 ^ n % 2] := by
  symm
  apply bitsN_ext (by simp [bitsN_length])
  intro i hi
  by_cases h : i < n
  · rw [List.getElem?_append_left (by rw [bitsN_length]; exact h), bitsN_get n V i h]
  · have : i = n := by omega
    subst this
    rw [List.getElem?_append_right (by rw [bitsN_length]; exact Nat.le_refl _), bitsN_length, Nat.sub_self]; rfl
theorem div_pow_add (V a b : Nat) : V / 2 ^ a / 2 ^ b = V / 2 ^ (a + b) := by rw [Nat.div_div_eq_div_mul, Nat.pow_add]
theorem bitsN_drop (n V k : Nat) : (bitsN n V).drop k = bitsN (n - k) (V / 2 ^ k) := by
  apply bitsN_ext (by rw [List.length_drop, bitsN_length])
  intro i hi
  rw [List.getElem?_drop, bitsN_get n V (k + i) (by omega), div_pow_add]
theorem bitsN_take (n V k : Nat) (h : k ≤ n) : (bitsN n V).take k = bitsN k V := by
  apply bitsN_ext (by rw [List.length_take, bitsN_length]; omega)
  intro i hi
  rw [List.getElem?_take, if_pos hi, bitsN_get n V i (by omega)]
/-- A bit below k is that of V alone, whatever stands above. -/
theorem bit_low (V R k i : Nat) (h : i < k) : (V + 2 ^ k * R) / 2 ^ i % 2 = V / 2 ^ i % 2 := by
  have e : 2 ^ k = 2 ^ i * (2 * 2 ^ (k - i - 1)) := by
    rw [← Nat.pow_succ', ← Nat.pow_add]; congr 1; omega
  rw [e, Nat.mul_assoc, Nat.add_mul_div_left _ _ (Nat.two_pow_pos _), Nat.mul_assoc, Nat.add_mul_mod_self_left]
theorem bit_high (V R k i : Nat) (hV : V < 2 ^ k) : (V + 2 ^ k * R) / 2 ^ (k + i) % 2 = R / 2 ^ i % 2 := by
  rw [← div_pow_add, Nat.add_mul_div_left _ _ (Nat.two_pow_pos _), Nat.div_eq_of_lt hV, Nat.zero_add]
theorem bitsN_append (n m V R : Nat) (hV : V < 2 ^ n) : bitsN n V ++ bitsN m R = bitsN (n + m) (V + 2 ^ n * R) := by
  apply bitsN_ext (by rw [List.length_append, bitsN_length, bitsN_length])
  intro i hi
  by_cases h : i < n
  · rw [List.getElem?_append_left (by rw [bitsN_length]; exact h), bitsN_get n V i h, bit_low _ _ _ _ h]
  · rw [List.getElem?_append_right (by rw [bitsN_length]; omega), bitsN_length, bitsN_get m R (i - n) (by omega)]
    have := bit_high V R n (i - n) hV
    rw [Nat.add_sub_cancel' (by omega)] at this
    rw [this]
/-- The bits of a byte of a row, one more. -/
theorem le_bit (bs : List UInt8) (i k : Nat) (hk : k < 8) : le bs / 2 ^ (8 * i + k) % 2 = (rdB bs i).toNat / 2 ^ k % 2 := by
  rw [rdB_le, ← div_pow_add, ← pow256]
  have e : 256 = 2 ^ k * (2 * 2 ^ (7 - k)) := by
    rw [← Nat.pow_succ', ← Nat.pow_add, show k + (7 - k + 1) = 8 by omega]
  generalize le bs / 256 ^ i = X
  rw [e, Nat.mod_mul_right_div_self, Nat.mod_mul_right_mod]
/-- Number's sum, from above. -/
theorem num_step (V n j : Nat) (h : j < n) : 2 * (V % 2 ^ n / 2 ^ (j + 1)) + V / 2 ^ j % 2 = V % 2 ^ n / 2 ^ j := by
  have e : V / 2 ^ j % 2 = V % 2 ^ n / 2 ^ j % 2 := by
    have := bit_low (V % 2 ^ n) (V / 2 ^ n) n j h
    rwa [Nat.mod_add_div] at this
  have e2 : V % 2 ^ n / 2 ^ (j + 1) = V % 2 ^ n / 2 ^ j / 2 := by rw [Nat.pow_succ, Nat.div_div_eq_div_mul]
  rw [e, e2]
  omega
theorem le_putLE (n V : Nat) : le (putLE n V) = V % 256 ^ n := by
  induction n generalizing V with
  | zero => simp [putLE, le, Nat.mod_one]
  | succ n ih =>
    have h1 : ((V : Int) / 256) = ((V / 256 : Nat) : Int) := by omega
    have h2 := byteOf_toNat (V : Int)
    simp only [putLE, le]
    rw [h1, ih, Nat.pow_succ, Nat.mul_comm (256 ^ n) 256, Nat.mod_mul]
    omega
/-- A byte of eight bits, or of what is left. -/
theorem byte_cut (V T k : Nat) (h : V < 2 ^ T) (hk : 8 * k < T) : V / 2 ^ (8 * k) % 2 ^ min 8 (T - 8 * k) = V / 256 ^ k % 256 := by
  rw [← pow256]
  by_cases h8 : 8 ≤ T - 8 * k
  · rw [Nat.min_eq_left h8]
  · rw [Nat.min_eq_right (by omega)]
    have hlt : V / 256 ^ k < 2 ^ (T - 8 * k) := by
      rw [pow256, Nat.div_lt_iff_lt_mul (Nat.two_pow_pos _), ← Nat.pow_add, Nat.sub_add_cancel (by omega)]
      exact h
    have hlt2 : 2 ^ (T - 8 * k) ≤ 2 ^ 8 := Nat.pow_le_pow_right (by decide) (by omega)
    rw [Nat.mod_eq_of_lt hlt, Nat.mod_eq_of_lt (by omega)]
theorem div2_bound (v : Int) (hv : -9223372036854775808 ≤ v ∧ v ≤ 9223372036854775807) (k : Nat) : -9223372036854775808 ≤ v / 2 ^ k ∧ v / 2 ^ k ≤ 9223372036854775807 := by
  induction k with
  | zero => simpa using hv
  | succ k ih => rw [← div_pow_succ]; omega
/-- A bit of v's lowest m bits. -/
theorem low_bit (v : Int) (m j : Nat) (h : j < m) : (((v % 2 ^ m).toNat / 2 ^ j % 2 : Nat) : Int) = v / 2 ^ j % 2 := by
  have hp : (0 : Int) < 2 ^ m := Int.pow_pos (by decide)
  have h0 := Int.emod_nonneg v (Int.ne_of_gt hp)
  rw [Int.natCast_emod, Int.natCast_ediv, Int.toNat_of_nonneg h0, show ((2 ^ j : Nat) : Int) = 2 ^ j by simp]
  have e : v = v % 2 ^ m + 2 ^ m * (v / 2 ^ m) := (Int.emod_add_mul_ediv v (2 ^ m)).symm
  have e2 : (2 : Int) ^ m = 2 ^ j * (2 * 2 ^ (m - j - 1)) := by
    rw [← Int.pow_succ', ← Int.pow_add]; congr 1; omega
  have hj : (2 : Int) ^ j ≠ 0 := Int.ne_of_gt (Int.pow_pos (by decide))
  conv => rhs; rw [e]
  rw [show (2 : Int) ^ m * (v / 2 ^ m) = 2 ^ j * (2 * (2 ^ (m - j - 1) * (v / 2 ^ m))) by rw [← Int.mul_assoc, ← Int.mul_assoc, Int.mul_assoc (2 ^ j) 2, ← e2], Int.add_mul_ediv_left _ _ hj, Int.add_mul_emod_self_left]
  rfl
end Go.Proofs.HK

/- Numbers as bits, and bits as bytes: plain. No program in sight. -/
import Derived.Test.YtdbbkdlocmafgaaPackP
namespace Go.Proofs.HK
open Go.RowKit

/-- The last T bits of V, the highest first. -/
def bitL (T V : Nat) : List Int := (List.range T).map fun j => ((V / 2 ^ (T - 1 - j) % 2 : Nat) : Int)
theorem bitL_length (T V : Nat) : (bitL T V).length = T := by simp [bitL]
theorem bitL_succ (T V b : Nat) (hb : b < 2) : bitL (T + 1) (2 * V + b) = bitL T V ++ [(b : Int)] := by
  unfold bitL
  rw [List.range_succ, List.map_append]
  congr 1
  · refine List.map_congr_left (fun i hi => ?_)
    have hi := List.mem_range.1 hi
    rw [show T + 1 - 1 - i = (T - 1 - i) + 1 by omega, Nat.pow_succ, Nat.mul_comm (2 ^ (T - 1 - i)) 2, ← Nat.div_div_eq_div_mul, show (2 * V + b) / 2 = V by omega]
  · simp; omega
theorem bitL_get (T V j : Nat) (h : j < T) : (bitL T V)[j]? = some ((V / 2 ^ (T - 1 - j) % 2 : Nat) : Int) := by simp [bitL, h]
/-- A number's bits are put behind: r of d are there. -/
def valR (d V v j : Nat) : Nat := V * 2 ^ (d - j) + v / 2 ^ j
theorem valR_step (d V v m : Nat) (h : m < d) : valR d V v m = 2 * valR d V v (m + 1) + v / 2 ^ m % 2 := by
  unfold valR
  rw [show d - m = (d - (m + 1)) + 1 by omega, Nat.pow_succ, Nat.pow_succ, ← Nat.div_div_eq_div_mul, ← Nat.mul_assoc]
  generalize V * 2 ^ (d - (m + 1)) = A
  generalize v / 2 ^ m = B
  omega
theorem valR_start (d V v : Nat) (hv : v < 2 ^ d) : valR d V v d = V := by
  unfold valR; rw [Nat.div_eq_of_lt hv, Nat.sub_self]; omega
theorem valR_end (d V v : Nat) : valR d V v 0 = V * 2 ^ d + v := by unfold valR; simp
/-- One more bit of a number, from above. -/
theorem bit_step (X m k : Nat) : X / 2 ^ m % 2 ^ (k + 1) = 2 * (X / 2 ^ (m + 1) % 2 ^ k) + X / 2 ^ m % 2 := by
  rw [Nat.pow_succ 2 m, ← Nat.div_div_eq_div_mul, Nat.pow_succ, Nat.mul_comm (2 ^ k), Nat.mod_mul]
  omega
theorem bit_in (V T p j : Nat) (h : j < T) : V * 2 ^ p / 2 ^ (T + p - 1 - j) % 2 = V / 2 ^ (T - 1 - j) % 2 := by
  rw [show T + p - 1 - j = p + (T - 1 - j) by omega, Nat.pow_add, ← Nat.div_div_eq_div_mul, Nat.mul_div_cancel _ (Nat.two_pow_pos _)]
theorem bit_out (V p m : Nat) (h : m < p) : V * 2 ^ p / 2 ^ m % 2 = 0 := by
  rw [show p = (p - m - 1) + 1 + m by omega, Nat.pow_add, ← Nat.mul_assoc, Nat.mul_div_cancel _ (Nat.two_pow_pos _), Nat.pow_succ, ← Nat.mul_assoc]
  omega
/-- Bytes, one after the other. -/
theorem byte_next (X N j : Nat) (h : j < N) : beL j (X / 2 ^ (8 * (N - j))) ++ [UInt8.ofNat (X / 2 ^ (8 * (N - j) - 8) % 2 ^ 8)] = beL (j + 1) (X / 2 ^ (8 * (N - (j + 1)))) := by
  rw [beL_succ, show 8 * (N - (j + 1)) = 8 * (N - j) - 8 by omega, div_256 X _ (by omega)]
  congr 2
  exact u8_mod (by rw [show (2 : Nat) ^ 8 = 256 from rfl, Nat.mod_mod])
theorem and1n (b : Nat) : bits .and .i64 (b : Int) 1 = ((b % 2 : Nat) : Int) := by
  have h : bits .and .i64 (b : Int) 1 = IntKind.i64.wrap ((((b : Int) % 2 ^ 64).toNat &&& 1 : Nat) : Int) := by
    simp only [bits]
    congr 2
  rw [h, Nat.and_two_pow_sub_one_eq_mod _ 1, IntKind.wrap_i64]
  omega
end Go.Proofs.HK

/- Numbers put side by side into bytes: plain. No program in sight. -/
import Derived.Test.YtdbbkdlocmafgaaK
namespace Go.Proofs.HK
open Go.RowKit

theorem w64i (n : Int) (h0 : 0 ≤ n) (h1 : n ≤ 9223372036854775807) : wrap64 n = n := by unfold wrap64; omega
/-- The numbers as one, d bits each. -/
def valP (d : Nat) (xs : List Nat) : Nat := xs.foldl (fun V v => V * 2 ^ d + v) 0
theorem valP_snoc (d : Nat) (xs : List Nat) (v : Nat) : valP d (xs ++ [v]) = valP d xs * 2 ^ d + v := by simp [valP]
/-- The last N bytes of a number, the highest first. -/
def beL (N X : Nat) : List UInt8 := (List.range N).map fun i => UInt8.ofNat (X / 256 ^ (N - 1 - i))
theorem beL_length (N X : Nat) : (beL N X).length = N := by simp [beL]
theorem beL_succ (N X : Nat) : beL (N + 1) X = beL N (X / 256) ++ [UInt8.ofNat X] := by
  unfold beL
  rw [List.range_succ, List.map_append]
  congr 1
  · refine List.map_congr_left (fun i hi => ?_)
    have hi := List.mem_range.1 hi
    rw [show N + 1 - 1 - i = (N - 1 - i) + 1 by omega, Nat.pow_succ, Nat.mul_comm, ← Nat.div_div_eq_div_mul]
  · simp
def packB (d : Nat) (xs : List Nat) : List UInt8 := beL ((d * xs.length + 7) / 8) (valP d xs * 2 ^ ((8 - d * xs.length % 8) % 8))
theorem mod_shr (X m n : Nat) (h : n + 8 ≤ m) : X % 2 ^ m / 2 ^ n % 256 = X / 2 ^ n % 256 := by
  have e : (2 : Nat) ^ m = 2 ^ n * 2 ^ (m - n) := by rw [← Nat.pow_add]; congr 1; omega
  rw [e, Nat.mod_mul_right_div_self]
  have e2 : (2 : Nat) ^ (m - n) = 256 * 2 ^ (m - n - 8) := by rw [show (256 : Nat) = 2 ^ 8 from rfl, ← Nat.pow_add]; congr 1; omega
  rw [e2, Nat.mod_mul_right_mod]
theorem div_256 (X n : Nat) (h : 8 ≤ n) : X / 2 ^ (n - 8) / 256 = X / 2 ^ n := by
  rw [Nat.div_div_eq_div_mul, show (256 : Nat) = 2 ^ 8 from rfl, ← Nat.pow_add]
  congr 2; omega
theorem mod_join (V v d n : Nat) (hv : v < 2 ^ d) : (V * 2 ^ d + v) % 2 ^ (n + d) = V % 2 ^ n * 2 ^ d + v := by
  rw [Nat.pow_add, Nat.mul_comm (2 ^ n), Nat.mod_mul, Nat.mul_comm V, Nat.mul_add_mod, Nat.mod_eq_of_lt hv, Nat.mul_add_div (Nat.two_pow_pos d), Nat.div_eq_of_lt hv, Nat.add_zero]
  rw [Nat.mul_comm (2 ^ d)]
  omega
theorem div_join (V v d n : Nat) (hv : v < 2 ^ d) : (V * 2 ^ d + v) / 2 ^ (n + d) = V / 2 ^ n := by
  rw [Nat.pow_add, Nat.mul_comm (2 ^ n), ← Nat.div_div_eq_div_mul, Nat.mul_comm V, Nat.mul_add_div (Nat.two_pow_pos d), Nat.div_eq_of_lt hv, Nat.add_zero]
theorem pad_div (V n : Nat) (h0 : 0 < n) (h : n ≤ 8) : V * 2 ^ (8 - n) / 256 = V / 2 ^ n := by
  have e : (256 : Nat) = 2 ^ (8 - n) * 2 ^ n := by rw [← Nat.pow_add, show 8 - n + n = 8 by omega]
  rw [e, ← Nat.div_div_eq_div_mul, Nat.mul_div_cancel _ (Nat.two_pow_pos _)]
theorem pad_mod (V n : Nat) (h : n ≤ 8) : V % 2 ^ n * 2 ^ (8 - n) % 256 = V * 2 ^ (8 - n) % 256 := by
  have e : (256 : Nat) = 2 ^ n * 2 ^ (8 - n) := by rw [← Nat.pow_add, show n + (8 - n) = 8 by omega]
  rw [e, Nat.mul_mod_mul_right, Nat.mul_mod_mul_right, Nat.mod_mod]
theorem u8_mod {a b : Nat} (h : a % 256 = b % 256) : UInt8.ofNat a = UInt8.ofNat b := by
  apply UInt8.toNat_inj.1
  simp only [UInt8.toNat_ofNat']
  exact h
/-- A number's byte moves on. -/
theorem step_byte (V q n m : Nat) (h8 : 8 ≤ n) (hm : n ≤ m) : beL q (V / 2 ^ n) ++ [UInt8.ofNat (V % 2 ^ m / 2 ^ (n - 8))] = beL (q + 1) (V / 2 ^ (n - 8)) := by
  rw [beL_succ, div_256 V n h8]
  congr 2
  exact u8_mod (mod_shr V m (n - 8) (by omega))
theorem last_byte (V q n : Nat) (h0 : 0 < n) (h : n < 8) : beL q (V / 2 ^ n) ++ [UInt8.ofNat (V % 2 ^ n * 2 ^ (8 - n))] = beL (q + 1) (V * 2 ^ (8 - n)) := by
  rw [beL_succ, pad_div V n h0 (by omega)]
  congr 2
  exact u8_mod (pad_mod V n (by omega))
theorem pack_end0 (d : Nat) (xs : List Nat) (q : Nat) (h : d * xs.length = 8 * q + 0) : packB d xs = beL q (valP d xs / 2 ^ 0) := by
  unfold packB
  rw [h, show (8 * q + 0 + 7) / 8 = q by omega, show (8 - (8 * q + 0) % 8) % 8 = 0 by omega]
  simp
theorem pack_end (d : Nat) (xs : List Nat) (q n : Nat) (h0 : 0 < n) (h8 : n < 8) (h : d * xs.length = 8 * q + n) : packB d xs = beL (q + 1) (valP d xs * 2 ^ (8 - n)) := by
  unfold packB
  rw [h, show (8 * q + n + 7) / 8 = q + 1 by omega, show (8 - (8 * q + n) % 8) % 8 = 8 - n by omega]
theorem and_mask (h n : Nat) (hh : h < 2 ^ 62) (hn : n ≤ 40) : bits .and .i64 (h : Int) (((2 ^ n : Nat) : Int) - 1) = ((h % 2 ^ n : Nat) : Int) := by
  have hp : 2 ^ n ≤ 2 ^ 40 := Nat.pow_le_pow_right (by decide) hn
  have h1 : 1 ≤ 2 ^ n := Nat.one_le_two_pow
  have e : (((2 ^ n : Nat) : Int) - 1) = ((2 ^ n - 1 : Nat) : Int) := by
    rw [Int.ofNat_sub h1]; rfl
  rw [e]
  have hm : h % 2 ^ n ≤ h := Nat.mod_le _ _
  have hb : (2 ^ n - 1) < 2 ^ 62 := by
    have : (2 : Nat) ^ 40 < 2 ^ 62 := by decide
    omega
  have hlaw : bits .and .i64 (h : Int) ((2 ^ n - 1 : Nat) : Int) = IntKind.i64.wrap ((((h : Int) % 2 ^ 64).toNat &&& (((2 ^ n - 1 : Nat) : Int) % 2 ^ 64).toNat : Nat) : Int) := rfl
  have e1 : ((h : Int) % 2 ^ 64).toNat = h := by
    have : (2 : Nat) ^ 62 < 2 ^ 64 := by decide
    rw [Int.emod_eq_of_lt (by omega) (by omega)]; rfl
  have e2 : (((2 ^ n - 1 : Nat) : Int) % 2 ^ 64).toNat = 2 ^ n - 1 := by
    have : (2 : Nat) ^ 62 < 2 ^ 64 := by decide
    generalize 2 ^ n - 1 = m at *
    rw [Int.emod_eq_of_lt (by omega) (by omega)]; rfl
  rw [hlaw, e1, e2, Nat.and_two_pow_sub_one_eq_mod]
  generalize h % 2 ^ n = m at *
  exact w64 _ (by omega) (by omega)
theorem B_ofNat (y : Nat) : B (UInt8.ofNat y) = .int .u8 ((y : Int) % 256) := by
  unfold B
  congr 1
theorem B_ofNat2 (y : Nat) (h : y < 256) : B (UInt8.ofNat y) = .int .u8 (y : Int) := by
  rw [B_ofNat, Int.emod_eq_of_lt (by omega) (by omega)]
end Go.Proofs.HK

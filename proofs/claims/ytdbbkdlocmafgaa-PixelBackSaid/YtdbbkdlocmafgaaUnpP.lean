/- Numbers of bits out of bytes, plain: what Unpack reads. -/
import Derived.Test.YtdbbkdlocmafgaaRPackP
import Derived.Test.YtdbbkdlocmafgaaPx2
namespace Go.Proofs.Ytdbbkdlocmafgaa
open Go.RowKit Go.Proofs.HK
set_option linter.unusedVariables false

def byN (bs : List UInt8) (j : Nat) : Nat := (bs.getD j 0).toNat
def bitN (bs : List UInt8) (p : Nat) : Nat := byN bs (p / 8) / 2 ^ (7 - p % 8) % 2
/-- The number of k bits from bit s on. -/
def rdN (bs : List UInt8) (s : Nat) : Nat → Nat
  | 0 => 0
  | k + 1 => 2 * rdN bs s k + bitN bs (s + k)
theorem byN_lt (bs : List UInt8) (j : Nat) : byN bs j < 256 := by unfold byN; exact UInt8.toNat_lt _
theorem rdN_in (bs : List UInt8) (s k : Nat) (h : s % 8 + k ≤ 8) : rdN bs s k = byN bs (s / 8) / 2 ^ (8 - k - s % 8) % 2 ^ k := by
  induction k with
  | zero => simp [rdN, Nat.mod_one]
  | succ k ih =>
    unfold rdN bitN
    rw [ih (by omega), show (s + k) / 8 = s / 8 by omega, show 8 - k - s % 8 = 8 - (k + 1) - s % 8 + 1 by omega, show 7 - (s + k) % 8 = 8 - (k + 1) - s % 8 by omega]
    exact (bit_step _ _ _).symm
theorem rdN_add (bs : List UInt8) (s k j : Nat) : rdN bs s (k + j) = rdN bs s k * 2 ^ j + rdN bs (s + k) j := by
  induction j with
  | zero => simp [rdN]
  | succ j ih =>
    show 2 * rdN bs s (k + j) + bitN bs (s + (k + j)) = _
    rw [ih, show s + (k + j) = s + k + j by omega]
    show _ = rdN bs s k * 2 ^ (j + 1) + (2 * rdN bs (s + k) j + bitN bs (s + k + j))
    rw [Nat.pow_succ, Nat.mul_add, ← Nat.mul_assoc, Nat.mul_comm 2 (rdN bs s k), Nat.mul_assoc, Nat.mul_comm 2 (2 ^ j)]
    omega
theorem rdN_16 (bs : List UInt8) (i : Nat) : rdN bs (i * 16) 16 = byN bs (2 * i) * 256 + byN bs (2 * i + 1) := by
  rw [show (16 : Nat) = 8 + 8 from rfl, rdN_add, rdN_in bs _ 8 (by omega), rdN_in bs _ 8 (by omega), show i * (8 + 8) / 8 = 2 * i by omega, show (i * (8 + 8) + 8) / 8 = 2 * i + 1 by omega,
    show 8 - 8 - i * (8 + 8) % 8 = 0 by omega, show 8 - 8 - (i * (8 + 8) + 8) % 8 = 0 by omega]
  have h1 := byN_lt bs (2 * i)
  have h2 := byN_lt bs (2 * i + 1)
  simp only [Nat.pow_zero, Nat.div_one]
  rw [Nat.mod_eq_of_lt (by omega), Nat.mod_eq_of_lt (by omega)]
theorem rdN_lt (bs : List UInt8) (s k : Nat) : rdN bs s k < 2 ^ k := by
  induction k with
  | zero => simp [rdN]
  | succ k ih =>
    unfold rdN
    have : bitN bs (s + k) < 2 := by unfold bitN; omega
    rw [Nat.pow_succ]; omega
/-- What Unpack answers. -/
def unpE (bs : List UInt8) (d n : Int) : Int := if depB d = false ∨ n < 0 then 1 else if n > (bs.length : Int) * 8 / d then 2 else 0
def unpV (bs : List UInt8) (d n : Int) : List Int := if unpE bs d n = 0 then (List.range n.toNat).map fun i => ((rdN bs (i * d.toNat) d.toNat : Nat) : Int) else []
end Go.Proofs.Ytdbbkdlocmafgaa

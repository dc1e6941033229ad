/- Tokens, plainly. No program in sight. -/
import Derived.Test.YtamkfjbdcjkchaaCrcP
import Derived.Test.YtamkfjbdcjkchaaMem
namespace Go.Proofs.HK
open Go.RowKit

/-- Bytes with their sum behind them. -/
def sealB (l : List UInt8) : List UInt8 := l ++ putLE 4 (crcOf l : Int)
theorem sealB_length (l : List UInt8) : (sealB l).length = l.length + 4 := by simp [sealB, putLE_length]
def tokO (F : Int) (S : Nat) (D : List UInt8) : List UInt8 := byteOf F :: (putBE 4 (S : Int) ++ (putBE 4 (D.length : Int) ++ D))
theorem tokO_length (F : Int) (S : Nat) (D : List UInt8) : (tokO F S D).length = D.length + 9 := by simp [tokO, putBE_length]; omega
theorem tokO_flat (F : Int) (S : Nat) (D : List UInt8) : [[byteOf F], putBE 4 (S : Int), putBE 4 (D.length : Int), D].flatten = tokO F S D := by simp [tokO]
def tokE (F : Int) (n : Nat) : Int := if 0 ≤ F ∧ F < 16 ∧ n ≤ 1048576 then 0 else 1
def tokB (F : Int) (S : Nat) (D : List UInt8) : List UInt8 := if tokE F D.length = 0 then sealB (tokO F S D) else []
/-- What is read: why not, and what. -/
def trdF (bs : List UInt8) : Int := (rdB bs 0).toNat
def trdS (bs : List UInt8) : Nat := be ((bs.drop 1).take 4)
def trdN (bs : List UInt8) : Nat := be ((bs.drop 5).take 4)
def trdD (bs : List UInt8) : List UInt8 := (bs.take (bs.length - 4)).drop 9
def trdE (bs : List UInt8) : Int :=
  if bs.length < 13 then 2
  else if crcOf (bs.take (bs.length - 4)) ≠ le (bs.drop (bs.length - 4)) then 4
  else if trdF bs < 16 ∧ trdN bs ≤ 1048576 ∧ trdN bs = bs.length - 13 then 0 else 3
structure TokS where
  F : Int
  S : Nat
  D : List UInt8
def trdT (bs : List UInt8) : TokS := if trdE bs = 0 then ⟨trdF bs, trdS bs, trdD bs⟩ else ⟨0, 0, []⟩
theorem trdS_lt (bs : List UInt8) : trdS bs < 4294967296 := by
  have h := be_lt ((bs.drop 1).take 4)
  have h2 : ((bs.drop 1).take 4).length ≤ 4 := List.length_take_le _ _
  have h3 : 256 ^ ((bs.drop 1).take 4).length ≤ 256 ^ 4 := Nat.pow_le_pow_right (by omega) h2
  unfold trdS; omega
theorem trdN_lt (bs : List UInt8) : trdN bs < 4294967296 := by
  have h := be_lt ((bs.drop 5).take 4)
  have h2 : ((bs.drop 5).take 4).length ≤ 4 := List.length_take_le _ _
  have h3 : 256 ^ ((bs.drop 5).take 4).length ≤ 256 ^ 4 := Nat.pow_le_pow_right (by omega) h2
  unfold trdN; omega
theorem be_putBE (n V : Nat) : be (putBE n (V : Int)) = V % 256 ^ n := by
  have h := le_eq_be (putLE n (V : Int))
  unfold putBE
  rw [← h, le_putLE]
theorem byteOf_small {F : Int} (h0 : 0 ≤ F) (h1 : F < 256) : ((byteOf F).toNat : Int) = F := by rw [byteOf_toNat]; omega
theorem putBE_be : ∀ (l : List UInt8), putBE l.length (be l : Int) = l := by
  intro l
  have h : ∀ m : List UInt8, putLE m.length (le m : Int) = m := fun m => le_inj _ _ (putLE_length _ _) (by rw [le_putLE, ← pow8]; exact Nat.mod_eq_of_lt (by rw [pow8]; exact le_lt m))
  have h2 := h l.reverse
  rw [List.length_reverse, le_eq_be, List.reverse_reverse] at h2
  unfold putBE
  rw [h2, List.reverse_reverse]
theorem putLE_le (l : List UInt8) : putLE l.length (le l : Int) = l := le_inj _ _ (putLE_length _ _) (by rw [le_putLE, ← pow8]; exact Nat.mod_eq_of_lt (by rw [pow8]; exact le_lt l))
end Go.Proofs.HK

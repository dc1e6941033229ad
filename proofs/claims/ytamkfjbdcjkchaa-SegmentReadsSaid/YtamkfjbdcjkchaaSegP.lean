/- Messages, plainly: how they are written, how they are read, and that the two fit. -/
import Derived.Test.YtamkfjbdcjkchaaOct
import Derived.Test.YtamkfjbdcjkchaaTokP
namespace Go.Proofs.Ytamkfjbdcjkchaa
open Go.RowKit Go.Proofs.HK
set_option linter.unusedVariables false

structure MsgS where
  K : Int
  U : Nat
  F : Int
  S : Nat
  Z : Int
  P : Int
  Y : Int
  X : Int
  Q : Int
  C : Int
  R : List (Int × Int)
  D : List UInt8
deriving DecidableEq

def rgParts (R : List (Int × Int)) : List (List UInt8) := R.flatMap fun r => [putBE 4 r.1, putBE 4 r.2]
def segParts (m : MsgS) : List (List UInt8) :=
  if m.K = 1 then [putBE 1 m.F, putBE 4 (m.S : Int), putBE 4 m.P]
  else if m.K = 2 then [putBE 1 m.F, putBE 4 (m.S : Int), putBE 4 m.Z, putBE 4 m.P, putBE 2 m.Y]
  else if m.K = 3 then [putBE 4 m.X, putBE 1 m.Q, m.D]
  else if m.K = 4 then [putBE 4 m.X, putBE 1 (m.R.length : Int)] ++ rgParts m.R
  else [putBE 1 m.F, putBE 1 m.C]
def segO (m : MsgS) : List UInt8 := ([putBE 1 m.K, putBE 4 (m.U : Int)] ++ segParts m).flatten

/-- Ranges, each behind the one ahead. -/
def chainB : Int → List (Int × Int) → Bool
  | _, [] => true
  | a, r :: l => decide (a < r.1) && decide (r.1 < r.2) && decide (r.2 ≤ 2147483647) && chainB r.2 l
def lastA : Int → List (Int × Int) → Int
  | a, [] => a
  | _, r :: l => lastA r.2 l
theorem chainB_snoc (r : Int × Int) : ∀ (l : List (Int × Int)) (a : Int), chainB a (l ++ [r]) = (chainB a l && (decide (lastA a l < r.1) && decide (r.1 < r.2) && decide (r.2 ≤ 2147483647)))
  | [], a => by show (_ && true) = (true && _); rw [Bool.and_true, Bool.true_and]; rfl
  | s :: l, a => by
    show (_ && chainB s.2 (l ++ [r])) = _
    rw [chainB_snoc r l s.2, ← Bool.and_assoc]
    rfl
theorem lastA_snoc (r : Int × Int) : ∀ (l : List (Int × Int)) (a : Int), lastA a (l ++ [r]) = r.2
  | [], _ => rfl
  | s :: l, _ => lastA_snoc r l s.2
def base0 (m : MsgS) : Bool := decide (0 ≤ m.F ∧ m.F ≤ 15 ∧ 0 ≤ m.P ∧ m.P ≤ 1048576 ∧ 0 ≤ m.X ∧ m.X ≤ 2147483647 ∧ 0 ≤ m.Q ∧ m.Q ≤ 8 ∧ 0 ≤ m.C ∧ m.C ≤ 255 ∧ m.R.length ≤ 4 ∧ m.D.length ≤ 1024)
def base1 (m : MsgS) : Bool :=
  if m.K = 2 then decide (1 ≤ m.Z ∧ m.P ≤ m.Z ∧ m.Z ≤ 1048576 ∧ 1 ≤ m.Y ∧ m.Y ≤ 1024) else if m.K = 3 then decide (0 < m.D.length) else true
def rangedB (m : MsgS) : Bool := base0 m && base1 m && chainB m.X m.R
def kindB (k : Int) : Bool := decide (1 ≤ k ∧ k ≤ 5)
def plainS (m : MsgS) : MsgS :=
  if m.K = 1 then ⟨m.K, m.U, m.F, m.S, 0, m.P, 0, 0, 0, 0, [], []⟩
  else if m.K = 2 then ⟨m.K, m.U, m.F, m.S, m.Z, m.P, m.Y, 0, 0, 0, [], []⟩
  else if m.K = 3 then ⟨m.K, m.U, 0, 0, 0, 0, 0, m.X, m.Q, 0, [], m.D⟩
  else if m.K = 4 then ⟨m.K, m.U, 0, 0, 0, 0, 0, m.X, 0, 0, m.R, []⟩
  else if m.K = 5 then ⟨m.K, m.U, m.F, 0, 0, 0, 0, 0, 0, m.C, [], []⟩
  else ⟨m.K, m.U, 0, 0, 0, 0, 0, 0, 0, 0, [], []⟩
def mayB (m : MsgS) : Bool := kindB m.K && decide (m = plainS m) && rangedB m

/-! ### What a reader does -/
structure CS where
  p : Nat
  e : Int
def nb (o : List UInt8) (s : CS) (n : Int) : Int := numB o s.p s.e n
def nx (o : List UInt8) (s : CS) (n : Int) : CS := ⟨numP o s.p s.e n, numE o s.p s.e n⟩
def bb (o : List UInt8) (s : CS) (n : Int) : List UInt8 := byB o s.p s.e n
def bx (o : List UInt8) (s : CS) (n : Int) : CS := ⟨byP o s.p s.e n, byE o s.p s.e n⟩
def lf (o : List UInt8) (s : CS) : Int := leftS o s.p s.e
/-- n ranges are read. -/
def rgS (o : List UInt8) (s : CS) : Nat → CS
  | 0 => s
  | n + 1 => nx o (nx o (rgS o s n) 4) 4
def rgR (o : List UInt8) (s : CS) : Nat → List (Int × Int)
  | 0 => []
  | n + 1 => rgR o s n ++ [(nb o (rgS o s n) 4, nb o (nx o (rgS o s n) 4) 4)]
def rdS (o : List UInt8) (k : Int) (s : CS) : CS :=
  if k = 1 then nx o (nx o (nx o s 1) 4) 4
  else if k = 2 then nx o (nx o (nx o (nx o (nx o s 1) 4) 4) 4) 2
  else if k = 3 then bx o (nx o (nx o s 4) 1) (lf o (nx o (nx o s 4) 1))
  else if k = 4 then rgS o (nx o (nx o s 4) 1) (nb o (nx o s 4) 1).toNat
  else if k = 5 then nx o (nx o s 1) 1 else s
def rdMs (o : List UInt8) (k : Int) (u : Nat) (s : CS) : MsgS :=
  if k = 1 then ⟨k, u, nb o s 1, (nb o (nx o s 1) 4).toNat, 0, nb o (nx o (nx o s 1) 4) 4, 0, 0, 0, 0, [], []⟩
  else if k = 2 then ⟨k, u, nb o s 1, (nb o (nx o s 1) 4).toNat, nb o (nx o (nx o s 1) 4) 4, nb o (nx o (nx o (nx o s 1) 4) 4) 4, nb o (nx o (nx o (nx o (nx o s 1) 4) 4) 4) 2, 0, 0, 0, [], []⟩
  else if k = 3 then ⟨k, u, 0, 0, 0, 0, 0, nb o s 4, nb o (nx o s 4) 1, 0, [], bb o (nx o (nx o s 4) 1) (lf o (nx o (nx o s 4) 1))⟩
  else if k = 4 then ⟨k, u, 0, 0, 0, 0, 0, nb o s 4, 0, 0, rgR o (nx o (nx o s 4) 1) (nb o (nx o s 4) 1).toNat, []⟩
  else if k = 5 then ⟨k, u, nb o s 1, 0, 0, 0, 0, 0, 0, nb o (nx o s 1) 1, [], []⟩
  else ⟨k, u, 0, 0, 0, 0, 0, 0, 0, 0, [], []⟩
def kO (o : List UInt8) : Int := nb o ⟨0, 0⟩ 1
def uO (o : List UInt8) : Nat := (nb o (nx o ⟨0, 0⟩ 1) 4).toNat
def s2O (o : List UInt8) : CS := nx o (nx o ⟨0, 0⟩ 1) 4
def mO (o : List UInt8) : MsgS := rdMs o (kO o) (uO o) (s2O o)
def eO (o : List UInt8) : CS := rdS o (kO o) (s2O o)
def prB (o : List UInt8) : Bool := kindB (kO o) && decide ((eO o).e = 0) && !decide (0 < lf o (eO o)) && rangedB (mO o)

def zeroM : MsgS := ⟨0, 0, 0, 0, 0, 0, 0, 0, 0, 0, [], []⟩
/-- What Read answers. -/
def srdE (bs : List UInt8) : Int :=
  if bs.length < 9 then 2 else if crcOf (bs.take (bs.length - 4)) ≠ le (bs.drop (bs.length - 4)) then 4 else if prB (bs.take (bs.length - 4)) then 0 else 3
def srdM (bs : List UInt8) : MsgS := if srdE bs = 0 then mO (bs.take (bs.length - 4)) else zeroM
/-- What Write answers. -/
def swrE (m : MsgS) : Int := if kindB m.K && rangedB m && prB (segO m) && decide (mO (segO m) = m) then 0 else 1
def swrB (m : MsgS) : List UInt8 := if swrE m = 0 then sealB (segO m) else []

/-! ### One number -/
theorem num_atS {o : List UInt8} {p k : Nat} (h1 : 1 ≤ k) (h4 : k ≤ 4) (h : p + k ≤ o.length) : nb o ⟨p, 0⟩ (k : Int) = (be ((o.drop p).take k) : Nat) ∧ nx o ⟨p, 0⟩ (k : Int) = ⟨p + k, 0⟩ := by
  have hf : fitsS o.length (p : Int) (k : Int) = 0 := by
    unfold fitsS
    rw [if_neg (by omega), if_neg (by omega)]
  refine ⟨?_, ?_⟩
  · unfold nb numB bigS
    rw [if_pos rfl, if_pos hf, if_pos hf]
    rfl
  · unfold nx numP numE
    rw [if_pos ⟨rfl, hf⟩, if_pos rfl, hf]
    simp
theorem nx_inv {o : List UInt8} {s : CS} {k : Nat} (h : (nx o s (k : Int)).e = 0) : s.e = 0 ∧ s.p + k ≤ o.length ∧ (nx o s (k : Int)).p = s.p + k ∧ nb o s (k : Int) = (be ((o.drop s.p).take k) : Nat) := by
  unfold nx numE at h
  simp only at h
  by_cases he : s.e = 0
  · rw [if_pos he] at h
    obtain ⟨h1, h2, h3, h4⟩ := fitsS_0 h
    refine ⟨he, by omega, ?_, ?_⟩
    · unfold nx numP; simp only; rw [if_pos ⟨he, h⟩]; simp
    · unfold nb numB bigS
      rw [if_pos he, if_pos h, if_pos h]; simp
  · rw [if_neg he] at h; exact absurd h he
theorem nb_bd (o : List UInt8) (s : CS) (n : Int) : 0 ≤ nb o s n ∧ nb o s n < 4294967296 := by
  unfold nb numB bigS
  split
  · split
    · rename_i h
      obtain ⟨h1, h2, h3, h4⟩ := fitsS_0 h
      have h5 := be_lt ((o.drop s.p).take n.toNat)
      have h6 : ((o.drop s.p).take n.toNat).length ≤ 4 := by rw [List.length_take]; omega
      have h7 : 256 ^ ((o.drop s.p).take n.toNat).length ≤ 256 ^ 4 := Nat.pow_le_pow_right (by omega) h6
      simp only [Int.toNat_natCast]
      omega
    · omega
  · omega
theorem nb1_bd (o : List UInt8) (s : CS) : 0 ≤ nb o s 1 ∧ nb o s 1 < 256 := by
  unfold nb numB bigS
  split
  · split
    · have h5 := be_lt ((o.drop s.p).take (1 : Int).toNat)
      have h6 : ((o.drop s.p).take (1 : Int).toNat).length ≤ 1 := by rw [List.length_take]; simp; omega
      have h7 : 256 ^ ((o.drop s.p).take (1 : Int).toNat).length ≤ 256 ^ 1 := Nat.pow_le_pow_right (by omega) h6
      simp only [Int.toNat_natCast]
      omega
    · omega
  · omega
end Go.Proofs.Ytamkfjbdcjkchaa

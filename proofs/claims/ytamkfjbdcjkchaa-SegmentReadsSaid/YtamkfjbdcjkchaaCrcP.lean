/- CRC-32, plainly: a sum is a number that is shifted bit by bit; some bits within 32 that are turned are found. No program in sight. -/
import Derived.Test.YtamkfjbdcjkchaaRef1P
namespace Go.Proofs.HK
set_option linter.unusedSimpArgs false

/-- One bit. -/
def cb (x : Nat) : Nat := if x % 2 = 1 then (x / 2) ^^^ 3988292384 else x / 2
def cbN : Nat → Nat → Nat
  | 0, x => x
  | k + 1, x => cbN k (cb x)
/-- One byte. -/
def cB (x c : Nat) : Nat := cbN 8 (x ^^^ c)
def crcX (x : Nat) (l : List UInt8) : Nat := l.foldl (fun x c => cB x c.toNat) x
theorem crcX_nil (x : Nat) : crcX x [] = x := List.foldl_nil
theorem crcX_cons (x : Nat) (c : UInt8) (l : List UInt8) : crcX x (c :: l) = crcX (cB x c.toNat) l := List.foldl_cons
def crcM (s : Nat) (l : List UInt8) : Nat := 4294967295 - crcX (4294967295 - s) l
def crcOf (l : List UInt8) : Nat := crcM 0 l

theorem cbN_snoc (k x : Nat) : cbN (k + 1) x = cb (cbN k x) := by
  induction k generalizing x with
  | zero => rfl
  | succ k ih => rw [cbN, ih, cbN]
theorem cbN_add (k j x : Nat) : cbN (k + j) x = cbN j (cbN k x) := by
  induction k generalizing x with
  | zero => simp [cbN]
  | succ k ih => rw [Nat.succ_add, cbN, ih, cbN]
theorem crcX_snoc (x : Nat) (l : List UInt8) (c : UInt8) : crcX x (l ++ [c]) = cB (crcX x l) c.toNat := by
  unfold crcX
  simp only [List.foldl_append, List.foldl_cons, List.foldl_nil]
theorem crcX_append (x : Nat) (l m : List UInt8) : crcX x (l ++ m) = crcX (crcX x l) m := by
  unfold crcX
  simp only [List.foldl_append, List.foldl_cons, List.foldl_nil]

theorem xor_lt32 {a b : Nat} (ha : a < 4294967296) (hb : b < 4294967296) : a ^^^ b < 4294967296 := Nat.xor_lt_two_pow (n := 32) ha hb
theorem cb_lt {x : Nat} (h : x < 4294967296) : cb x < 4294967296 := by
  unfold cb
  split
  · exact xor_lt32 (by omega) (by omega)
  · omega
theorem cbN_lt (k : Nat) {x : Nat} (h : x < 4294967296) : cbN k x < 4294967296 := by
  induction k generalizing x with
  | zero => exact h
  | succ k ih => exact ih (cb_lt h)
theorem crcX_lt (l : List UInt8) {x : Nat} (h : x < 4294967296) : crcX x l < 4294967296 := by
  induction l generalizing x with
  | nil => rw [crcX_nil]; exact h
  | cons d l ih => rw [crcX_cons]; exact ih (cbN_lt 8 (xor_lt32 h (by have := d.toNat_lt; omega)))

theorem xor_mod2 (a b : Nat) : (a ^^^ b) % 2 = (a % 2 + b % 2) % 2 := by
  have h := Nat.xor_mod_two_pow (a := a) (b := b) (n := 1)
  simp only [Nat.pow_one] at h
  rw [h]
  rcases Nat.mod_two_eq_zero_or_one a with h1 | h1 <;> rcases Nat.mod_two_eq_zero_or_one b with h2 | h2 <;> rw [h1, h2] <;> rfl
theorem xor_div2 (a b : Nat) : (a ^^^ b) / 2 = a / 2 ^^^ b / 2 := by
  have h := Nat.xor_div_two_pow (a := a) (b := b) (n := 1)
  simpa using h
theorem xor_self' (a b : Nat) : (a ^^^ b) ^^^ b = a := by rw [Nat.xor_assoc, Nat.xor_self, Nat.xor_zero]
theorem xor_mid (a b p : Nat) : (a ^^^ p) ^^^ b = (a ^^^ b) ^^^ p := by rw [Nat.xor_assoc, Nat.xor_comm p b, ← Nat.xor_assoc]
theorem cb_odd {x : Nat} (h : x % 2 = 1) : cb x = x / 2 ^^^ 3988292384 := by unfold cb; rw [if_pos h]
theorem cb_even {x : Nat} (h : x % 2 = 0) : cb x = x / 2 := by unfold cb; rw [if_neg (by omega)]
theorem cb_xor (a b : Nat) : cb (a ^^^ b) = cb a ^^^ cb b := by
  rcases Nat.mod_two_eq_zero_or_one a with h1 | h1 <;> rcases Nat.mod_two_eq_zero_or_one b with h2 | h2
  · rw [cb_even (x := a ^^^ b) (by rw [xor_mod2, h1, h2]), cb_even h1, cb_even h2, xor_div2]
  · rw [cb_odd (x := a ^^^ b) (by rw [xor_mod2, h1, h2]), cb_even h1, cb_odd h2, xor_div2, Nat.xor_assoc]
  · rw [cb_odd (x := a ^^^ b) (by rw [xor_mod2, h1, h2]), cb_odd h1, cb_even h2, xor_div2, xor_mid]
  · rw [cb_even (x := a ^^^ b) (by rw [xor_mod2, h1, h2]), cb_odd h1, cb_odd h2, xor_div2, ← Nat.xor_assoc, xor_mid (a / 2) (b / 2), xor_self']
theorem cbN_xor (k a b : Nat) : cbN k (a ^^^ b) = cbN k a ^^^ cbN k b := by
  induction k generalizing a b with
  | zero => rfl
  | succ k ih => rw [cbN, cb_xor, ih]; rfl
theorem cb_two (y : Nat) : cb (2 * y) = y := by
  unfold cb
  rw [if_neg (by omega)]; omega
theorem cbN_pow (k y : Nat) : cbN k (2 ^ k * y) = y := by
  induction k generalizing y with
  | zero => simp [cbN]
  | succ k ih => rw [cbN, Nat.pow_succ', Nat.mul_assoc, cb_two, ih]
theorem cbN_zero (k : Nat) : cbN k 0 = 0 := by have := cbN_pow k 0; simpa using this
/-- Nothing but nought goes to nought. -/
theorem cb_eq0 {x : Nat} (h : x < 4294967296) (h0 : cb x = 0) : x = 0 := by
  unfold cb at h0
  split at h0
  · rename_i h1
    have h2 : x / 2 = 3988292384 := by
      have := xor_self' (x / 2) 3988292384
      rw [h0] at this
      simpa using this.symm
    omega
  · omega
theorem cbN_eq0 (k : Nat) {x : Nat} (h : x < 4294967296) (h0 : cbN k x = 0) : x = 0 := by
  induction k generalizing x with
  | zero => exact h0
  | succ k ih => exact cb_eq0 h (ih (cb_lt h) h0)
theorem or_xor (k c y : Nat) (hc : c < 2 ^ k) : c + 2 ^ k * y = c ^^^ 2 ^ k * y := by
  apply Nat.eq_of_testBit_eq
  intro i
  rw [Nat.testBit_xor, Nat.add_comm, Nat.testBit_two_pow_mul_add _ hc, Nat.testBit_two_pow_mul]
  by_cases h : i < k
  · simp [h, Nat.not_le.2 h]
  · have : c < 2 ^ i := Nat.lt_of_lt_of_le hc (Nat.pow_le_pow_right (by decide) (by omega))
    simp [h, Nat.not_lt.1 h, Nat.testBit_lt_two_pow this]
/-- All bytes together. -/
theorem crcX_eq (l : List UInt8) (x : Nat) : crcX x l = cbN (8 * l.length) (x ^^^ le l) := by
  induction l generalizing x with
  | nil => rw [crcX_nil]; simp [cbN, le]
  | cons c l ih =>
    have h1 : le (c :: l) = c.toNat ^^^ 2 ^ 8 * le l := or_xor 8 c.toNat (le l) c.toNat_lt
    rw [crcX_cons, ih, cB, show 8 * (c :: l).length = 8 + 8 * l.length by simp; omega, cbN_add, h1, ← Nat.xor_assoc, cbN_xor 8 (x ^^^ c.toNat), cbN_pow]

theorem compl32 {s : Nat} (h : s < 4294967296) : 4294967295 - s = s ^^^ 4294967295 := by
  have := Nat.testBit_two_pow_sub_succ (x := s) (n := 32) (by simpa using h)
  apply Nat.eq_of_testBit_eq
  intro i
  have h2 := this i
  rw [show 2 ^ 32 - (s + 1) = 4294967295 - s by omega] at h2
  rw [h2, Nat.testBit_xor, show 4294967295 = 2 ^ 32 - 1 from rfl, Nat.testBit_two_pow_sub_one]
  by_cases hi : i < 32
  · simp [hi]
  · have : s < 2 ^ i := Nat.lt_of_lt_of_le h (Nat.pow_le_pow_right (n := 2) (by decide) (show 32 ≤ i by omega))
    simp [hi, Nat.testBit_lt_two_pow this]
theorem crcM_lt (s : Nat) (l : List UInt8) : crcM s l < 4294967296 := by unfold crcM; omega
theorem le_lt2 (l : List UInt8) : le l < 2 ^ (8 * l.length) := by have := le_lt l; rwa [← pow8] at this
/-- A text with four bytes behind it has its right sum there: all its bits together are one number. -/
theorem sealed_iff (b s : List UInt8) (hs : s.length = 4) : crcOf b = le s ↔ cbN (8 * b.length) (4294967295 ^^^ le (b ++ s)) = 4294967295 := by
  have h4 : le s < 4294967296 := by have := le_lt s; rw [hs] at this; omega
  have hx : crcX 4294967295 b < 4294967296 := crcX_lt b (by omega)
  unfold crcOf crcM
  rw [Nat.sub_zero, le_append, ← pow8, or_xor _ _ _ (le_lt2 b), ← Nat.xor_assoc, cbN_xor, cbN_pow, ← crcX_eq, compl32 hx]
  constructor
  · intro h
    rw [← h, ← Nat.xor_assoc, Nat.xor_self, Nat.zero_xor]
  · intro h
    have e : le s = crcX 4294967295 b ^^^ (crcX 4294967295 b ^^^ le s) := by rw [← Nat.xor_assoc, Nat.xor_self, Nat.zero_xor]
    rw [e, h]

/-- Some bits within 32, from the bit at on, of a row of T bits. -/
def burst (T at_ by_ : Nat) : Nat := 2 ^ at_ * by_ % 2 ^ T
theorem burst_eq0 (n at_ by_ : Nat) (hby : by_ < 4294967296) (hat : at_ < 8 * n + 32) (h : cbN (8 * n) (burst (8 * n + 32) at_ by_) = 0) : burst (8 * n + 32) at_ by_ = 0 := by
  unfold burst at *
  by_cases hle : at_ ≤ 8 * n
  · have hlt : 2 ^ at_ * by_ < 2 ^ (8 * n + 32) := by
      have h1 : 2 ^ at_ * by_ < 2 ^ at_ * 2 ^ 32 := Nat.mul_lt_mul_of_pos_left hby (Nat.two_pow_pos _)
      rw [← Nat.pow_add] at h1
      exact Nat.lt_of_lt_of_le h1 (Nat.pow_le_pow_right (by decide) (by omega))
    rw [Nat.mod_eq_of_lt hlt] at h ⊢
    rw [show 8 * n = at_ + (8 * n - at_) by omega, cbN_add, cbN_pow] at h
    rw [cbN_eq0 _ hby h, Nat.mul_zero]
  · rw [show 2 ^ at_ * by_ = 2 ^ (8 * n) * (2 ^ (at_ - 8 * n) * by_) by rw [← Nat.mul_assoc, ← Nat.pow_add]; congr 2; omega, Nat.pow_add, Nat.mul_mod_mul_left] at h ⊢
    rw [cbN_pow] at h
    rw [h, Nat.mul_zero]
/-- Bytes of which some bits within 32 side by side are turned. -/
def turnedP (b : List UInt8) (at_ by_ : Nat) : List UInt8 := putLE b.length ((le b ^^^ burst (8 * b.length) at_ by_ : Nat) : Int)
theorem turnedP_length (b : List UInt8) (a y : Nat) : (turnedP b a y).length = b.length := putLE_length _ _
theorem le_turnedP (b : List UInt8) (a y : Nat) : le (turnedP b a y) = le b ^^^ burst (8 * b.length) a y := by
  unfold turnedP
  rw [le_putLE, ← pow8, Nat.mod_eq_of_lt]
  exact Nat.xor_lt_two_pow (le_lt2 b) (Nat.mod_lt _ (Nat.two_pow_pos _))
theorem le_inj : ∀ (a b : List UInt8), a.length = b.length → le a = le b → a = b
  | [], [], _, _ => rfl
  | [], _ :: _, h, _ => by simp at h
  | _ :: _, [], h, _ => by simp at h
  | x :: a, y :: b, h, he => by
    have hx := x.toNat_lt
    have hy := y.toNat_lt
    simp only [le] at he
    have h1 : x.toNat = y.toNat := by omega
    rw [le_inj a b (by simpa using h) (by omega), UInt8.toNat_inj.1 h1]
/-- A sealed text of which some bits within 32 are turned is sealed only if it is as it was. -/
theorem turned_sealed (b s : List UInt8) (hs : s.length = 4) (h : crcOf b = le s) (a y : Nat) (hy : y < 4294967296) (ha : a < 8 * (b ++ s).length) (b' s' : List UInt8) (hb' : b'.length = b.length) (hs' : s'.length = 4) (he : turnedP (b ++ s) a y = b' ++ s') :
    crcOf b' = le s' ↔ b' ++ s' = b ++ s := by
  have hlen : 8 * (b ++ s).length = 8 * b.length + 32 := by rw [List.length_append, hs]; omega
  constructor
  · intro h'
    rw [sealed_iff b s hs] at h
    rw [sealed_iff b' s' hs', ← he, le_turnedP, ← Nat.xor_assoc, cbN_xor, hb', h, hlen] at h'
    have h0 : cbN (8 * b.length) (burst (8 * b.length + 32) a y) = 0 := by
      have : 4294967295 ^^^ (4294967295 ^^^ cbN (8 * b.length) (burst (8 * b.length + 32) a y)) = 4294967295 ^^^ 4294967295 := by rw [h']
      rwa [← Nat.xor_assoc, Nat.xor_self, Nat.zero_xor] at this
    have hz := burst_eq0 b.length a y hy (by omega) h0
    rw [← he]
    exact le_inj _ _ (turnedP_length _ _ _) (by rw [le_turnedP, hlen, hz, Nat.xor_zero])
  · intro e
    have hl := List.append_inj e hb'
    rw [hl.1, hl.2]; exact h
end Go.Proofs.HK

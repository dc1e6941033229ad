/- What screen.Read does, plainly. -/
import Derived.Test.YtamkfjbdcjkchaaDoorSExt
import Derived.Test.YtamkfjbdcjkchaaDoorRef2
namespace Go.Proofs.YtamkfjbdcjkchaaDoor
open Go.RowKit Go.Proofs.HK
set_option linter.unusedVariables false
set_option linter.unusedSimpArgs false
attribute [local go_sem] max2_int min2_int max_two min_two
def magic : List UInt8 := [71, 73, 70, 56, 57, 97]
def lnN (o : List UInt8) (s : LS) (n : Int) : Int := numL o s.p s.e n
def lxN (o : List UInt8) (s : LS) (n : Int) : LS := ⟨numP o s.p s.e n, numE o s.p s.e n⟩
def flN (s : LS) (x : Int) : LS := ⟨s.p, failS s.e x⟩
def sizB (W H : Int) : Bool := decide (0 < W ∧ 0 < H ∧ W ≤ 2048 ∧ H ≤ 2048 ∧ W * H ≤ 65536)
/-- The extensions, and what stands behind them. -/
def partsS : Nat → List UInt8 → LS → Int → LS × Int
  | 0, _, s, c => (s, c)
  | f + 1, o, s, c =>
    if s.e ≠ 0 then (s, c)
    else if lnN o s 1 = 33 then partsS f o (exS o (lxN o s 1).p c).1 (exS o (lxN o s 1).p c).2
    else if lnN o s 1 = 44 then (lxN o s 1, c)
    else if lnN o s 1 = 59 then (flN (lxN o s 1) 16, c)
    else (flN (lxN o s 1) 3, c)
structure ScrS where
  W : Int
  H : Int
  T : List UInt8
  L : Bool
  C : Int
  I : Bool
  K : Int
deriving DecidableEq
def zeroScr : ScrS := ⟨0, 0, [], false, 0, false, 0⟩
/-- Behind the extensions. -/
def tailS (o : List UInt8) (W H : Int) (t1 : List UInt8) (s7 : LS) (cl : Int) : Int × ScrS × Nat :=
  let s8 := lxN o s7 2
  let s9 := lxN o s8 2
  let s10 := lxN o s9 2
  let s11 := lxN o s10 2
  let m2 := lnN o s11 1
  let s12 := lxN o s11 1
  let s13 := if s12.e ≠ 0 then s12 else if ¬ (lnN o s7 2 = 0 ∧ lnN o s8 2 = 0 ∧ lnN o s9 2 = W ∧ lnN o s10 2 = H) then flN s12 11 else if m2 < 128 ∧ t1 = [] then flN s12 12 else s12
  let t2 := tbB o s13 m2.toNat
  let s14 := tbX o s13 m2.toNat
  let k := lnN o s14 1
  let s15 := lxN o s14 1
  let s16 := if k < 2 ∨ 8 < k then flN s15 3 else s15
  if s16.e ≠ 0 then (s16.e, zeroScr, 0) else (0, ⟨W, H, if t2 = [] then t1 else t2, !decide (t2 = []), cl, decide (m2.toNat / 64 % 2 = 1), k⟩, s16.p)
def headS (o : List UInt8) : Int × ScrS × Nat :=
  let s0 : LS := ⟨byP o 0 0 6, byE o 0 0 6⟩
  let s1 := lxN o s0 2
  let s2 := lxN o s1 2
  let m1 := lnN o s2 1
  let s3 := lxN o s2 1
  let s4 := lxN o s3 2
  let s5 := if s4.e = 0 ∧ sizB (lnN o s0 2) (lnN o s1 2) = false then flN s4 11 else s4
  let t1 := tbB o s5 m1.toNat
  let s6 := tbX o s5 m1.toNat
  tailS o (lnN o s0 2) (lnN o s1 2) t1 (partsS (o.length + 1) o s6 (-1)).1 (partsS (o.length + 1) o s6 (-1)).2
def scrS (o : List UInt8) : Int × ScrS × Nat := if o.take 6 = magic.take o.length then headS o else (3, zeroScr, 0)

theorem ln_bd (o : List UInt8) (s : LS) : (0 ≤ lnN o s 1 ∧ lnN o s 1 < 256) ∧ (0 ≤ lnN o s 2 ∧ lnN o s 2 < 65536) := by
  have key : ∀ (n : Int) (b : Nat), n.toNat = b → 0 ≤ numL o s.p s.e n ∧ numL o s.p s.e n < ((256 ^ b : Nat) : Int) := fun n b hb => by
    have hpos : 0 < 256 ^ b := Nat.pow_pos (by decide)
    unfold numL littleS
    split
    · split
      · rename_i h1 h2
        skip
        have h5 := le_lt ((o.drop (s.p : Int).toNat).take n.toNat)
        have h6 : ((o.drop (s.p : Int).toNat).take n.toNat).length ≤ b := by rw [List.length_take, hb]; omega
        have h7 : 256 ^ ((o.drop (s.p : Int).toNat).take n.toNat).length ≤ 256 ^ b := Nat.pow_le_pow_right (by omega) h6
        omega
      · omega
    · omega
  have k1 := key 1 1 rfl
  have k2 := key 2 2 rfl
  unfold lnN
  omega
theorem little_s {L T : Nat} (w : World) (g : Nat) (o : List UInt8) (s : LS) (n : Int) (h : Cur L T w g o s.p s.e) :
    Calls Tryd.prog 15 #[.pointer (some ⟨g, 0, none⟩), .int .i64 n] w fun e w' => e = .returned (.int .i64 (lnN o s n)) ∧ Cur L T w' g o (lxN o s n).p (lxN o s n).e ∧ Fr (HK.One g) w w' := clittle_calls w g o s.p s.e n h
theorem fail_s {L T : Nat} (w : World) (g : Nat) (o : List UInt8) (s : LS) (x : Int) (h : Cur L T w g o s.p s.e) :
    Calls Tryd.prog 18 #[.pointer (some ⟨g, 0, none⟩), .int .i64 x] w fun e w' => e = .returned (.tuple #[]) ∧ Cur L T w' g o (flN s x).p (flN s x).e ∧ Fr (HK.One g) w w' := fail_calls w g o s.p s.e x h
set_option maxRecDepth 100000 in
theorem sized_calls (W H : Int) (w : World) (h1 : 0 ≤ W ∧ W < 65536) (h2 : 0 ≤ H ∧ H < 65536) : Calls Tryd.prog 17 #[.int .i64 W, .int .i64 H] w fun e w' => e = .returned (.bool (sizB W H)) ∧ w' = w := by
  obtain ⟨a, ha⟩ : ∃ a, a = mn W H := ⟨_, rfl⟩
  obtain ⟨b, hb⟩ : ∃ b, b = mx W H := ⟨_, rfl⟩
  have hab : (0 < a ↔ 0 < W ∧ 0 < H) ∧ (b ≤ 2048 ↔ W ≤ 2048 ∧ H ≤ 2048) := by
    rw [ha, hb]; unfold mn mx
    constructor
    · split <;> omega
    · split <;> omega
  obtain ⟨m, hm⟩ : ∃ m, m = W * H := ⟨_, rfl⟩
  have hm0 : 0 ≤ m := by rw [hm]; exact Int.mul_nonneg h1.1 h2.1
  have hm1 : m ≤ 65536 * 65536 := by rw [hm]; exact Int.mul_le_mul (by omega) (by omega) h2.1 (by omega)
  have hw : IntKind.i64.wrap (W * H) = m := by rw [← hm]; exact w64 _ (by omega) (by omega)
  have hS : Hid (sizB W H = (decide (0 < a) && (decide (b ≤ 2048) && decide (m ≤ 65536)))) := by
    show _ = _
    unfold sizB
    rw [Bool.eq_iff_iff]
    simp only [decide_eq_true_eq, Bool.and_eq_true, hab.1, hab.2, hm]
    constructor
    · rintro ⟨q1, q2, q3, q4, q5⟩; exact ⟨⟨q1, q2⟩, ⟨q3, q4⟩, q5⟩
    · rintro ⟨⟨q1, q2⟩, ⟨q3, q4⟩, q5⟩; exact ⟨q1, q2, q3, q4, q5⟩
  have e1 : mn W H = a := ha.symm
  have e2 : mx W H = b := hb.symm
  clear hab hm ha hb
  by_cases ca : 0 < a
  · by_cases cb : b ≤ 2048
    · go_enter Tryd.func17, Tryd.ntmps17
      go_wp2_with fail
      go_ret
      rw [hS.out, decide_eq_true ca, decide_eq_true cb]
      exact ⟨by simp, rfl⟩
    · go_enter Tryd.func17, Tryd.ntmps17
      go_wp2_with fail
      go_ret
      rw [hS.out, decide_eq_false (show ¬ b ≤ 2048 by omega)]
      exact ⟨by simp, rfl⟩
  · go_enter Tryd.func17, Tryd.ntmps17
    go_wp2_with fail
    go_ret
    rw [hS.out, decide_eq_false (show ¬ 0 < a by omega)]
    exact ⟨by simp, rfl⟩
theorem magic_eq (bs : List UInt8) (k : Nat) (hk : k = min bs.length 6) (X : ByteArray) (hX : X = ({ data := #[71, 73, 70, 56, 57, 97] } : ByteArray).extract 0 k) : ((mkS (bs.take k)).toList != X.toList) = !decide (bs.take 6 = magic.take bs.length) := by
  have e1 : X.toList = magic.take k := by
    have h6 : k = 0 ∨ k = 1 ∨ k = 2 ∨ k = 3 ∨ k = 4 ∨ k = 5 ∨ k = 6 := by omega
    have e : ({ data := #[71, 73, 70, 56, 57, 97] } : ByteArray).extract 0 k = mkS (magic.take k) := by
      rcases h6 with h | h | h | h | h | h | h <;> subst h <;> kernel_rfl
    rw [hX, e, mkS_toList]
  have e2 : bs.take k = bs.take 6 := by
    rw [hk]
    rcases Nat.le_total bs.length 6 with h | h
    · rw [Nat.min_eq_left h, List.take_of_length_le (Nat.le_refl _), List.take_of_length_le h]
    · rw [Nat.min_eq_right h]
  have e3 : magic.take k = magic.take bs.length := by
    rw [hk]
    rcases Nat.le_total bs.length 6 with h | h
    · rw [Nat.min_eq_left h]
    · rw [Nat.min_eq_right h, List.take_of_length_le (show magic.length ≤ 6 by decide), List.take_of_length_le (show magic.length ≤ bs.length by exact h)]
  rw [e1, mkS_toList, e2, e3]
  by_cases h : bs.take 6 = magic.take bs.length
  · rw [h]; simp
  · rw [decide_eq_false h]; simpa using h
end Go.Proofs.YtamkfjbdcjkchaaDoor

/- Plain words for the walks: slices that read as lists, numbers in bytes. No program in sight. -/
import Derived.WalkKit
import Derived.KernelRfl
import Derived.Laws.Rows
import Derived.Laws.BitsLemmas
import Derived.Deep.QuietTactic
import Derived.BigQuiet
import Derived.Deep.LoopGhost
import Derived.Deep.Draws
import Derived.IntWalk
namespace Go.Proofs.HK
open Go.RowKit

/-- A slice whose address is A reads as the list xs, each element one cell. -/
def Rd {α : Type} (f : α → Value) (w : World) (A : Option Addr) (xs : List α) : Prop :=
  0 < xs.length → ∃ ad, A = some ad ∧ ∀ (j : Nat) (h : j < xs.length), w.cell? (ad.add j) = some (f xs[j])

theorem hid {p : Prop} (h : p) : Hid p := h
def B (b : UInt8) : Value := .int .u8 (b.toNat : Int)
def rdB (xs : List UInt8) (i : Nat) : UInt8 := xs.getD i 0

theorem Rd.nil {α : Type} {f : α → Value} {w : World} {A : Option Addr} : Rd f w A [] := fun h => absurd h (by simp)
theorem Rd.atN {w : World} {A : Option Addr} {xs : List UInt8} (h : Rd B w A xs) (i : Nat) (h1 : i < xs.length) :
    ∃ ad, A = some ad ∧ w.cell? (ad.add i) = some (.int .u8 ((rdB xs i).toNat : Int)) := by
  obtain ⟨ad, e, hc⟩ := h (by omega)
  refine ⟨ad, e, ?_⟩
  rw [hc i (by omega)]
  simp [B, rdB, List.getD, List.getElem?_eq_getElem h1]
theorem B_lt (b : UInt8) : 0 ≤ (b.toNat : Int) ∧ (b.toNat : Int) < 256 := by have := b.toNat_lt; omega

/-- The number of bytes, the highest first; the lowest first. -/
def beN : List UInt8 → Nat → Nat
  | [], v => v
  | b :: l, v => beN l (v * 256 + b.toNat)
def be (l : List UInt8) : Nat := beN l 0
theorem beN_snoc (l : List UInt8) (b : UInt8) : ∀ v, beN (l ++ [b]) v = beN l v * 256 + b.toNat := by
  induction l with
  | nil => intro v; rfl
  | cons c l ih => intro v; simp only [List.cons_append, beN, ih]
theorem be_snoc (l : List UInt8) (b : UInt8) : be (l ++ [b]) = be l * 256 + b.toNat := beN_snoc l b 0
theorem beN_lt (l : List UInt8) : ∀ v, beN l v < (v + 1) * 256 ^ l.length := by
  induction l with
  | nil => intro v; simp [beN]
  | cons c l ih =>
    intro v
    have h := ih (v * 256 + c.toNat)
    have hc := c.toNat_lt
    simp only [beN, List.length_cons, Nat.pow_succ]
    refine Nat.lt_of_lt_of_le h ?_
    rw [Nat.mul_comm (256 ^ l.length) 256, ← Nat.mul_assoc]
    exact Nat.mul_le_mul_right _ (by omega)
theorem be_lt (l : List UInt8) : be l < 256 ^ l.length := by have := beN_lt l 0; simpa [be] using this
def le : List UInt8 → Nat
  | [] => 0
  | b :: l => b.toNat + 256 * le l
theorem le_snoc (l : List UInt8) (b : UInt8) : le (l ++ [b]) = le l + b.toNat * 256 ^ l.length := by
  induction l with
  | nil => simp [le]
  | cons c l ih =>
    simp only [List.cons_append, le, ih, List.length_cons, Nat.pow_succ]
    rw [Nat.mul_add]
    have : 256 * (b.toNat * 256 ^ l.length) = b.toNat * (256 ^ l.length * 256) := by
      rw [Nat.mul_left_comm, Nat.mul_comm (256 ^ _) 256]
    omega
theorem le_lt (l : List UInt8) : le l < 256 ^ l.length := by
  induction l with
  | nil => simp [le]
  | cons c l ih =>
    have hc := c.toNat_lt
    simp only [le, List.length_cons, Nat.pow_succ]
    omega
theorem le_eq_be (l : List UInt8) : le l = be l.reverse := by
  induction l with
  | nil => rfl
  | cons c l ih => simp only [le, List.reverse_cons, be_snoc, ih]; omega

theorem take_snocB (l : List UInt8) (k : Nat) (h : k < l.length) : l.take (k + 1) = l.take k ++ [rdB l k] := by
  rw [List.take_succ_eq_append_getElem h]
  simp [rdB, List.getD, List.getElem?_eq_getElem h]
theorem rdB_drop (l : List UInt8) (a k : Nat) : rdB (l.drop a) k = rdB l (a + k) := by
  simp [rdB, List.getD]

theorem w64 (n : Int) (h0 : 0 ≤ n) (h1 : n < 2 ^ 63) : IntKind.i64.wrap n = n := by rw [IntKind.wrap_i64]; omega

theorem or_join (x y : Nat) (i : Nat) (hx : x % 2 ^ i = 0) (hy : y < 2 ^ i) (h : x < 2 ^ 62) (h' : y < 2 ^ 62) : bits .or .i64 (x : Int) (y : Int) = ((x + y : Nat) : Int) := by
  rw [(bits_nat .i64 62 (by decide) (fun n a b => w64 n a (by omega)) x y h h').2]
  have hq : x = 2 ^ i * (x / 2 ^ i) := by
    have := Nat.div_add_mod x (2 ^ i)
    omega
  rw [hq, ← Nat.two_pow_add_eq_or_of_lt hy (x / 2 ^ i)]
theorem or_join' (x y : Nat) (i : Nat) (hx : x % 2 ^ i = 0) (hy : y < 2 ^ i) (h : x < 2 ^ 62) (h' : y < 2 ^ 62) : bits .or .i64 (y : Int) (x : Int) = ((x + y : Nat) : Int) := by
  rw [(bits_nat .i64 62 (by decide) (fun n a b => w64 n a (by omega)) y x h' h).2, Nat.or_comm]
  have hq : x = 2 ^ i * (x / 2 ^ i) := by
    have := Nat.div_add_mod x (2 ^ i)
    omega
  rw [hq, ← Nat.two_pow_add_eq_or_of_lt hy (x / 2 ^ i)]
theorem pow8 (k : Nat) : 2 ^ (8 * k) = 256 ^ k := by rw [Nat.pow_mul]
theorem pow8i (k : Nat) : (2 : Int) ^ (8 * k) = ((256 ^ k : Nat) : Int) := by rw [← pow8]; simp
theorem le_or (v r k : Nat) (hk : k ≤ 3) (hv : v < 256 ^ k) (hr : r < 256) : bits .or .i64 (v : Int) (wrap64 ((r : Int) * 2 ^ (8 * k))) = ((v + r * 256 ^ k : Nat) : Int) := by
  have hp : 256 ^ k ≤ 256 ^ 3 := Nat.pow_le_pow_right (by omega) hk
  have hm : r * 256 ^ k ≤ 255 * 256 ^ 3 := Nat.mul_le_mul (by omega) hp
  have e : wrap64 ((r : Int) * 2 ^ (8 * k)) = ((r * 256 ^ k : Nat) : Int) := by
    rw [pow8i, ← Int.natCast_mul]
    unfold wrap64
    omega
  rw [e, or_join' (r * 256 ^ k) v (8 * k) (by rw [pow8]; exact Nat.mul_mod_left _ _) (by rw [pow8]; exact hv) (by omega) (by omega), Nat.add_comm]

theorem ri {k : IntKind} {a b : Int} (h : a = b) : Ending.returned (.int k a) = .returned (.int k b) := by rw [h]
theorem ri2 {k k' : IntKind} {a b a' b' : Int} (h : a = b) (h' : a' = b') : Ending.returned (.tuple #[.int k a, .int k' a']) = .returned (.tuple #[.int k b, .int k' b']) := by rw [h, h']

def fitsS (len : Nat) (at_ n : Int) : Int := if n < 1 ∨ 4 < n ∨ at_ < 0 then 1 else if (len : Int) - n < at_ then 2 else 0
theorem fitsS_0 {len : Nat} {at_ n : Int} (h : fitsS len at_ n = 0) : 1 ≤ n ∧ n ≤ 4 ∧ 0 ≤ at_ ∧ at_ + n ≤ len := by
  unfold fitsS at h
  split at h
  · omega
  · split at h <;> omega
def bigS (bs : List UInt8) (at_ n : Int) : Int := if fitsS bs.length at_ n = 0 then (be ((bs.drop at_.toNat).take n.toNat) : Int) else 0
def littleS (bs : List UInt8) (at_ n : Int) : Int := if fitsS bs.length at_ n = 0 then (le ((bs.drop at_.toNat).take n.toNat) : Int) else 0

/-- The lowest byte of a number. -/
def byteOf (x : Int) : UInt8 := UInt8.ofNat (x % 256).toNat
theorem byteOf_toNat (x : Int) : ((byteOf x).toNat : Int) = x % 256 := by
  unfold byteOf
  rw [UInt8.toNat_ofNat']
  omega
theorem B_byteOf (x : Int) : B (byteOf x) = .int .u8 (x % 256) := by unfold B; rw [byteOf_toNat]
theorem wrapu8 (x : Int) : IntKind.u8.wrap x = x % 256 := IntKind.wrap_u8 x
theorem and255 (v : Int) : bits .and .i64 v 255 = v % 256 := by
  have h : bits .and .i64 v 255 = IntKind.i64.wrap (((v % 2 ^ 64).toNat &&& 255 : Nat) : Int) := by
    simp only [bits]
    congr 2
  rw [h, Nat.and_two_pow_sub_one_eq_mod _ 8, IntKind.wrap_i64]
  omega

/-- So many bytes of a number, the lowest first. -/
def putLE : Nat → Int → List UInt8
  | 0, _ => []
  | n + 1, v => byteOf v :: putLE n (v / 256)
theorem putLE_length (n : Nat) : ∀ v, (putLE n v).length = n := by
  induction n with
  | zero => intro v; rfl
  | succ n ih => intro v; simp [putLE, ih]
theorem putLE_snoc (n : Nat) : ∀ v, putLE (n + 1) v = putLE n v ++ [byteOf (v / 256 ^ n)] := by
  induction n with
  | zero => intro v; simp [putLE]
  | succ n ih =>
    intro v
    have e : v / 256 / 256 ^ n = v / 256 ^ (n + 1) := by
      rw [Int.pow_succ, Int.mul_comm, ← Int.ediv_ediv_of_nonneg (by omega)]
    rw [putLE, ih (v / 256), e]
    simp [putLE]
theorem putLE_get (n i : Nat) (v : Int) (h : i < n) : (putLE n v)[i]? = some (byteOf (v / 256 ^ i)) := by
  induction n with
  | zero => omega
  | succ n ih =>
    rw [putLE_snoc]
    by_cases hi : i < n
    · rw [List.getElem?_append_left (by rw [putLE_length]; exact hi), ih hi]
    · obtain rfl : i = n := by omega
      rw [List.getElem?_append_right (by rw [putLE_length]; exact Nat.le_refl _), putLE_length]
      simp
def putBE (n : Nat) (v : Int) : List UInt8 := (putLE n v).reverse
theorem putBE_length (n : Nat) (v : Int) : (putBE n v).length = n := by simp [putBE, putLE_length]
theorem putBE_get (n i : Nat) (v : Int) (h : i < n) : (putBE n v)[i]? = some (byteOf (v / 256 ^ (n - 1 - i))) := by
  unfold putBE
  rw [List.getElem?_reverse (by rw [putLE_length]; exact h), putLE_length, putLE_get _ _ _ (by omega)]
/-- n cut to 0 to 8. -/
def cut8 (n : Int) : Nat := (max 0 (min n 8)).toNat

theorem div_succ (v : Int) (k : Nat) : v / 256 ^ (k + 1) = v / 256 ^ k / 256 := by
  rw [Int.pow_succ, ← Int.ediv_ediv_of_nonneg (Int.le_of_lt (Int.pow_pos (by decide)))]
theorem div_bound (v : Int) (hv : -9223372036854775808 ≤ v ∧ v ≤ 9223372036854775807) (k : Nat) : -9223372036854775808 ≤ v / 256 ^ k ∧ v / 256 ^ k ≤ 9223372036854775807 := by
  induction k with
  | zero => simpa using hv
  | succ k ih => rw [div_succ]; omega

def mx (x y : Int) : Int := if x < y then y else x
def mn (x y : Int) : Int := if y < x then y else x
theorem mx_eq (x y : Int) : mx x y = max x y := by unfold mx; omega
theorem mn_eq (x y : Int) : mn x y = min x y := by unfold mn; omega
theorem max2_int (k k' : IntKind) (x y : Int) : Builtin.max2 (.int k x) (.int k' y) = pure (.int k (mx x y)) := by simp only [Builtin.max2, gt_iff_lt, mx]
theorem min2_int (k k' : IntKind) (x y : Int) : Builtin.min2 (.int k x) (.int k' y) = pure (.int k (mn x y)) := by simp only [Builtin.min2, mn]
theorem max_two (ats : Array TypeId) (ty : TypeId) (a b : Value) : Builtin.max_ ats ty #[a, b] = (Builtin.max2 a b >>= fun s => pure s) := by simp only [Builtin.max_, List.foldlM_cons, List.foldlM_nil]
theorem min_two (ats : Array TypeId) (ty : TypeId) (a b : Value) : Builtin.min_ ats ty #[a, b] = (Builtin.min2 a b >>= fun s => pure s) := by simp only [Builtin.min_, List.foldlM_cons, List.foldlM_nil]
theorem cut8_mx (n : Int) : mx 0 (mn n 8) = (cut8 n : Int) := by rw [mx_eq, mn_eq]; unfold cut8; omega
theorem pow8z (k : Nat) : (256 : Int) ^ k = 2 ^ (8 * k) := by rw [Int.pow_mul]; rfl
theorem putBE_take (n k : Nat) (v : Int) (h : k < n) : (putBE n v).take (k + 1) = (putBE n v).take k ++ [byteOf (v / 2 ^ (8 * (n - 1 - k)))] := by
  rw [List.take_add_one, putBE_get _ _ _ h, pow8z]; rfl
theorem putLE_take (n k : Nat) (v : Int) (h : k < n) : (putLE n v).take (k + 1) = (putLE n v).take k ++ [byteOf (v / 2 ^ (8 * k))] := by
  rw [List.take_add_one, putLE_get _ _ _ h, pow8z]; rfl
/-- A row of noughts that is filled from the left. -/
theorem fill_set {α : Type} (xs : List α) (z y : α) (N k : Nat) (h : k < N) (hl : xs.length = k) : (xs ++ List.replicate (N - k) z).set k y = (xs ++ [y]) ++ List.replicate (N - (k + 1)) z := by
  rw [List.set_append_right _ _ (by omega), hl, Nat.sub_self, List.append_assoc]
  obtain ⟨m, hm⟩ : ∃ m, N - k = m + 1 := ⟨N - k - 1, by omega⟩
  rw [hm, show N - (k + 1) = m by omega, List.replicate_succ, List.set_cons_zero]
  rfl
theorem take_add {α : Type} (l : List α) (p m : Nat) : l.take (p + m) = l.take p ++ (l.drop p).take m := by
  rw [List.take_add]
theorem map_set_B (ys : List UInt8) (k : Nat) (x : Int) : (ys.map B).set k (.int .u8 (x % 256)) = (ys.set k (byteOf x)).map B := by
  rw [List.map_set, B_byteOf]
end Go.Proofs.HK

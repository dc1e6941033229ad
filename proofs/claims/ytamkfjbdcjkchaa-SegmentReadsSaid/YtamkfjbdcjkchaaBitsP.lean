/- Plain facts on numbers made of bits and bytes: no program in sight. -/
import Derived.Test.YtamkfjbdcjkchaaK
namespace Go.Proofs.HK

theorem le_append (a b : List UInt8) : le (a ++ b) = le a + 256 ^ a.length * le b := by
  induction a with
  | nil => simp [le]
  | cons c a ih =>
    simp only [List.cons_append, le, ih, List.length_cons, Nat.pow_succ, Nat.mul_add]
    rw [Nat.mul_comm (256 ^ a.length) 256, Nat.mul_assoc, ← Nat.add_assoc]
theorem le_drop (bs : List UInt8) (k : Nat) : le (bs.drop k) = le bs / 256 ^ k := by
  induction k generalizing bs with
  | zero => simp
  | succ k ih =>
    cases bs with
    | nil => simp [le]
    | cons c bs =>
      rw [List.drop_succ_cons, ih, Nat.pow_succ, Nat.mul_comm, ← Nat.div_div_eq_div_mul]
      have hc := c.toNat_lt
      congr 1
      simp only [le]
      omega
theorem le_take (bs : List UInt8) (k : Nat) : le (bs.take k) = le bs % 256 ^ k := by
  by_cases h : bs.length ≤ k
  · rw [List.take_of_length_le h, Nat.mod_eq_of_lt]
    exact Nat.lt_of_lt_of_le (le_lt bs) (Nat.pow_le_pow_right (by decide) h)
  · have e := le_append (bs.take k) (bs.drop k)
    rw [List.take_append_drop] at e
    have hl : (bs.take k).length = k := by rw [List.length_take]; omega
    have hlt := le_lt (bs.take k)
    rw [hl] at e hlt
    rw [e, Nat.add_mul_mod_self_left, Nat.mod_eq_of_lt hlt]
theorem pow256 (k : Nat) : 256 ^ k = 2 ^ (8 * k) := (pow8 k).symm

/-- One byte of the number. -/
theorem rdB_le (bs : List UInt8) (k : Nat) : (rdB bs k).toNat = le bs / 256 ^ k % 256 := by
  rw [← le_drop]
  cases h : bs.drop k with
  | nil =>
    have : rdB bs k = 0 := by
      have hl : bs.length ≤ k := by simpa using h
      simp [rdB, List.getD, List.getElem?_eq_none hl]
    rw [this]; simp [le]
  | cons c r =>
    have e : rdB bs k = c := by
      have := rdB_drop bs k 0
      rw [h] at this
      simpa [rdB] using this.symm
    rw [e]
    have hc := c.toNat_lt
    simp only [le]
    omega

/-- What a reader has: bytes of which off bits are gone: the number of the bits that are left, and how many they are. -/
def rV (bs : List UInt8) (off : Nat) : Nat := le bs / 2 ^ off
def rT (bs : List UInt8) (off : Nat) : Nat := 8 * bs.length - off

theorem rV_lt (bs : List UInt8) (off : Nat) (h : off ≤ 8 * bs.length) : rV bs off < 2 ^ rT bs off := by
  unfold rV rT
  rw [Nat.div_lt_iff_lt_mul (Nat.two_pow_pos _), ← Nat.pow_add, Nat.sub_add_cancel h, ← pow256]
  exact le_lt bs
theorem rV_feed (bs ys : List UInt8) (off : Nat) (h : off ≤ 8 * bs.length) : rV (bs ++ ys) off = rV bs off + 2 ^ rT bs off * le ys := by
  unfold rV rT
  rw [le_append, pow256]
  have e : 2 ^ (8 * bs.length) * le ys = 2 ^ (8 * bs.length - off) * le ys * 2 ^ off := by
    rw [Nat.mul_right_comm, ← Nat.pow_add, Nat.sub_add_cancel h]
  rw [e, Nat.add_mul_div_right _ _ (Nat.two_pow_pos _)]
theorem rT_feed (bs ys : List UInt8) (off : Nat) (h : off ≤ 8 * bs.length) : rT (bs ++ ys) off = rT bs off + 8 * ys.length := by
  unfold rT
  rw [List.length_append]
  omega
theorem rV_skip (bs : List UInt8) (off n : Nat) : rV (bs.drop ((n + off) / 8)) ((n + off) % 8) = rV bs off / 2 ^ n := by
  unfold rV
  rw [le_drop, pow256, Nat.div_div_eq_div_mul, Nat.div_div_eq_div_mul, ← Nat.pow_add, ← Nat.pow_add]
  congr 2
  omega
theorem rT_skip (bs : List UInt8) (off n : Nat) : rT (bs.drop ((n + off) / 8)) ((n + off) % 8) = rT bs off - n := by
  unfold rT
  rw [List.length_drop]
  omega
theorem rV_look (bs : List UInt8) (off i : Nat) : (rdB bs ((i + off) / 8)).toNat / 2 ^ ((i + off) % 8) % 2 = rV bs off / 2 ^ i % 2 := by
  rw [rdB_le]
  unfold rV
  have h8 : (i + off) % 8 < 8 := Nat.mod_lt _ (by decide)
  obtain ⟨r, hr⟩ : ∃ r, r = (i + off) % 8 := ⟨_, rfl⟩
  obtain ⟨q, hq⟩ : ∃ q, q = (i + off) / 8 := ⟨_, rfl⟩
  rw [← hr, ← hq, Nat.div_div_eq_div_mul, ← Nat.pow_add]
  have e : off + i = 8 * q + r := by omega
  rw [e, Nat.pow_add, ← Nat.div_div_eq_div_mul, ← pow256]
  obtain ⟨X, hX⟩ : ∃ X, X = le bs / 256 ^ q := ⟨_, rfl⟩
  rw [← hX]
  have h256 : 256 = 2 ^ r * (2 * 2 ^ (7 - r)) := by
    have h1 : (2 : Nat) * 2 ^ (7 - r) = 2 ^ (7 - r + 1) := by rw [Nat.pow_succ, Nat.mul_comm]
    rw [h1, ← Nat.pow_add, show r + (7 - r + 1) = 8 by omega]
  rw [h256, Nat.mod_mul_right_div_self, Nat.mod_mul_right_mod]
/-- Taking: five bytes are enough. -/
theorem rV_take (bs : List UInt8) (off n : Nat) (ho : off < 8) (hn : n ≤ 32) : le (bs.take 5) / 2 ^ off % 2 ^ n = rV bs off % 2 ^ n := by
  rw [le_take]
  unfold rV
  have e : 256 ^ 5 = 2 ^ off * (2 ^ n * 2 ^ (40 - off - n)) := by
    rw [← Nat.pow_add, ← Nat.pow_add, show off + (n + (40 - off - n)) = 40 by omega]
  rw [e, Nat.mod_mul_right_div_self, Nat.mod_mul_right_mod]

open Go.RowKit in
theorem and7 (n : Nat) (h : n < 2 ^ 62) : bits .and .i64 (n : Int) 7 = ((n % 8 : Nat) : Int) := by
  have := (bits_nat .i64 62 (by decide) (fun n a b => w64 n a (by omega)) n 7 h (by decide)).1
  rw [Nat.and_two_pow_sub_one_eq_mod _ 3] at this
  exact this
theorem and1u (n : Nat) (h : n < 256) : bits .and .u8 (n : Int) 1 = ((n % 2 : Nat) : Int) := by
  have := (bits_nat .u8 8 (by decide) (fun n a b => by rw [IntKind.wrap_u8]; omega) n 1 h (by decide)).1
  rw [Nat.and_two_pow_sub_one_eq_mod _ 1] at this
  exact this
theorem sh7 (n : Nat) (h : n < 2 ^ 62) : (IntKind.u64.wrap (bits .and .i64 (n : Int) 7)).toNat = n % 8 := by
  rw [and7 n h, IntKind.wrap_u64]
  omega
open Go.RowKit in
theorem look_num (b x : Nat) (hb : b < 256) (hx : x < 2 ^ 62) : wrap64 (bits .and .u8 ((b : Int) / 2 ^ min (IntKind.u64.wrap (bits .and .i64 (x : Int) 7)).toNat 8) 1) = ((b / 2 ^ (x % 8) % 2 : Nat) : Int) := by
  rw [sh7 x hx, show min (x % 8) 8 = x % 8 by omega]
  have e : (b : Int) / 2 ^ (x % 8) = ((b / 2 ^ (x % 8) : Nat) : Int) := by simp
  have hle : b / 2 ^ (x % 8) ≤ b := Nat.div_le_self _ _
  rw [e, and1u _ (by omega)]
  unfold wrap64
  omega
theorem bitsu64 (a b : Nat) (ha : a < 2 ^ 62) (hb : b < 2 ^ 62) : bits .and .u64 (a : Int) (b : Int) = ((a &&& b : Nat) : Int) ∧ bits .or .u64 (a : Int) (b : Int) = ((a ||| b : Nat) : Int) :=
  bits_nat .u64 62 (by decide) (fun n a b => by rw [IntKind.wrap_u64]; omega) a b ha hb
theorem take_num (L off n : Nat) (hL : L < 2 ^ 40) (hn : n ≤ 32) : bits .and .u64 ((L : Int) / 2 ^ off) (IntKind.u64.wrap (IntKind.u64.wrap (2 ^ n) - 1)) = ((L / 2 ^ off % 2 ^ n : Nat) : Int) := by
  have e : (L : Int) / 2 ^ off = ((L / 2 ^ off : Nat) : Int) := by simp
  have hle : L / 2 ^ off ≤ L := Nat.div_le_self _ _
  have hp : 2 ^ n ≤ 2 ^ 32 := Nat.pow_le_pow_right (by decide) hn
  have hp0 : 0 < 2 ^ n := Nat.two_pow_pos n
  have e2 : (2 : Int) ^ n = ((2 ^ n : Nat) : Int) := by simp
  have e3 : IntKind.u64.wrap (IntKind.u64.wrap (2 ^ n) - 1) = ((2 ^ n - 1 : Nat) : Int) := by
    rw [e2, IntKind.wrap_u64, IntKind.wrap_u64]
    omega
  rw [e3, e, (bitsu64 _ _ (by omega) (by omega)).1, Nat.and_two_pow_sub_one_eq_mod]
theorem le_or64 (v r k : Nat) (hk : k < 5) (hv : v < 256 ^ k) (hr : r < 256) : bits .or .u64 (v : Int) (IntKind.u64.wrap ((r : Int) * 2 ^ (8 * k))) = ((v + r * 256 ^ k : Nat) : Int) := by
  have hp : 256 ^ k ≤ 256 ^ 4 := Nat.pow_le_pow_right (by omega) (by omega)
  have hm : r * 256 ^ k ≤ 255 * 256 ^ 4 := Nat.mul_le_mul (by omega) hp
  have e : IntKind.u64.wrap ((r : Int) * 2 ^ (8 * k)) = ((r * 256 ^ k : Nat) : Int) := by
    rw [pow8i, ← Int.natCast_mul, IntKind.wrap_u64]
    omega
  rw [e, (bitsu64 _ _ (by omega) (by omega)).2, ← pow8, Nat.mul_comm r, Nat.or_comm, ← Nat.two_pow_add_eq_or_of_lt (by rw [pow8]; exact hv) r, Nat.add_comm]
theorem le_set (bs : List UInt8) : ∀ (i : Nat) (x : UInt8), i < bs.length → le (bs.set i x) + 256 ^ i * (rdB bs i).toNat = le bs + 256 ^ i * x.toNat := by
  induction bs with
  | nil => intro i x h; simp at h
  | cons c bs ih =>
    intro i x h
    cases i with
    | zero => simp [le, rdB]; omega
    | succ i =>
      have h' : i < bs.length := by simpa using h
      have := ih i x h'
      have e : rdB (c :: bs) (i + 1) = rdB bs i := by simp [rdB]
      simp only [List.set_cons_succ, le, e, Nat.pow_succ]
      have e1 : 256 ^ i * 256 * (rdB bs i).toNat = 256 * (256 ^ i * (rdB bs i).toNat) := by rw [Nat.mul_comm (256 ^ i) 256, Nat.mul_assoc]
      have e2 : 256 ^ i * 256 * x.toNat = 256 * (256 ^ i * x.toNat) := by rw [Nat.mul_comm (256 ^ i) 256, Nat.mul_assoc]
      rw [e1, e2]
      omega
/-- The byte at which the next bit goes is below 2 ^ (T % 8). -/
theorem wr_top (bs : List UInt8) (T : Nat) (h : le bs < 2 ^ T) : (rdB bs (T / 8)).toNat < 2 ^ (T % 8) := by
  rw [rdB_le]
  refine Nat.lt_of_le_of_lt (Nat.mod_le _ _) ?_
  rw [Nat.div_lt_iff_lt_mul (Nat.pow_pos (by decide)), pow256, ← Nat.pow_add]
  rwa [show T % 8 + 8 * (T / 8) = T by omega]
theorem wr_set (bs : List UInt8) (T x : Nat) (h : le bs < 2 ^ T) (hl : T / 8 < bs.length) (hx : x < 2) :
    le (bs.set (T / 8) (UInt8.ofNat ((rdB bs (T / 8)).toNat + x * 2 ^ (T % 8)))) = le bs + 2 ^ T * x := by
  have h1 := wr_top bs T h
  have h8 : 2 ^ (T % 8) ≤ 2 ^ 7 := Nat.pow_le_pow_right (by decide) (by omega)
  have hb : (rdB bs (T / 8)).toNat + x * 2 ^ (T % 8) < 256 := by
    have : x * 2 ^ (T % 8) ≤ 1 * 2 ^ (T % 8) := Nat.mul_le_mul_right _ (by omega)
    omega
  have := le_set bs (T / 8) (UInt8.ofNat ((rdB bs (T / 8)).toNat + x * 2 ^ (T % 8))) hl
  rw [UInt8.toNat_ofNat', Nat.mod_eq_of_lt hb, Nat.mul_add] at this
  have e : 256 ^ (T / 8) * (x * 2 ^ (T % 8)) = 2 ^ T * x := by
    rw [pow256, Nat.mul_comm x, ← Nat.mul_assoc, ← Nat.pow_add, show 8 * (T / 8) + T % 8 = T by omega]
  rw [e] at this
  omega
theorem and1i (v : Int) : bits .and .i64 v 1 = v % 2 := by
  have h : bits .and .i64 v 1 = IntKind.i64.wrap (((v % 2 ^ 64).toNat &&& 1 : Nat) : Int) := by
    simp only [bits]
    congr 2
  rw [h, Nat.and_two_pow_sub_one_eq_mod _ 1, IntKind.wrap_i64]
  omega
/-- v's bits from below, one more. -/
theorem low_step (v : Int) (j : Nat) : (v % 2 ^ (j + 1)).toNat = (v % 2 ^ j).toNat + 2 ^ j * (v / 2 ^ j % 2).toNat := by
  have hp : (0 : Int) < 2 ^ j := Int.pow_pos (by decide)
  have e : v % 2 ^ (j + 1) = v % 2 ^ j + 2 ^ j * (v / 2 ^ j % 2) := by
    have h1 := Int.mul_ediv_add_emod v (2 ^ j)
    have h2 := Int.mul_ediv_add_emod (v / 2 ^ j) 2
    have h3 := Int.emod_nonneg v (Int.ne_of_gt hp)
    have h4 := Int.emod_lt_of_pos v hp
    have h5 : 0 ≤ v / 2 ^ j % 2 ∧ v / 2 ^ j % 2 < 2 := by omega
    have hv : v = (v % 2 ^ j + 2 ^ j * (v / 2 ^ j % 2)) + 2 ^ (j + 1) * (v / 2 ^ j / 2) := by
      rw [Int.pow_succ, Int.mul_assoc]
      have : 2 ^ j * (v / 2 ^ j % 2) + 2 ^ j * (2 * (v / 2 ^ j / 2)) = 2 ^ j * (v / 2 ^ j) := by rw [← Int.mul_add]; congr 1; omega
      omega
    have hlt : v % 2 ^ j + 2 ^ j * (v / 2 ^ j % 2) < 2 ^ (j + 1) := by
      rw [Int.pow_succ]
      have : (2 : Int) ^ j * (v / 2 ^ j % 2) ≤ 2 ^ j * 1 := Int.mul_le_mul_of_nonneg_left (by omega) (Int.le_of_lt hp)
      omega
    have hge : 0 ≤ v % 2 ^ j + 2 ^ j * (v / 2 ^ j % 2) := by
      have : (0 : Int) ≤ 2 ^ j * (v / 2 ^ j % 2) := Int.mul_nonneg (Int.le_of_lt hp) h5.1
      omega
    conv => lhs; rw [hv]
    rw [Int.add_mul_emod_self_left, Int.emod_eq_of_lt hge hlt]
  have h3 := Int.emod_nonneg v (Int.ne_of_gt hp)
  have h5 : 0 ≤ v / 2 ^ j % 2 := by omega
  rw [e, Int.toNat_add h3 (Int.mul_nonneg (Int.le_of_lt hp) h5), Int.toNat_mul (Int.le_of_lt hp) h5]
  congr 2
theorem or_join8 (b x r : Nat) (hb : b < 2 ^ r) (hx : x < 2) (hr : r < 8) : bits .or .u8 (b : Int) (IntKind.u8.wrap ((x : Int) * 2 ^ r)) = ((b + x * 2 ^ r : Nat) : Int) := by
  have hp : 2 ^ r ≤ 2 ^ 7 := Nat.pow_le_pow_right (by decide) (by omega)
  have hm : x * 2 ^ r ≤ 1 * 2 ^ r := Nat.mul_le_mul_right _ (by omega)
  have e : IntKind.u8.wrap ((x : Int) * 2 ^ r) = ((x * 2 ^ r : Nat) : Int) := by
    rw [show ((x : Int) * 2 ^ r) = ((x * 2 ^ r : Nat) : Int) by simp, IntKind.wrap_u8]
    omega
  rw [e, (bits_nat .u8 8 (by decide) (fun n a b => by rw [IntKind.wrap_u8]; omega) b (x * 2 ^ r) (by omega) (by omega)).2, Nat.mul_comm x, Nat.or_comm, ← Nat.two_pow_add_eq_or_of_lt hb x, Nat.add_comm]
theorem put_val (r k : Nat) (x : Int) (h1 : r < 2 ^ k) (hk : k < 8) : (Value.int .u8 (bits .or .u8 (r : Int) (x % 2 * 2 ^ k % 256))) = B (UInt8.ofNat (r + (x % 2).toNat * 2 ^ k)) := by
  have h2 : 0 ≤ x % 2 ∧ x % 2 < 2 := by omega
  have h3 := or_join8 r (x % 2).toNat k h1 (by omega) hk
  rw [IntKind.wrap_u8, Int.toNat_of_nonneg h2.1] at h3
  have h4 : (x % 2).toNat * 2 ^ k ≤ 1 * 2 ^ k := Nat.mul_le_mul_right _ (by omega)
  have h5 : 2 ^ k ≤ 2 ^ 7 := Nat.pow_le_pow_right (by decide) (by omega)
  have h6 : r + (x % 2).toNat * 2 ^ k < 256 := by omega
  unfold B
  rw [h3, UInt8.toNat_ofNat', Nat.mod_eq_of_lt h6]
theorem put_lt (V T x : Nat) (h : V < 2 ^ T) (hx : x < 2) : V + 2 ^ T * x < 2 ^ (T + 1) := by
  rw [Nat.pow_succ]
  have : 2 ^ T * x ≤ 2 ^ T * 1 := Nat.mul_le_mul_left _ (by omega)
  omega
theorem div_pow_succ (v : Int) (j : Nat) : v / 2 ^ j / 2 = v / 2 ^ (j + 1) := by
  rw [Int.pow_succ, ← Int.ediv_ediv_of_nonneg (by have : (0 : Int) < 2 ^ j := Int.pow_pos (by decide); omega)]
def low32 (n : Int) : Nat := (min n 32).toNat
end Go.Proofs.HK

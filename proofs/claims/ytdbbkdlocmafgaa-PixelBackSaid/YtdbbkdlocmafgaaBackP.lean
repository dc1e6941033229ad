/- What is packed is unpacked as it was, plainly. -/
import Derived.Test.YtdbbkdlocmafgaaUnpP
import Derived.Test.YtdbbkdlocmafgaaPackP
namespace Go.Proofs.Ytdbbkdlocmafgaa
open Go.RowKit Go.Proofs.HK
set_option linter.unusedVariables false

theorem byN_beL (N X : Nat) (more : List UInt8) (j : Nat) (h : j < N) : byN (beL N X ++ more) j = X / 256 ^ (N - 1 - j) % 256 := by
  unfold byN
  rw [List.getD_eq_getElem?_getD, List.getElem?_append_left (by rw [beL_length]; exact h)]
  unfold beL
  simp [h]
theorem tb8 (X k : Nat) (h : k < 8) : X % 256 / 2 ^ k % 2 = X / 2 ^ k % 2 := by
  have e : 256 = 2 ^ k * (2 * 2 ^ (7 - k)) := by
    rw [← Nat.pow_succ', ← Nat.pow_add, show k + (7 - k + 1) = 8 by omega]
  rw [e, Nat.mod_mul_right_div_self, Nat.mod_mul_right_mod]
theorem bitN_beL (N X : Nat) (more : List UInt8) (p : Nat) (h : p < 8 * N) : bitN (beL N X ++ more) p = X / 2 ^ (8 * N - 1 - p) % 2 := by
  unfold bitN
  rw [byN_beL N X more (p / 8) (by omega), ← pow8]
  have h1 := tb8 (X / 2 ^ (8 * (N - 1 - p / 8))) (7 - p % 8) (by omega)
  rw [h1, Nat.div_div_eq_div_mul, ← Nat.pow_add]
  congr 3
  omega
theorem rdN_beL (N X : Nat) (more : List UInt8) (s k : Nat) (h : s + k ≤ 8 * N) : rdN (beL N X ++ more) s k = X / 2 ^ (8 * N - s - k) % 2 ^ k := by
  induction k with
  | zero => simp [rdN, Nat.mod_one]
  | succ k ih =>
    unfold rdN
    rw [ih (by omega), bitN_beL N X more (s + k) (by omega), show 8 * N - 1 - (s + k) = 8 * N - s - (k + 1) by omega, show 8 * N - s - k = 8 * N - s - (k + 1) + 1 by omega]
    exact (bit_step _ _ _).symm
def fV (d : Nat) (a : Nat) (ys : List Nat) : Nat := ys.foldl (fun V v => V * 2 ^ d + v) a
theorem fV_div (d : Nat) : ∀ (ys : List Nat) (a : Nat), (∀ y ∈ ys, y < 2 ^ d) → fV d a ys / 2 ^ (d * ys.length) = a
  | [], a, _ => by simp [fV]
  | y :: ys, a, h => by
    have ih := fV_div d ys (a * 2 ^ d + y) (fun z hz => h z (List.mem_cons_of_mem _ hz))
    have hy := h y (List.mem_cons_self ..)
    show fV d (a * 2 ^ d + y) ys / 2 ^ (d * (ys.length + 1)) = a
    rw [Nat.mul_add, Nat.mul_one, Nat.pow_add, ← Nat.div_div_eq_div_mul, ih, Nat.mul_comm, Nat.mul_add_div (Nat.two_pow_pos d), Nat.div_eq_of_lt hy, Nat.add_zero]
theorem fV_get (d : Nat) : ∀ (ys : List Nat) (a : Nat), (∀ y ∈ ys, y < 2 ^ d) → ∀ i (hi : i < ys.length), fV d a ys / 2 ^ (d * (ys.length - 1 - i)) % 2 ^ d = ys[i]
  | [], a, _, i, hi => by simp at hi
  | y :: ys, a, h, 0, hi => by
    have hd := fV_div d ys (a * 2 ^ d + y) (fun z hz => h z (List.mem_cons_of_mem _ hz))
    have hy := h y (List.mem_cons_self ..)
    show fV d (a * 2 ^ d + y) ys / 2 ^ (d * (ys.length + 1 - 1 - 0)) % 2 ^ d = y
    rw [show ys.length + 1 - 1 - 0 = ys.length by omega, hd, Nat.mul_comm, Nat.mul_add_mod, Nat.mod_eq_of_lt hy]
  | y :: ys, a, h, i + 1, hi => by
    have hi' : i < ys.length := by simpa using hi
    have ih := fV_get d ys (a * 2 ^ d + y) (fun z hz => h z (List.mem_cons_of_mem _ hz)) i hi'
    show fV d (a * 2 ^ d + y) ys / 2 ^ (d * (ys.length + 1 - 1 - (i + 1))) % 2 ^ d = ys[i]
    rw [show ys.length + 1 - 1 - (i + 1) = ys.length - 1 - i by omega]
    exact ih
/-- Unpack of what Pack has made, whatever stands behind it. -/
theorem unp_pack (d : Nat) (hd : d = 1 ∨ d = 2 ∨ d = 4 ∨ d = 8 ∨ d = 16) (ys : List Nat) (h : ∀ y ∈ ys, y < 2 ^ d) (more : List UInt8) :
    unpE (packB d ys ++ more) d ys.length = 0 ∧ unpV (packB d ys ++ more) d ys.length = ys.map (fun y : Nat => (y : Int)) := by
  have hdp : depB (d : Int) = true := decide_eq_true (by omega)
  have hl : (packB d ys).length = (d * ys.length + 7) / 8 := by unfold packB; rw [beL_length]
  have hd0 : 0 < d := by omega
  have hE : unpE (packB d ys ++ more) d ys.length = 0 := by
    unfold unpE
    rw [if_neg (by rw [hdp]; simp), if_neg]
    rw [List.length_append, hl]
    have h1 : (ys.length : Int) ≤ (((d * ys.length + 7) / 8 + more.length : Nat) : Int) * 8 / (d : Int) := by
      rw [Int.le_ediv_iff_mul_le (by omega)]
      have h2 : ys.length * d ≤ ((d * ys.length + 7) / 8 + more.length) * 8 := by
        rw [Nat.mul_comm]; omega
      exact_mod_cast h2
    omega
  refine ⟨hE, ?_⟩
  unfold unpV
  rw [if_pos hE]
  apply List.ext_getElem
  · simp
  · intro i h1 h2
    have hi : i < ys.length := by simpa using h2
    simp only [List.getElem_map, List.getElem_range, Int.toNat_natCast]
    congr 1
    obtain ⟨N, hN⟩ : ∃ N, N = (d * ys.length + 7) / 8 := ⟨_, rfl⟩
    have hpad : d * ys.length + (8 - d * ys.length % 8) % 8 = 8 * N := by omega
    have hid : i * d + d ≤ d * ys.length := by
      have := Nat.mul_le_mul_left d (show i + 1 ≤ ys.length by omega)
      rw [Nat.mul_add, Nat.mul_one, Nat.mul_comm d i] at this; exact this
    unfold packB
    rw [← hN, rdN_beL N _ more (i * d) d (by omega)]
    have hv := fV_get d ys 0 h i hi
    have hexp : 8 * N - i * d - d = (8 - d * ys.length % 8) % 8 + d * (ys.length - 1 - i) := by
      have : d * (ys.length - 1 - i) = d * ys.length - i * d - d := by
        rw [show ys.length - 1 - i = ys.length - (i + 1) by omega, Nat.mul_sub, Nat.mul_add, Nat.mul_one, Nat.mul_comm d i]; omega
      omega
    rw [hexp, Nat.pow_add, ← Nat.div_div_eq_div_mul, Nat.mul_div_cancel _ (Nat.two_pow_pos _)]
    exact hv
end Go.Proofs.Ytdbbkdlocmafgaa

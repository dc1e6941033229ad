/- The contracts of the document's own layer 1: bits, numbers, bytes, and its reader. -/
import Derived.Test.YtamkfjbdcjkchaaRef1P
import Derived.Test.YtamkfjbdcjkchaaProg
import Derived.Test.YtamkfjbdcjkchaaMem
namespace Go.Proofs.Ytamkfjbdcjkchaa
open Go.RowKit Go.Proofs.HK
set_option linter.unusedVariables false
set_option linter.unusedSimpArgs false
attribute [local go_sem] max2_int min2_int max_two min_two

theorem slI : SlT Try.prog 65 3 1 8 := SlT.of (z := .int .i64 0) Try.underlying65 (by kernel_rfl) rfl (by decide)
theorem slB1 : SlT Try.prog 24 5 1 1 := SlT.of (z := .int .u8 0) Try.underlying24 (by kernel_rfl) rfl (by decide)

set_option maxRecDepth 100000 in
theorem ref1Bits_calls (A : Option Addr) (bs : List UInt8) (n0 c : Nat) (hn0 : bs.length = n0) (w : World) (hr : Rd B w A bs) (hl : n0 ≤ 1000000) :
    Calls Try.prog 37 #[.slice A n0 c] w fun e w' => ∃ v, e = .returned v ∧ New IB w w' v (bitsN (8 * n0) (le bs)) := by
  have HR := hid (And.intro hr hn0)
  clear hr hn0
  go_enter Try.func37, Try.ntmps37
  go_wp2
  go_loopw [3, 4] (fun v i wr => ∃ (k : Nat) (A1 : Option Addr) (c1 : Nat) (ob1 : Option Nat), k ≤ n0 ∧ i = .int .i64 k ∧ v = .slice A1 (8 * k) c1 ∧
      Row wr 1 (.slice A1 (8 * k) c1) ob1 (8 * k) ((bitsN (8 * k) (le bs)).map IB) ∧ (∀ q, ob1 = some q → w.heap.size ≤ q) ∧ Fr No w wr)
    (fun _ i _ => n0 - (intOf i).toNat)
  case atStart => exact ⟨0, none, 0, none, by omega, rfl, rfl, Row.nil _ _, fun _ h => (by cases h), Fr.refl _ _⟩
  case round =>
    obtain ⟨k, A1, c1, ob1, hk, rfl, rfl, h1, h2, h3⟩ := hrel
    have HREL := hid (And.intro h1 (And.intro h2 h3))
    clear h1 h2 h3
    by_cases hlt : k < n0
    · obtain ⟨ad, rfl, hc⟩ := (HR.out.1.fr0 HREL.out.2.2).atN k (by rw [HR.out.2]; exact hlt)
      have hb := B_lt (rdB bs k)
      go_wp2_with fail
      go_loopw [3, 5, 6] (fun v x i w2 => ∃ (j : Nat) (A1 : Option Addr) (c1 : Nat) (ob1 : Option Nat), j ≤ 8 ∧ i = .int .i64 j ∧ x = .int .i64 (((rdB bs k).toNat / 2 ^ j : Nat) : Int) ∧ v = .slice A1 (8 * k + j) c1 ∧
          Row w2 1 (.slice A1 (8 * k + j) c1) ob1 (8 * k + j) ((bitsN (8 * k + j) (le bs)).map IB) ∧ (∀ q, ob1 = some q → w.heap.size ≤ q) ∧ Fr No w w2)
        (fun _ _ i _ => 8 - (intOf i).toNat)
      case atStart => exact ⟨0, A1, c1, ob1, by omega, rfl, by simp, rfl, HREL.out.1, HREL.out.2⟩
      case round =>
        obtain ⟨j, A2, c2, ob2, hj, rfl, rfl, rfl, h1, h2, h3⟩ := hrel
        have HREL2 := hid (And.intro h1 (And.intro h2 h3))
        clear h1 h2 h3 HREL
        by_cases hlt8 : j < 8
        · obtain ⟨x, hx⟩ : ∃ x, x = (rdB bs k).toNat / 2 ^ j := ⟨_, rfl⟩
          have hxb : x ≤ 255 := by rw [hx]; exact Nat.le_trans (Nat.div_le_self _ _) (by omega)
          have hst : (bitsN (8 * k + (j + 1)) (le bs)).map IB = (bitsN (8 * k + j) (le bs)).map IB ++ [.int .i64 ((x : Int) % 2)] := by
            rw [← Nat.add_assoc, bitsN_snoc, le_bit bs k j hlt8, List.map_append, ← hx]; simp [IB]
          have hx2 : ((x : Int) / 2) = (((rdB bs k).toNat / 2 ^ (j + 1) : Nat) : Int) := by
            rw [Nat.pow_succ, ← Nat.div_div_eq_div_mul, ← hx]; omega
          have HS := hid hst
          have HX2 := hid hx2
          rw [← hx]
          clear hst hx2 hx
          go_wp2_with (at_builtin; refine wpList_app1 slI rfl (.tmp 22) (.tmp 25) rfl rfl HREL2.out.1 rfl (m := 1) (c := 1) (ys := [.int .i64 ((x : Int) % 2)]) rfl (by simp [Value.oneCell']) (by omega) (by omega) ?_; intro A3 c3 w3 ob3 hrow3 hfr3 hob3)
          go_roundw
          case rel =>
            rw [← HS.out] at hrow3
            have := HREL2.out.2.2.size
            refine ⟨j + 1, A3, c3, ob3, by omega, by go_num, by rw [← HX2.out], rfl, hrow3, fun q hq => ?_, HREL2.out.2.2.fresh hfr3 HREL2.out.2.1⟩
            rcases hob3 with h | ⟨j, h, hj⟩
            · exact HREL2.out.2.1 q (by rw [← h]; exact hq)
            · rw [h] at hq; injection hq with hq; omega
          case measure => simp [intOf] <;> omega
        · obtain rfl : j = 8 := by omega
          clear hlt8
          go_wp2_with fail
          go_roundw
          case rel => exact ⟨k + 1, A2, c2, ob2, by omega, by go_num, rfl, HREL2.out⟩
          case measure => simp [intOf] <;> omega
    · obtain rfl : k = n0 := by omega
      clear hlt
      go_wp2_with fail
      go_ret
      exact ⟨_, rfl, New.mk' rfl (by rw [bitsN_length]) HREL.out.1 HREL.out.2.1 HREL.out.2.2⟩

theorem ref1Number_calls (A : Option Addr) (n V c : Nat) (w : World) (hr : Rd IB w A (bitsN n V)) (hn : n ≤ 62) :
    Calls Try.prog 62 #[.slice A n c] w fun e w' => e = .returned (.int .i64 ((V % 2 ^ n : Nat) : Int)) ∧ w' = w := by
  have HR := hid hr
  clear hr
  have hp : 2 ^ n ≤ 2 ^ 62 := Nat.pow_le_pow_right (by decide) hn
  have hp0 : 0 < 2 ^ n := Nat.two_pow_pos n
  have hm : V % 2 ^ n < 2 ^ n := Nat.mod_lt _ hp0
  have HM := hid (show V % 2 ^ n < 2 ^ 62 by omega)
  clear hp hp0 hm
  go_enter Try.func62, Try.ntmps62
  go_wp2
  go_loop [3, 4] (fun v i => ∃ j : Nat, j ≤ n ∧ i = .int .i64 ((j : Int) - 1) ∧ v = .int .i64 ((V % 2 ^ n / 2 ^ j : Nat) : Int)) (fun _ i => (intOf i + 1).toNat)
  case atStart => exact ⟨n, by omega, rfl, by rw [Nat.div_eq_of_lt (Nat.mod_lt _ (Nat.two_pow_pos n))]; rfl⟩
  case round =>
    obtain ⟨j, hj, rfl, rfl⟩ := hrel
    cases j with
    | zero =>
      go_wp2_with fail
      go_ret
      exact ⟨ri (by simp), rfl⟩
    | succ j =>
      obtain ⟨ad, hA, hc⟩ := HR.out (by rw [bitsN_length]; omega)
      have hget := bitsN_get n V j (by omega)
      obtain ⟨hl, hg⟩ := List.getElem?_eq_some_iff.1 hget
      have hcell := hc j hl
      rw [hg] at hcell
      subst hA
      have hs := num_step V n j (by omega)
      have hle : V % 2 ^ n / 2 ^ (j + 1) ≤ V % 2 ^ n := Nat.div_le_self _ _
      have hle' : V % 2 ^ n / 2 ^ j ≤ V % 2 ^ n := Nat.div_le_self _ _
      have hm := HM.out
      obtain ⟨y, hy⟩ : ∃ y, y = V % 2 ^ n / 2 ^ (j + 1) := ⟨_, rfl⟩
      obtain ⟨x, hx⟩ : ∃ x, x = V / 2 ^ j % 2 := ⟨_, rfl⟩
      rw [← hy, ← hx] at hs
      have hb : 2 * (y : Int) + (x : Int) < 4611686018427387904 := by omega
      have HS := hid hs
      rw [← hy]
      have hcell' : w.cell? (ad.add j) = some (.int .i64 (x : Int)) := by rw [hcell, hx]; rfl
      have ejj : ((j + 1 : Nat) : Int) - 1 = (j : Int) := by omega
      have hjn : j < n := by omega
      rw [ejj]
      clear hcell hc hget hg hl hs hle hle' hm hx hy
      go_wp2_with fail
      go_round
      case rel => exact ⟨j, by omega, by go_num, by rw [← HS.out]; go_num⟩
      case measure => simp [intOf] <;> omega

set_option maxRecDepth 100000 in
theorem ref1Bytes_calls (A : Option Addr) (T V c : Nat) (w : World) (hr : Rd IB w A (bitsN T V)) (hcap : T ≤ c) (hV : V < 2 ^ T) (hT : T ≤ 1000000) :
    Calls Try.prog 38 #[.slice A T c] w fun e w' => ∃ x, e = .returned x ∧ New B w w' x (putLE ((T + 7) / 8) V) := by
  have HR := hid (And.intro hr hV)
  clear hr hV
  go_enter Try.func38, Try.ntmps38
  go_wp2
  go_loopw [3, 4] (fun u i wr => ∃ (k : Nat) (A1 : Option Addr) (c1 : Nat) (ob1 : Option Nat), k ≤ (T + 7) / 8 ∧ i = .int .i64 ((8 * k : Nat) : Int) ∧ u = .slice A1 k c1 ∧
      Row wr 1 (.slice A1 k c1) ob1 k ((putLE k V).map B) ∧ (∀ q, ob1 = some q → w.heap.size ≤ q) ∧ Fr No w wr)
    (fun _ i _ => T + 7 - (intOf i).toNat)
  case atStart => exact ⟨0, none, 0, none, by omega, rfl, rfl, Row.nil _ _, fun _ h => (by cases h), Fr.refl _ _⟩
  case round =>
    obtain ⟨k, A1, c1, ob1, hk, rfl, rfl, h1, h2, h3⟩ := hrel
    have HREL := hid (And.intro h1 (And.intro h2 h3))
    clear h1 h2 h3
    by_cases hlt : 8 * k < T
    · obtain ⟨i, hi⟩ : ∃ i, i = 8 * k := ⟨_, rfl⟩
      obtain ⟨m, hm⟩ : ∃ m, m = min 8 (T - i) := ⟨_, rfl⟩
      have hmn : mn ((i : Int) + 8) (T : Int) = (i : Int) + (m : Int) := by rw [mn_eq]; omega
      have hcut := cut_lh slI A T c (i : Int) ((i : Int) + (m : Int)) i m rfl rfl (by omega)
      have b2 : (i : Int) + (m : Int) ≤ (c : Int) := by omega
      have hbyte : V / 2 ^ i % 2 ^ m = V / 256 ^ k % 256 := by rw [hm, hi]; exact byte_cut V T k HR.out.2 hlt
      have hsnoc : (putLE (k + 1) V).map B = (putLE k V).map B ++ [.int .u8 ((V / 2 ^ i % 2 ^ m : Nat) : Int)] := by
        rw [putLE_snoc, List.map_append, List.map_cons, B_byteOf, hbyte]
        have : ((V : Int) / 256 ^ k) = ((V / 256 ^ k : Nat) : Int) := by simp
        rw [this]; rfl
      have hrd : Rd IB w (cutA A c i 1) (bitsN m (V / 2 ^ i)) := by
        have h1 := (HR.out.1.cutA i c (by rw [bitsN_length]; exact hcap) (by rw [bitsN_length]; omega)).take m
        rwa [bitsN_drop, bitsN_take _ _ _ (by omega)] at h1
      have hlt' : (i : Int) < T := by omega
      have hm8 : m ≤ 62 := by omega
      have h256 : V / 2 ^ i % 2 ^ m < 256 := by rw [hbyte]; omega
      have HH := hid (And.intro hi (And.intro hsnoc hrd))
      rw [← hi]
      clear hi hm hbyte hsnoc hrd
      go_wp2_with (first
        | fail
        | (go_at_call 62; refine (ref1Number_calls _ m (V / 2 ^ i) _ _ (HH.out.2.2.fr0 HREL.out.2.2) hm8).mono ?_; rintro e w' ⟨rfl, rfl⟩; generalize V / 2 ^ i % 2 ^ m = z at h256 HH ⊢)
        | (at_builtin; refine wpList_app1 slB1 rfl (.tmp 11) (.tmp 22) rfl rfl HREL.out.1 rfl (m := 1) (c := 1) (ys := [.int .u8 (z : Int)]) rfl (by simp [Value.oneCell']) (by omega) (by omega) ?_; intro A3 c3 w3 ob3 hrow3 hfr3 hob3))
      go_roundw
      case rel =>
        rw [← HH.out.2.1] at hrow3
        have := HREL.out.2.2.size
        have := HH.out.1
        refine ⟨k + 1, A3, c3, ob3, by omega, by go_num, rfl, hrow3, fun q hq => ?_, HREL.out.2.2.fresh hfr3 HREL.out.2.1⟩
        rcases hob3 with h | ⟨j, h, hj⟩
        · exact HREL.out.2.1 q (by rw [← h]; exact hq)
        · rw [h] at hq; injection hq with hq; omega
      case measure => simp [intOf] <;> omega
    · have hke : (T + 7) / 8 = k := by omega
      have hge : T ≤ 8 * k := by omega
      clear hlt
      go_wp2_with fail
      go_ret
      rw [hke]
      exact ⟨_, rfl, New.mk' rfl (by rw [putLE_length]) HREL.out.1 HREL.out.2.1 HREL.out.2.2⟩
end Go.Proofs.Ytamkfjbdcjkchaa

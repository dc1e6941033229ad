/- The contracts of CRC-32: the program's and the document's. -/
import Derived.Test.YtamkfjbdcjkchaaCrcP
import Derived.Test.YtamkfjbdcjkchaaOct
import Derived.Test.YtamkfjbdcjkchaaCat
namespace Go.Proofs.Ytamkfjbdcjkchaa
open Go.RowKit Go.Proofs.HK
set_option linter.unusedVariables false
set_option linter.unusedSimpArgs false

theorem u32_signed : IntKind.u32.signed = false := rfl
attribute [local go_sem] u32_signed
theorem wraps_u32 (n : Int) (h₀ : 0 ≤ n) (h₁ : n < 2 ^ 32) : IntKind.u32.wrap n = n := by rw [IntKind.wrap_u32]; omega
theorem xor_u32 (a b : Nat) (ha : a < 4294967296) (hb : b < 4294967296) : bits .xor .u32 (a : Int) (b : Int) = ((a ^^^ b : Nat) : Int) := by
  have ha' : a % 2 ^ 32 = a := Nat.mod_eq_of_lt ha
  have hb' : b % 2 ^ 32 = b := Nat.mod_eq_of_lt hb
  have hlt := xor_lt32 ha hb
  have hbits : IntKind.u32.bits = 32 := rfl
  simp only [bits, hbits, BitVec.ofInt_natCast, BitVec.toNat_xor, BitVec.toNat_ofNat, ha', hb']
  exact wraps_u32 _ (by omega) (by omega)
theorem not_u32 (a : Nat) (ha : a < 4294967296) : bits .xor .u32 IntKind.u32.max (a : Int) = ((4294967295 - a : Nat) : Int) := by
  have := xor_u32 4294967295 a (by omega) ha
  rw [Nat.xor_comm, ← compl32 ha] at this
  exact this
theorem low_u32 (a : Nat) (ha : a < 4294967296) : bits .and .u32 (a : Int) 1 = ((a % 2 : Nat) : Int) := by
  have := (bits_nat .u32 32 (by decide) (fun n a b => wraps_u32 n a b) a 1 ha (by decide)).1
  rw [show a &&& 1 = a % 2 from Nat.and_two_pow_sub_one_eq_mod a 1] at this
  exact this
theorem poly1 : bits .and .u32 3988292384 4294967295 = 3988292384 := by decide
theorem poly0 : bits .and .u32 3988292384 0 = 0 := by decide
theorem crcX_take (x : Nat) (bs : List UInt8) (k : Nat) (h : k < bs.length) : crcX x (bs.take (k + 1)) = cbN 8 (crcX x (bs.take k) ^^^ (rdB bs k).toNat) := by
  rw [take_snocB _ _ h, crcX_snoc]; rfl

set_option maxHeartbeats 800000 in
theorem more_calls (A : Option Addr) (bs : List UInt8) (n0 c : Nat) (hn0 : bs.length = n0) (s : Nat) (hs : s < 4294967296) (w : World) (hr : Rd B w A bs) (hl : n0 ≤ 140737488355328) :
    Calls Try.prog 53 #[.int .u32 (s : Int), .slice A n0 c] w fun e w' => e = .returned (.int .u32 (crcM s bs : Int)) ∧ w' = w := by
  have HR := hid (And.intro hr hn0)
  have HN := hid (not_u32 s hs)
  clear hr hn0
  go_enter Try.func53, Try.ntmps53
  go_wp2
  go_loop [5, 12] (fun x i => ∃ k : Nat, k ≤ n0 ∧ i = .int .i64 k ∧ x = .int .u32 (crcX (4294967295 - s) (bs.take k) : Nat)) (fun _ i => n0 - (intOf i).toNat)
  case atStart => exact ⟨0, by omega, rfl, by rw [HN.out, List.take_zero, crcX_nil]⟩
  case round =>
    obtain ⟨k, hk, rfl, rfl⟩ := hrel
    obtain ⟨X, hX⟩ : ∃ X, X = crcX (4294967295 - s) (bs.take k) := ⟨_, rfl⟩
    have hXl : X < 4294967296 := by rw [hX]; exact crcX_lt _ (by omega)
    rw [← hX]
    by_cases hlt : k < n0
    · obtain ⟨ad, rfl, hc⟩ := HR.out.1.atN k (by rw [HR.out.2]; exact hlt)
      have hb := B_lt (rdB bs k)
      obtain ⟨Y, hY⟩ : ∃ Y, Y = X ^^^ (rdB bs k).toNat := ⟨_, rfl⟩
      have HX := hid (And.intro (show cbN 8 Y = crcX (4294967295 - s) (bs.take (k + 1)) by rw [crcX_take _ _ _ (by rw [HR.out.2]; exact hlt), ← hX, hY]) (show bits .xor .u32 (X : Int) ((rdB bs k).toNat : Int) = (Y : Int) by rw [hY]; exact xor_u32 _ _ hXl (by omega)))
      have hYl : Y < 4294967296 := by rw [hY]; exact xor_lt32 hXl (by omega)
      clear hX hY
      go_wp2
      rw [HX.out.2]
      go_loop [5, 20] (fun x i => ∃ j : Nat, j ≤ 8 ∧ i = .int .i64 j ∧ x = .int .u32 (cbN j Y : Nat)) (fun _ i => 8 - (intOf i).toNat)
      case atStart => exact ⟨0, by omega, rfl, rfl⟩
      case round =>
        obtain ⟨j, hj, rfl, rfl⟩ := hrel
        obtain ⟨Z, hZ⟩ : ∃ Z, Z = cbN j Y := ⟨_, rfl⟩
        have hZl : Z < 4294967296 := by rw [hZ]; exact cbN_lt _ hYl
        have HZ := hid (show cbN (j + 1) Y = cb Z by rw [cbN_snoc, hZ])
        have HZ0 := hid hZ
        rw [← hZ]
        clear hZ
        by_cases hj8 : j < 8
        · have hlow := low_u32 Z hZl
          rcases Nat.mod_two_eq_zero_or_one Z with hp | hp
          · rw [hp] at hlow
            have hx := xor_u32 (Z / 2) 0 (by omega) (by omega)
            have HC := hid (And.intro (show cb Z = Z / 2 from cb_even hp) (hx.trans (by rw [Nat.xor_zero])))
            have p0 := poly0
            clear hp hx
            go_wp2
            go_round
            case rel => exact ⟨j + 1, by omega, by go_num, by rw [HZ.out, HC.out.1]; first | rw [← HC.out.2]; rfl | rfl⟩
            case measure => simp [intOf]; omega
          · rw [hp] at hlow
            have hx := xor_u32 (Z / 2) 3988292384 (by omega) (by omega)
            have HC := hid (And.intro (show cb Z = Z / 2 ^^^ 3988292384 from cb_odd hp) hx)
            have p1 := poly1
            clear hp hx
            go_wp2
            go_round
            case rel => exact ⟨j + 1, by omega, by go_num, by rw [HZ.out, HC.out.1, ← HC.out.2]; rfl⟩
            case measure => simp [intOf]; omega
        · obtain rfl : j = 8 := by omega
          clear hj8
          go_wp2
          go_round
          case rel => exact ⟨k + 1, by omega, by go_num, by rw [← HX.out.1, ← HZ0.out]⟩
          case measure => simp [intOf]; omega
    · obtain rfl : k = n0 := by omega
      have HO := hid (show ((4294967295 - X : Nat) : Int) = (crcM s bs : Int) by
        rw [hX, List.take_of_length_le (by rw [HR.out.2]; exact Nat.le_refl _)]; rfl)
      have HN2 := hid (not_u32 X hXl)
      clear hX
      go_wp2
      go_ret
      exact ⟨ri (by rw [HN2.out, HO.out]), rfl⟩

theorem sub_sub32 {X : Nat} (h : X < 4294967296) : 4294967295 - (4294967295 - X) = X := by omega
theorem crcM_def (s : Nat) (l : List UInt8) : crcM s l = 4294967295 - crcX (4294967295 - s) l := rfl
theorem crcM_append (s : Nat) (hs : s < 4294967296) (a b : List UInt8) : crcM s (a ++ b) = crcM (crcM s a) b := by
  have h1 : crcX (4294967295 - s) a < 4294967296 := crcX_lt _ (by omega)
  rw [crcM_def s (a ++ b), crcM_def (crcM s a) b, crcM_def s a, sub_sub32 h1, crcX_append]
theorem crcM_nil : crcM 0 [] = 0 := by rw [crcM_def, crcX_nil]
theorem of_calls (A : Option Addr) (n c : Nat) (vs : List Value) (xss : List (List UInt8)) (hn : vs.length = n) (w : World) (hx : RdS w A vs xss) (hb : xss.flatten.length ≤ 140737488355328) (hn' : n ≤ 140737488355328) :
    Calls Try.prog 22 #[.slice A n c] w fun e w' => e = .returned (.int .u32 (crcOf xss.flatten : Int)) ∧ w' = w := by
  have HX := hid (And.intro hn (And.intro hx hb))
  clear hn hx hb
  go_enter Try.func22, Try.ntmps22
  go_wp2_with fail
  go_loop [3, 8] (fun s i => ∃ k S : Nat, k ≤ n ∧ i = .int .i64 k ∧ s = .int .u32 S ∧ Hid (S = crcM 0 (xss.take k).flatten)) (fun _ i => n - (intOf i).toNat)
  case atStart => exact ⟨0, 0, by omega, rfl, rfl, crcM_nil.symm⟩
  case round =>
    obtain ⟨k, S, hk, rfl, rfl, HS⟩ := hrel
    by_cases hlt : k < n
    · have hk1 : k < vs.length := by rw [HX.out.1]; exact hlt
      have hk2 : k < xss.length := by rw [HX.out.2.1.len]; exact hk1
      obtain ⟨ad, rfl, hc⟩ : ∃ ad, A = some ad ∧ w.cell? (ad.add k) = some vs[k] := by
        obtain ⟨ad, e, hc⟩ := HX.out.2.1.rd (by omega)
        exact ⟨ad, e, hc k hk1⟩
      obtain ⟨Ai, ni, ci, e1, e2, e3⟩ := HX.out.2.1.each k hk1 hk2
      have hcell : _ = some (Value.slice Ai ni ci) := hc.trans (congrArg some e1)
      have hS := flat_take xss k hk2
      have hle := flat_le xss (k + 1)
      have hni : ni ≤ 140737488355328 := by
        have h1 : (xss.take (k + 1)).flatten.length = (xss.take k).flatten.length + ni := by rw [hS, List.length_append, e2]
        have := HX.out.2.2
        omega
      have hSl : S < 4294967296 := by rw [HS.out]; exact crcM_lt _ _
      have HH := hid (And.intro e2 (And.intro e3 (show crcM 0 (xss.take (k + 1)).flatten = crcM S xss[k] by rw [hS, crcM_append _ (by omega), HS.out])))
      clear hc e1 e2 e3 hS hle hk1
      go_wp2_with fail
      refine (more_calls Ai _ ni ci HH.out.1 S hSl _ HH.out.2.1 hni).mono ?_
      rintro e w1 ⟨rfl, rfl⟩
      go_wp2_with fail
      go_round
      case rel => exact ⟨k + 1, _, by omega, by go_num, rfl, HH.out.2.2.symm⟩
      case measure => simp [intOf]; omega
    · obtain rfl : n = k := by omega
      have HO := hid (show S = crcOf xss.flatten by
        rw [HS.out, List.take_of_length_le (by rw [HX.out.2.1.len, HX.out.1]; exact Nat.le_refl _)]; rfl)
      clear hlt
      go_wp2_with fail
      go_ret
      exact ⟨by rw [HO.out]; rfl, rfl⟩
/-- One part. -/
theorem rdS_one {w : World} {ad : Addr} {A : Option Addr} {bs : List UInt8} {n c : Nat} (hc : w.cell? ad = some (.slice A n c)) (hn : bs.length = n) (hr : Rd B w A bs) : RdS w (some ad) [.slice A n c] [bs] :=
  ⟨rfl, fun _ => ⟨ad, rfl, fun j hj => by
    have : j = 0 := by simp at hj; exact hj
    subst this
    exact hc⟩, fun i h1 h2 => by
    have : i = 0 := by simp at h1; exact h1
    subst this
    exact ⟨A, n, c, rfl, hn, hr⟩⟩

set_option maxHeartbeats 800000 in
theorem refMore_calls (A : Option Addr) (bs : List UInt8) (n0 c : Nat) (hn0 : bs.length = n0) (s : Nat) (hs : s < 4294967296) (w : World) (hr : Rd B w A bs) (hl : n0 ≤ 140737488355328) :
    Calls Try.prog 61 #[.int .u32 (s : Int), .slice A n0 c] w fun e w' => e = .returned (.int .u32 (crcM s bs : Int)) ∧ w' = w := by
  have HR := hid (And.intro hr hn0)
  clear hr hn0
  go_enter Try.func61, Try.ntmps61
  go_wp2
  go_loop [5, 6] (fun x i => ∃ k : Nat, k ≤ n0 ∧ i = .int .i64 k ∧ x = .int .u32 (crcX (4294967295 - s) (bs.take k) : Nat)) (fun _ i => n0 - (intOf i).toNat)
  case atStart => exact ⟨0, by omega, rfl, by rw [List.take_zero, crcX_nil, Int.ofNat_sub (by omega)]; rfl⟩
  case round =>
    obtain ⟨k, hk, rfl, rfl⟩ := hrel
    obtain ⟨X, hX⟩ : ∃ X, X = crcX (4294967295 - s) (bs.take k) := ⟨_, rfl⟩
    have hXl : X < 4294967296 := by rw [hX]; exact crcX_lt _ (by omega)
    rw [← hX]
    by_cases hlt : k < n0
    · obtain ⟨ad, rfl, hc⟩ := HR.out.1.atN k (by rw [HR.out.2]; exact hlt)
      have hb := B_lt (rdB bs k)
      obtain ⟨Y, hY⟩ : ∃ Y, Y = X ^^^ (rdB bs k).toNat := ⟨_, rfl⟩
      have HX := hid (And.intro (show cbN 8 Y = crcX (4294967295 - s) (bs.take (k + 1)) by rw [crcX_take _ _ _ (by rw [HR.out.2]; exact hlt), ← hX, hY]) (show bits .xor .u32 (X : Int) ((rdB bs k).toNat : Int) = (Y : Int) by rw [hY]; exact xor_u32 _ _ hXl (by omega)))
      have hYl : Y < 4294967296 := by rw [hY]; exact xor_lt32 hXl (by omega)
      clear hX hY
      go_wp2
      rw [HX.out.2]
      go_loop [5, 7] (fun x i => ∃ j : Nat, j ≤ 8 ∧ i = .int .i64 j ∧ x = .int .u32 (cbN j Y : Nat)) (fun _ i => 8 - (intOf i).toNat)
      case atStart => exact ⟨0, by omega, rfl, rfl⟩
      case round =>
        obtain ⟨j, hj, rfl, rfl⟩ := hrel
        obtain ⟨Z, hZ⟩ : ∃ Z, Z = cbN j Y := ⟨_, rfl⟩
        have hZl : Z < 4294967296 := by rw [hZ]; exact cbN_lt _ hYl
        have HZ := hid (show cbN (j + 1) Y = cb Z by rw [cbN_snoc, hZ])
        have HZ0 := hid hZ
        rw [← hZ]
        clear hZ
        by_cases hj8 : j < 8
        · rcases Nat.mod_two_eq_zero_or_one Z with hp | hp
          · have hlow : (Z : Int) % 2 = 0 := by omega
            have HC := hid (show cb Z = Z / 2 from cb_even hp)
            clear hp
            go_wp2
            go_round
            case rel => exact ⟨j + 1, by omega, by go_num, by rw [HZ.out, HC.out]; rfl⟩
            case measure => simp [intOf]; omega
          · have hlow : (Z : Int) % 2 = 1 := by omega
            have hx := xor_u32 (Z / 2) 3988292384 (by omega) (by omega)
            have HC := hid (And.intro (show cb Z = Z / 2 ^^^ 3988292384 from cb_odd hp) hx)
            clear hp hx
            go_wp2
            go_round
            case rel => exact ⟨j + 1, by omega, by go_num, by rw [HZ.out, HC.out.1, ← HC.out.2]; rfl⟩
            case measure => simp [intOf]; omega
        · obtain rfl : j = 8 := by omega
          clear hj8
          go_wp2
          go_round
          case rel => exact ⟨k + 1, by omega, by go_num, by rw [← HX.out.1, ← HZ0.out]⟩
          case measure => simp [intOf]; omega
    · obtain rfl : k = n0 := by omega
      have HO := hid (show (4294967295 - (X : Int)) = (crcM s bs : Int) by
        unfold crcM
        rw [hX, List.take_of_length_le (by rw [HR.out.2]; exact Nat.le_refl _)]
        have := crcX_lt bs (x := 4294967295 - s) (by omega)
        omega)
      clear hX
      go_wp2
      go_ret
      exact ⟨ri (by rw [← HO.out]), rfl⟩
theorem refMore0_calls (A : Option Addr) (bs : List UInt8) (n0 c : Nat) (hn0 : bs.length = n0) (w : World) (hr : Rd B w A bs) (hl : n0 ≤ 140737488355328) :
    Calls Try.prog 61 #[.int .u32 0, .slice A n0 c] w fun e w' => e = .returned (.int .u32 (crcOf bs : Int)) ∧ w' = w := refMore_calls A bs n0 c hn0 0 (by omega) w hr hl
theorem refOf_calls (A : Option Addr) (bs : List UInt8) (n0 c : Nat) (hn0 : bs.length = n0) (w : World) (hr : Rd B w A bs) (hl : n0 ≤ 140737488355328) :
    Calls Try.prog 32 #[.slice A n0 c] w fun e w' => e = .returned (.int .u32 (crcOf bs : Int)) ∧ w' = w := by
  have HR := hid (And.intro hr hn0)
  clear hr hn0
  go_enter Try.func32, Try.ntmps32
  go_wp2_with fail
  refine (refMore0_calls A bs n0 c HR.out.2 _ HR.out.1 hl).mono ?_
  rintro e w1 ⟨rfl, rfl⟩
  go_wp2_with fail
  go_ret
  exact ⟨rfl, rfl⟩
end Go.Proofs.Ytamkfjbdcjkchaa

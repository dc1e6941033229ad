/- PixelBack's walk. -/
import Derived.Test.YtdbbkdlocmafgaaPLaw1
import Derived.Test.YtdbbkdlocmafgaaBackP
import Derived.Test.YtdbbkdlocmafgaaUnpB
import Derived.Test.YtdbbkdlocmafgaaAppW
import Derived.Test.YtdbbkdlocmafgaaOpen
namespace Go.Proofs.Ytdbbkdlocmafgaa
open Go.RowKit Go.Proofs.HK
set_option linter.unusedVariables false
set_option linter.unusedSimpArgs false
attribute [local go_sem] max2_int min2_int max_two min_two

theorem and_pow (v : Int) (d : Nat) (hd : d ≤ 16) : bits .and .i64 v (((2 ^ d : Nat) : Int) - 1) = v % ((2 ^ d : Nat) : Int) := by
  have h1 : 1 ≤ 2 ^ d := Nat.one_le_two_pow
  have h2 : 2 ^ d ≤ 2 ^ 16 := Nat.pow_le_pow_right (by decide) hd
  have e : (((2 ^ d : Nat) : Int) - 1) = ((2 ^ d - 1 : Nat) : Int) := by rw [Int.ofNat_sub h1]; rfl
  have hlaw : bits .and .i64 v ((2 ^ d - 1 : Nat) : Int) = IntKind.i64.wrap (((v % 2 ^ 64).toNat &&& (((2 ^ d - 1 : Nat) : Int) % 2 ^ 64).toNat : Nat) : Int) := rfl
  have e2 : (((2 ^ d - 1 : Nat) : Int) % 2 ^ 64).toNat = 2 ^ d - 1 := by
    generalize 2 ^ d - 1 = m at *
    rw [Int.emod_eq_of_lt (by omega) (by omega)]; rfl
  rw [e, hlaw, e2, Nat.and_two_pow_sub_one_eq_mod]
  have hm : (v % 2 ^ 64).toNat % 2 ^ d < 2 ^ d := Nat.mod_lt _ (Nat.two_pow_pos d)
  rw [w64 _ (by omega) (by omega), Int.natCast_emod, Int.toNat_of_nonneg (Int.emod_nonneg _ (by decide))]
  exact Int.emod_emod_of_dvd v (by
    have : (2 : Int) ^ 64 = ((2 ^ d : Nat) : Int) * ((2 ^ (64 - d) : Nat) : Int) := by
      rw [← Int.natCast_mul, ← Nat.pow_add, show d + (64 - d) = 64 by omega]; rfl
    rw [this]; exact Int.dvd_mul_right _ _)
/-- What is packed: the lowest d bits of each. -/
def lowL (d : Nat) (xs : List Int) : List Nat := xs.map fun v => (v % ((2 ^ d : Nat) : Int)).toNat
theorem lowL_lt (d : Nat) (xs : List Int) : ∀ y ∈ lowL d xs, y < 2 ^ d := by
  intro y hy
  obtain ⟨v, _, rfl⟩ := List.mem_map.1 hy
  have hp := Nat.two_pow_pos d
  have h1 := Int.emod_nonneg v (show ((2 ^ d : Nat) : Int) ≠ 0 by omega)
  have h2 := Int.emod_lt_of_pos v (show (0 : Int) < ((2 ^ d : Nat) : Int) by omega)
  omega
theorem lowL_cast (d : Nat) (xs : List Int) : (lowL d xs).map (fun y : Nat => (y : Int)) = xs.map fun v => v % ((2 ^ d : Nat) : Int) := by
  unfold lowL
  rw [List.map_map]
  refine List.map_congr_left (fun v _ => ?_)
  have hp := Nat.two_pow_pos d
  exact Int.toNat_of_nonneg (Int.emod_nonneg v (by omega))
theorem pack_low (d : Nat) (hd : d = 1 ∨ d = 2 ∨ d = 4 ∨ d = 8 ∨ d = 16) (xs : List Int) : packE ((lowL d xs).map (fun y : Nat => (y : Int))) d = 0 ∧ packV ((lowL d xs).map (fun y : Nat => (y : Int))) d = packB d (lowL d xs) := by
  have hdp : depB (d : Int) = true := decide_eq_true (by omega)
  have hw : witB ((lowL d xs).map (fun y : Nat => (y : Int))) (2 ^ (d : Int).toNat - 1) = true := wit_iff.2 fun v hv => by
    obtain ⟨y, hy, rfl⟩ := List.mem_map.1 hv
    have h1 := lowL_lt d xs y hy
    rw [Int.toNat_natCast]
    have e : ((2 : Int) ^ d) = ((2 ^ d : Nat) : Int) := by simp
    rw [e]
    omega
  have hm : ((lowL d xs).map (fun y : Nat => (y : Int))).map Int.toNat = lowL d xs := by
    rw [List.map_map]
    conv => rhs; rw [← List.map_id (lowL d xs)]
    rfl
  unfold packE packV
  rw [if_pos ⟨hdp, hw⟩, if_pos ⟨hdp, hw⟩, hm]
  exact ⟨rfl, rfl⟩
set_option maxRecDepth 100000 in
set_option maxHeartbeats 1600000 in
theorem back_1 (A : Option Addr) (xs : List Int) (n c : Nat) (dep : Nat) (hd : dep < 256) (hk : (dep : Int) % 5 = 0) (B1 : Option Addr) (more : List UInt8) (m c1 : Nat) (w : World) (s0 : SlIn (Value.int .i64) 8 w A xs n c) (hxb : ∀ i (h : i < xs.length), -9223372036854775808 ≤ xs[i] ∧ xs[i] ≤ 9223372036854775807) (s2 : SlIn B 1 w B1 more m c1) :
    Calls Try.prog 8 #[.slice A n c, .int .u8 (dep : Int), .slice B1 m c1] w fun e w' => e = .returned (.bool true) ∧ Fr No w w' := by
  have HS := hid (And.intro s0 (And.intro s2 hxb))
  obtain ⟨zs, hzs⟩ : ∃ zs, zs = (lowL 1 xs).map (fun y : Nat => (y : Int)) := ⟨_, rfl⟩
  have hzl : zs.length = n := by rw [hzs, List.length_map]; unfold lowL; rw [List.length_map]; exact s0.len
  have hP := pack_low 1 (by decide) xs
  have hU := unp_pack 1 (by decide) (lowL 1 xs) (lowL_lt 1 xs) more
  have hll : (lowL 1 xs).length = n := by unfold lowL; rw [List.length_map]; exact s0.len
  rw [← hzs] at hP hU
  rw [hll] at hU
  obtain ⟨nb, hnb⟩ : ∃ nb, nb = (1 * n + 7) / 8 := ⟨_, rfl⟩
  have hbl : (packB 1 (lowL 1 xs)).length = nb := by unfold packB; rw [beL_length, hll, hnb]
  have hn44 : n ≤ 17592186043904 := by have := s0.reach; omega
  have hm47 : m ≤ 140737488351232 := by have := s2.reach; omega
  have hnbl : nb ≤ 35184372088000 := by omega
  have hck : ((nb : Int) == ((n : Int) * 1 + 7) / 8) = true := by rw [beq_iff_eq, hnb]; omega
  have HP := hid (And.intro hP (And.intro hU (And.intro hbl (And.intro hzs (And.intro hzl hck)))))
  clear s0 s2 hxb hP hU hbl hzs hzl hnb hll hck
  go_enter Try.func8, Try.ntmps8
  go_wp2_with fail
  refine (fixed15_calls _).mono ?_
  rintro e w1 ⟨rfl, hf1⟩
  have H1 := hid hf1
  clear hf1
  go_wp2_with fail
  have HW1 := hid (show Fr No w1 (w1.alloc (.cells #[.int .i64 1, .int .i64 2, .int .i64 4, .int .i64 8, .int .i64 16] 3)) from (Fr.refl No w1).alloc _)
  rw [hk]
  clear hk
  go_loopw [8, 24] (fun l i wr => ∃ (k : Nat) (Al : Option Addr) (cl : Nat) (obl : Option Nat), i = .int .i64 k ∧ l = .slice Al k cl ∧ Hid (k ≤ n ∧ Row wr 1 (.slice Al k cl) obl k ((zs.take k).map II) ∧ (∀ q, obl = some q → w1.heap.size ≤ q) ∧ Fr No w1 wr)) (fun _ i _ => n - (intOf i).toNat)
  case atStart => exact ⟨0, none, 0, none, rfl, rfl, by omega, Row.nil _ _, fun _ h => (by cases h), HW1.out⟩
  case round =>
    obtain ⟨k, Al, cl, obl, rfl, rfl, HQ⟩ := hrel
    by_cases hlt : k < n
    · have hlt' : (k : Int) < (n : Int) := by omega
      have hkx : k < xs.length := by rw [HS.out.1.len]; exact hlt
      obtain ⟨ad, rfl, hc0⟩ : ∃ ad, A = some ad ∧ wr.cell? (ad.add k) = some (.int .i64 xs[k]) := by
        obtain ⟨ad, e, hc⟩ := (HS.out.1.rd.fr0 (H1.out.then HQ.out.2.2.2)) (by omega)
        exact ⟨ad, e, hc k hkx⟩
      obtain ⟨v, hv⟩ : ∃ v, v = xs[k] := ⟨_, rfl⟩
      have hvb := HS.out.2.2 k hkx
      rw [← hv] at hc0 hvb
      have hand : bits .and .i64 v 1 = v % ((2 ^ 1 : Nat) : Int) := and_pow v 1 (by decide)
      have hst : (zs.take (k + 1)).map II = (zs.take k).map II ++ [.int .i64 (v % ((2 ^ 1 : Nat) : Int))] := by
        have hkz : k < zs.length := by rw [HP.out.2.2.2.2.1]; exact hlt
        have e : zs[k] = v % ((2 ^ 1 : Nat) : Int) := by
          have : zs = xs.map fun v => v % ((2 ^ 1 : Nat) : Int) := HP.out.2.2.2.1.trans (lowL_cast 1 xs)
          simp only [this, List.getElem_map, hv]
        rw [List.take_succ_eq_append_getElem hkz, List.map_append, e]; rfl
      have HST := hid (And.intro hst hand)
      clear hst hand hv hkx
      go_wp2_with (at_builtin; refine wpList_app1 slII rfl (.tmp 28) (.tmp 35) rfl rfl HQ.out.2.1 rfl (m := 1) (c := 1) (ys := [.int .i64 (bits .and .i64 v 1)]) rfl (by simp [Value.oneCell']) (by omega) (by omega) ?_; intro A3 c3 w3 ob3 hrow3 hfr3 hob3)
      rw [HST.out.2, ← HST.out.1] at hrow3
      have hs3 := HQ.out.2.2.2.size
      go_roundw
      case rel =>
        refine ⟨k + 1, A3, c3, ob3, by go_num, rfl, by omega, hrow3, fun q hq => ?_, HQ.out.2.2.2.fresh hfr3 HQ.out.2.2.1⟩
        rcases hob3 with h | ⟨j, h, hj⟩
        · exact HQ.out.2.2.1 q (by rw [← h]; exact hq)
        · rw [h] at hq; injection hq with hq; omega
      case measure => simp [intOf] <;> omega
    · obtain rfl : k = n := by have := HQ.out.1; omega
      have hge : ¬ ((k : Int) < (k : Int)) := by omega
      clear hlt
      have hq := HQ.out.2.1
      rw [List.take_of_length_le (by rw [HP.out.2.2.2.2.1]; exact Nat.le_refl _)] at hq
      obtain ⟨r1, r2, r3, r4⟩ := hq.rd
      have HL := hid (And.intro r1 (And.intro r4 HQ.out.2.2.2))
      clear hq r1 r2 r3 r4 HQ
      go_wp2_with fail
      refine (pack_calls Al zs k cl 1 _ HL.out.2.1 HL.out.1 (by omega)).mono ?_
      rw [show packE zs 1 = 0 from HP.out.1.1, show packV zs 1 = packB 1 (lowL 1 xs) from HP.out.1.2]
      rintro e w4 ⟨v4, rfl, hnew4⟩
      obtain ⟨A4, n4, c4, rfl, N4⟩ := hnew4.use
      clear hnew4
      obtain rfl : n4 = nb := by rw [← N4.out.1, HP.out.2.2.1]
      obtain ⟨ob4, hrow4, hob4⟩ := N4.out.2.2.2.2
      have HR4 := hid (And.intro hrow4 hob4)
      clear hrow4 hob4
      go_wp2_with (at_builtin; refine wpList_appW slU8 rfl (.tmp 45) (.tmp 46) rfl rfl HR4.out.1 rfl (by rw [List.length_map, HS.out.2.1.len, Nat.mul_one]) (Rd.cells.1 (HS.out.2.1.rd.fr0 ((H1.out.then HL.out.2.2).then N4.out.2.2.2.1))) (oneB more) (by omega) (by omega) ?_; intro A5 c5 w5 ob5 hrow5 hfr5 hob5)
      have hrow5' : Row w5 1 (.slice A5 (n4 + m) c5) ob5 (n4 + m) ((packB 1 (lowL 1 xs) ++ more).map B) := by rw [List.map_append]; exact hrow5
      obtain ⟨r1, r2, _, r4⟩ := hrow5'.rd
      have hF15 : Fr No w1 w5 := (HL.out.2.2.then N4.out.2.2.2.1).fresh hfr5 (fun q hq => Nat.le_trans HL.out.2.2.size (HR4.out.2 q hq))
      have hF35 : Fr No wr w5 := N4.out.2.2.2.1.fresh hfr5 HR4.out.2
      have H5 := hid (And.intro r1 (And.intro r4 (And.intro hF15 hF35)))
      clear hrow5 hrow5' hfr5 hob5 r1 r2 r4 hF15 hF35
      refine (unpackB_calls A5 (packB 1 (lowL 1 xs) ++ more) (n4 + m) c5 1 (k : Int) _ H5.out.2.1 H5.out.1 (by omega) (by omega)).mono ?_
      rw [show unpE (packB 1 (lowL 1 xs) ++ more) 1 k = 0 from HP.out.2.1.1, show unpV (packB 1 (lowL 1 xs) ++ more) 1 k = zs from HP.out.2.1.2]
      rintro e w6 ⟨v6, rfl, hnew6⟩
      obtain ⟨A6, n6, c6, rfl, N6⟩ := hnew6.use
      clear hnew6
      have hck := HP.out.2.2.2.2.2
      (try rw [Int.mul_one] at hck)
      go_wp2_with fail
      refine (sameInts_calls A6 Al zs zs n6 k c6 cl N6.out.1 HL.out.2.1 _ N6.out.2.1 (HL.out.1.fr0 (H5.out.2.2.2.then N6.out.2.2.2.1)) (by have := N6.out.1; have := HL.out.2.1; omega)).mono ?_
      rw [decide_eq_true (show zs = zs from rfl)]
      rintro e w7 ⟨rfl, q, rfl⟩
      go_wp2_with fail
      go_ret
      exact ⟨rfl, ((H1.out.then H5.out.2.2.1).then N6.out.2.2.2.1).drewN q⟩
set_option maxRecDepth 100000 in
set_option maxHeartbeats 1600000 in
theorem back_2 (A : Option Addr) (xs : List Int) (n c : Nat) (dep : Nat) (hd : dep < 256) (hk : (dep : Int) % 5 = 1) (B1 : Option Addr) (more : List UInt8) (m c1 : Nat) (w : World) (s0 : SlIn (Value.int .i64) 8 w A xs n c) (hxb : ∀ i (h : i < xs.length), -9223372036854775808 ≤ xs[i] ∧ xs[i] ≤ 9223372036854775807) (s2 : SlIn B 1 w B1 more m c1) :
    Calls Try.prog 8 #[.slice A n c, .int .u8 (dep : Int), .slice B1 m c1] w fun e w' => e = .returned (.bool true) ∧ Fr No w w' := by
  have HS := hid (And.intro s0 (And.intro s2 hxb))
  obtain ⟨zs, hzs⟩ : ∃ zs, zs = (lowL 2 xs).map (fun y : Nat => (y : Int)) := ⟨_, rfl⟩
  have hzl : zs.length = n := by rw [hzs, List.length_map]; unfold lowL; rw [List.length_map]; exact s0.len
  have hP := pack_low 2 (by decide) xs
  have hU := unp_pack 2 (by decide) (lowL 2 xs) (lowL_lt 2 xs) more
  have hll : (lowL 2 xs).length = n := by unfold lowL; rw [List.length_map]; exact s0.len
  rw [← hzs] at hP hU
  rw [hll] at hU
  obtain ⟨nb, hnb⟩ : ∃ nb, nb = (2 * n + 7) / 8 := ⟨_, rfl⟩
  have hbl : (packB 2 (lowL 2 xs)).length = nb := by unfold packB; rw [beL_length, hll, hnb]
  have hn44 : n ≤ 17592186043904 := by have := s0.reach; omega
  have hm47 : m ≤ 140737488351232 := by have := s2.reach; omega
  have hnbl : nb ≤ 35184372088000 := by omega
  have hck : ((nb : Int) == ((n : Int) * 2 + 7) / 8) = true := by rw [beq_iff_eq, hnb]; omega
  have HP := hid (And.intro hP (And.intro hU (And.intro hbl (And.intro hzs (And.intro hzl hck)))))
  clear s0 s2 hxb hP hU hbl hzs hzl hnb hll hck
  go_enter Try.func8, Try.ntmps8
  go_wp2_with fail
  refine (fixed15_calls _).mono ?_
  rintro e w1 ⟨rfl, hf1⟩
  have H1 := hid hf1
  clear hf1
  go_wp2_with fail
  have HW1 := hid (show Fr No w1 (w1.alloc (.cells #[.int .i64 1, .int .i64 2, .int .i64 4, .int .i64 8, .int .i64 16] 3)) from (Fr.refl No w1).alloc _)
  rw [hk]
  clear hk
  go_loopw [8, 24] (fun l i wr => ∃ (k : Nat) (Al : Option Addr) (cl : Nat) (obl : Option Nat), i = .int .i64 k ∧ l = .slice Al k cl ∧ Hid (k ≤ n ∧ Row wr 1 (.slice Al k cl) obl k ((zs.take k).map II) ∧ (∀ q, obl = some q → w1.heap.size ≤ q) ∧ Fr No w1 wr)) (fun _ i _ => n - (intOf i).toNat)
  case atStart => exact ⟨0, none, 0, none, rfl, rfl, by omega, Row.nil _ _, fun _ h => (by cases h), HW1.out⟩
  case round =>
    obtain ⟨k, Al, cl, obl, rfl, rfl, HQ⟩ := hrel
    by_cases hlt : k < n
    · have hlt' : (k : Int) < (n : Int) := by omega
      have hkx : k < xs.length := by rw [HS.out.1.len]; exact hlt
      obtain ⟨ad, rfl, hc0⟩ : ∃ ad, A = some ad ∧ wr.cell? (ad.add k) = some (.int .i64 xs[k]) := by
        obtain ⟨ad, e, hc⟩ := (HS.out.1.rd.fr0 (H1.out.then HQ.out.2.2.2)) (by omega)
        exact ⟨ad, e, hc k hkx⟩
      obtain ⟨v, hv⟩ : ∃ v, v = xs[k] := ⟨_, rfl⟩
      have hvb := HS.out.2.2 k hkx
      rw [← hv] at hc0 hvb
      have hand : bits .and .i64 v 3 = v % ((2 ^ 2 : Nat) : Int) := and_pow v 2 (by decide)
      have hst : (zs.take (k + 1)).map II = (zs.take k).map II ++ [.int .i64 (v % ((2 ^ 2 : Nat) : Int))] := by
        have hkz : k < zs.length := by rw [HP.out.2.2.2.2.1]; exact hlt
        have e : zs[k] = v % ((2 ^ 2 : Nat) : Int) := by
          have : zs = xs.map fun v => v % ((2 ^ 2 : Nat) : Int) := HP.out.2.2.2.1.trans (lowL_cast 2 xs)
          simp only [this, List.getElem_map, hv]
        rw [List.take_succ_eq_append_getElem hkz, List.map_append, e]; rfl
      have HST := hid (And.intro hst hand)
      clear hst hand hv hkx
      go_wp2_with (at_builtin; refine wpList_app1 slII rfl (.tmp 28) (.tmp 35) rfl rfl HQ.out.2.1 rfl (m := 1) (c := 1) (ys := [.int .i64 (bits .and .i64 v 3)]) rfl (by simp [Value.oneCell']) (by omega) (by omega) ?_; intro A3 c3 w3 ob3 hrow3 hfr3 hob3)
      rw [HST.out.2, ← HST.out.1] at hrow3
      have hs3 := HQ.out.2.2.2.size
      go_roundw
      case rel =>
        refine ⟨k + 1, A3, c3, ob3, by go_num, rfl, by omega, hrow3, fun q hq => ?_, HQ.out.2.2.2.fresh hfr3 HQ.out.2.2.1⟩
        rcases hob3 with h | ⟨j, h, hj⟩
        · exact HQ.out.2.2.1 q (by rw [← h]; exact hq)
        · rw [h] at hq; injection hq with hq; omega
      case measure => simp [intOf] <;> omega
    · obtain rfl : k = n := by have := HQ.out.1; omega
      have hge : ¬ ((k : Int) < (k : Int)) := by omega
      clear hlt
      have hq := HQ.out.2.1
      rw [List.take_of_length_le (by rw [HP.out.2.2.2.2.1]; exact Nat.le_refl _)] at hq
      obtain ⟨r1, r2, r3, r4⟩ := hq.rd
      have HL := hid (And.intro r1 (And.intro r4 HQ.out.2.2.2))
      clear hq r1 r2 r3 r4 HQ
      go_wp2_with fail
      refine (pack_calls Al zs k cl 2 _ HL.out.2.1 HL.out.1 (by omega)).mono ?_
      rw [show packE zs 2 = 0 from HP.out.1.1, show packV zs 2 = packB 2 (lowL 2 xs) from HP.out.1.2]
      rintro e w4 ⟨v4, rfl, hnew4⟩
      obtain ⟨A4, n4, c4, rfl, N4⟩ := hnew4.use
      clear hnew4
      obtain rfl : n4 = nb := by rw [← N4.out.1, HP.out.2.2.1]
      obtain ⟨ob4, hrow4, hob4⟩ := N4.out.2.2.2.2
      have HR4 := hid (And.intro hrow4 hob4)
      clear hrow4 hob4
      go_wp2_with (at_builtin; refine wpList_appW slU8 rfl (.tmp 45) (.tmp 46) rfl rfl HR4.out.1 rfl (by rw [List.length_map, HS.out.2.1.len, Nat.mul_one]) (Rd.cells.1 (HS.out.2.1.rd.fr0 ((H1.out.then HL.out.2.2).then N4.out.2.2.2.1))) (oneB more) (by omega) (by omega) ?_; intro A5 c5 w5 ob5 hrow5 hfr5 hob5)
      have hrow5' : Row w5 1 (.slice A5 (n4 + m) c5) ob5 (n4 + m) ((packB 2 (lowL 2 xs) ++ more).map B) := by rw [List.map_append]; exact hrow5
      obtain ⟨r1, r2, _, r4⟩ := hrow5'.rd
      have hF15 : Fr No w1 w5 := (HL.out.2.2.then N4.out.2.2.2.1).fresh hfr5 (fun q hq => Nat.le_trans HL.out.2.2.size (HR4.out.2 q hq))
      have hF35 : Fr No wr w5 := N4.out.2.2.2.1.fresh hfr5 HR4.out.2
      have H5 := hid (And.intro r1 (And.intro r4 (And.intro hF15 hF35)))
      clear hrow5 hrow5' hfr5 hob5 r1 r2 r4 hF15 hF35
      refine (unpackB_calls A5 (packB 2 (lowL 2 xs) ++ more) (n4 + m) c5 2 (k : Int) _ H5.out.2.1 H5.out.1 (by omega) (by omega)).mono ?_
      rw [show unpE (packB 2 (lowL 2 xs) ++ more) 2 k = 0 from HP.out.2.1.1, show unpV (packB 2 (lowL 2 xs) ++ more) 2 k = zs from HP.out.2.1.2]
      rintro e w6 ⟨v6, rfl, hnew6⟩
      obtain ⟨A6, n6, c6, rfl, N6⟩ := hnew6.use
      clear hnew6
      have hck := HP.out.2.2.2.2.2
      (try rw [Int.mul_one] at hck)
      go_wp2_with fail
      refine (sameInts_calls A6 Al zs zs n6 k c6 cl N6.out.1 HL.out.2.1 _ N6.out.2.1 (HL.out.1.fr0 (H5.out.2.2.2.then N6.out.2.2.2.1)) (by have := N6.out.1; have := HL.out.2.1; omega)).mono ?_
      rw [decide_eq_true (show zs = zs from rfl)]
      rintro e w7 ⟨rfl, q, rfl⟩
      go_wp2_with fail
      go_ret
      exact ⟨rfl, ((H1.out.then H5.out.2.2.1).then N6.out.2.2.2.1).drewN q⟩
set_option maxRecDepth 100000 in
set_option maxHeartbeats 1600000 in
theorem back_4 (A : Option Addr) (xs : List Int) (n c : Nat) (dep : Nat) (hd : dep < 256) (hk : (dep : Int) % 5 = 2) (B1 : Option Addr) (more : List UInt8) (m c1 : Nat) (w : World) (s0 : SlIn (Value.int .i64) 8 w A xs n c) (hxb : ∀ i (h : i < xs.length), -9223372036854775808 ≤ xs[i] ∧ xs[i] ≤ 9223372036854775807) (s2 : SlIn B 1 w B1 more m c1) :
    Calls Try.prog 8 #[.slice A n c, .int .u8 (dep : Int), .slice B1 m c1] w fun e w' => e = .returned (.bool true) ∧ Fr No w w' := by
  have HS := hid (And.intro s0 (And.intro s2 hxb))
  obtain ⟨zs, hzs⟩ : ∃ zs, zs = (lowL 4 xs).map (fun y : Nat => (y : Int)) := ⟨_, rfl⟩
  have hzl : zs.length = n := by rw [hzs, List.length_map]; unfold lowL; rw [List.length_map]; exact s0.len
  have hP := pack_low 4 (by decide) xs
  have hU := unp_pack 4 (by decide) (lowL 4 xs) (lowL_lt 4 xs) more
  have hll : (lowL 4 xs).length = n := by unfold lowL; rw [List.length_map]; exact s0.len
  rw [← hzs] at hP hU
  rw [hll] at hU
  obtain ⟨nb, hnb⟩ : ∃ nb, nb = (4 * n + 7) / 8 := ⟨_, rfl⟩
  have hbl : (packB 4 (lowL 4 xs)).length = nb := by unfold packB; rw [beL_length, hll, hnb]
  have hn44 : n ≤ 17592186043904 := by have := s0.reach; omega
  have hm47 : m ≤ 140737488351232 := by have := s2.reach; omega
  have hnbl : nb ≤ 35184372088000 := by omega
  have hck : ((nb : Int) == ((n : Int) * 4 + 7) / 8) = true := by rw [beq_iff_eq, hnb]; omega
  have HP := hid (And.intro hP (And.intro hU (And.intro hbl (And.intro hzs (And.intro hzl hck)))))
  clear s0 s2 hxb hP hU hbl hzs hzl hnb hll hck
  go_enter Try.func8, Try.ntmps8
  go_wp2_with fail
  refine (fixed15_calls _).mono ?_
  rintro e w1 ⟨rfl, hf1⟩
  have H1 := hid hf1
  clear hf1
  go_wp2_with fail
  have HW1 := hid (show Fr No w1 (w1.alloc (.cells #[.int .i64 1, .int .i64 2, .int .i64 4, .int .i64 8, .int .i64 16] 3)) from (Fr.refl No w1).alloc _)
  rw [hk]
  clear hk
  go_loopw [8, 24] (fun l i wr => ∃ (k : Nat) (Al : Option Addr) (cl : Nat) (obl : Option Nat), i = .int .i64 k ∧ l = .slice Al k cl ∧ Hid (k ≤ n ∧ Row wr 1 (.slice Al k cl) obl k ((zs.take k).map II) ∧ (∀ q, obl = some q → w1.heap.size ≤ q) ∧ Fr No w1 wr)) (fun _ i _ => n - (intOf i).toNat)
  case atStart => exact ⟨0, none, 0, none, rfl, rfl, by omega, Row.nil _ _, fun _ h => (by cases h), HW1.out⟩
  case round =>
    obtain ⟨k, Al, cl, obl, rfl, rfl, HQ⟩ := hrel
    by_cases hlt : k < n
    · have hlt' : (k : Int) < (n : Int) := by omega
      have hkx : k < xs.length := by rw [HS.out.1.len]; exact hlt
      obtain ⟨ad, rfl, hc0⟩ : ∃ ad, A = some ad ∧ wr.cell? (ad.add k) = some (.int .i64 xs[k]) := by
        obtain ⟨ad, e, hc⟩ := (HS.out.1.rd.fr0 (H1.out.then HQ.out.2.2.2)) (by omega)
        exact ⟨ad, e, hc k hkx⟩
      obtain ⟨v, hv⟩ : ∃ v, v = xs[k] := ⟨_, rfl⟩
      have hvb := HS.out.2.2 k hkx
      rw [← hv] at hc0 hvb
      have hand : bits .and .i64 v 15 = v % ((2 ^ 4 : Nat) : Int) := and_pow v 4 (by decide)
      have hst : (zs.take (k + 1)).map II = (zs.take k).map II ++ [.int .i64 (v % ((2 ^ 4 : Nat) : Int))] := by
        have hkz : k < zs.length := by rw [HP.out.2.2.2.2.1]; exact hlt
        have e : zs[k] = v % ((2 ^ 4 : Nat) : Int) := by
          have : zs = xs.map fun v => v % ((2 ^ 4 : Nat) : Int) := HP.out.2.2.2.1.trans (lowL_cast 4 xs)
          simp only [this, List.getElem_map, hv]
        rw [List.take_succ_eq_append_getElem hkz, List.map_append, e]; rfl
      have HST := hid (And.intro hst hand)
      clear hst hand hv hkx
      go_wp2_with (at_builtin; refine wpList_app1 slII rfl (.tmp 28) (.tmp 35) rfl rfl HQ.out.2.1 rfl (m := 1) (c := 1) (ys := [.int .i64 (bits .and .i64 v 15)]) rfl (by simp [Value.oneCell']) (by omega) (by omega) ?_; intro A3 c3 w3 ob3 hrow3 hfr3 hob3)
      rw [HST.out.2, ← HST.out.1] at hrow3
      have hs3 := HQ.out.2.2.2.size
      go_roundw
      case rel =>
        refine ⟨k + 1, A3, c3, ob3, by go_num, rfl, by omega, hrow3, fun q hq => ?_, HQ.out.2.2.2.fresh hfr3 HQ.out.2.2.1⟩
        rcases hob3 with h | ⟨j, h, hj⟩
        · exact HQ.out.2.2.1 q (by rw [← h]; exact hq)
        · rw [h] at hq; injection hq with hq; omega
      case measure => simp [intOf] <;> omega
    · obtain rfl : k = n := by have := HQ.out.1; omega
      have hge : ¬ ((k : Int) < (k : Int)) := by omega
      clear hlt
      have hq := HQ.out.2.1
      rw [List.take_of_length_le (by rw [HP.out.2.2.2.2.1]; exact Nat.le_refl _)] at hq
      obtain ⟨r1, r2, r3, r4⟩ := hq.rd
      have HL := hid (And.intro r1 (And.intro r4 HQ.out.2.2.2))
      clear hq r1 r2 r3 r4 HQ
      go_wp2_with fail
      refine (pack_calls Al zs k cl 4 _ HL.out.2.1 HL.out.1 (by omega)).mono ?_
      rw [show packE zs 4 = 0 from HP.out.1.1, show packV zs 4 = packB 4 (lowL 4 xs) from HP.out.1.2]
      rintro e w4 ⟨v4, rfl, hnew4⟩
      obtain ⟨A4, n4, c4, rfl, N4⟩ := hnew4.use
      clear hnew4
      obtain rfl : n4 = nb := by rw [← N4.out.1, HP.out.2.2.1]
      obtain ⟨ob4, hrow4, hob4⟩ := N4.out.2.2.2.2
      have HR4 := hid (And.intro hrow4 hob4)
      clear hrow4 hob4
      go_wp2_with (at_builtin; refine wpList_appW slU8 rfl (.tmp 45) (.tmp 46) rfl rfl HR4.out.1 rfl (by rw [List.length_map, HS.out.2.1.len, Nat.mul_one]) (Rd.cells.1 (HS.out.2.1.rd.fr0 ((H1.out.then HL.out.2.2).then N4.out.2.2.2.1))) (oneB more) (by omega) (by omega) ?_; intro A5 c5 w5 ob5 hrow5 hfr5 hob5)
      have hrow5' : Row w5 1 (.slice A5 (n4 + m) c5) ob5 (n4 + m) ((packB 4 (lowL 4 xs) ++ more).map B) := by rw [List.map_append]; exact hrow5
      obtain ⟨r1, r2, _, r4⟩ := hrow5'.rd
      have hF15 : Fr No w1 w5 := (HL.out.2.2.then N4.out.2.2.2.1).fresh hfr5 (fun q hq => Nat.le_trans HL.out.2.2.size (HR4.out.2 q hq))
      have hF35 : Fr No wr w5 := N4.out.2.2.2.1.fresh hfr5 HR4.out.2
      have H5 := hid (And.intro r1 (And.intro r4 (And.intro hF15 hF35)))
      clear hrow5 hrow5' hfr5 hob5 r1 r2 r4 hF15 hF35
      refine (unpackB_calls A5 (packB 4 (lowL 4 xs) ++ more) (n4 + m) c5 4 (k : Int) _ H5.out.2.1 H5.out.1 (by omega) (by omega)).mono ?_
      rw [show unpE (packB 4 (lowL 4 xs) ++ more) 4 k = 0 from HP.out.2.1.1, show unpV (packB 4 (lowL 4 xs) ++ more) 4 k = zs from HP.out.2.1.2]
      rintro e w6 ⟨v6, rfl, hnew6⟩
      obtain ⟨A6, n6, c6, rfl, N6⟩ := hnew6.use
      clear hnew6
      have hck := HP.out.2.2.2.2.2
      (try rw [Int.mul_one] at hck)
      go_wp2_with fail
      refine (sameInts_calls A6 Al zs zs n6 k c6 cl N6.out.1 HL.out.2.1 _ N6.out.2.1 (HL.out.1.fr0 (H5.out.2.2.2.then N6.out.2.2.2.1)) (by have := N6.out.1; have := HL.out.2.1; omega)).mono ?_
      rw [decide_eq_true (show zs = zs from rfl)]
      rintro e w7 ⟨rfl, q, rfl⟩
      go_wp2_with fail
      go_ret
      exact ⟨rfl, ((H1.out.then H5.out.2.2.1).then N6.out.2.2.2.1).drewN q⟩
set_option maxRecDepth 100000 in
set_option maxHeartbeats 1600000 in
theorem back_8 (A : Option Addr) (xs : List Int) (n c : Nat) (dep : Nat) (hd : dep < 256) (hk : (dep : Int) % 5 = 3) (B1 : Option Addr) (more : List UInt8) (m c1 : Nat) (w : World) (s0 : SlIn (Value.int .i64) 8 w A xs n c) (hxb : ∀ i (h : i < xs.length), -9223372036854775808 ≤ xs[i] ∧ xs[i] ≤ 9223372036854775807) (s2 : SlIn B 1 w B1 more m c1) :
    Calls Try.prog 8 #[.slice A n c, .int .u8 (dep : Int), .slice B1 m c1] w fun e w' => e = .returned (.bool true) ∧ Fr No w w' := by
  have HS := hid (And.intro s0 (And.intro s2 hxb))
  obtain ⟨zs, hzs⟩ : ∃ zs, zs = (lowL 8 xs).map (fun y : Nat => (y : Int)) := ⟨_, rfl⟩
  have hzl : zs.length = n := by rw [hzs, List.length_map]; unfold lowL; rw [List.length_map]; exact s0.len
  have hP := pack_low 8 (by decide) xs
  have hU := unp_pack 8 (by decide) (lowL 8 xs) (lowL_lt 8 xs) more
  have hll : (lowL 8 xs).length = n := by unfold lowL; rw [List.length_map]; exact s0.len
  rw [← hzs] at hP hU
  rw [hll] at hU
  obtain ⟨nb, hnb⟩ : ∃ nb, nb = (8 * n + 7) / 8 := ⟨_, rfl⟩
  have hbl : (packB 8 (lowL 8 xs)).length = nb := by unfold packB; rw [beL_length, hll, hnb]
  have hn44 : n ≤ 17592186043904 := by have := s0.reach; omega
  have hm47 : m ≤ 140737488351232 := by have := s2.reach; omega
  have hnbl : nb ≤ 35184372088000 := by omega
  have hck : ((nb : Int) == ((n : Int) * 8 + 7) / 8) = true := by rw [beq_iff_eq, hnb]; omega
  have HP := hid (And.intro hP (And.intro hU (And.intro hbl (And.intro hzs (And.intro hzl hck)))))
  clear s0 s2 hxb hP hU hbl hzs hzl hnb hll hck
  go_enter Try.func8, Try.ntmps8
  go_wp2_with fail
  refine (fixed15_calls _).mono ?_
  rintro e w1 ⟨rfl, hf1⟩
  have H1 := hid hf1
  clear hf1
  go_wp2_with fail
  have HW1 := hid (show Fr No w1 (w1.alloc (.cells #[.int .i64 1, .int .i64 2, .int .i64 4, .int .i64 8, .int .i64 16] 3)) from (Fr.refl No w1).alloc _)
  rw [hk]
  clear hk
  go_loopw [8, 24] (fun l i wr => ∃ (k : Nat) (Al : Option Addr) (cl : Nat) (obl : Option Nat), i = .int .i64 k ∧ l = .slice Al k cl ∧ Hid (k ≤ n ∧ Row wr 1 (.slice Al k cl) obl k ((zs.take k).map II) ∧ (∀ q, obl = some q → w1.heap.size ≤ q) ∧ Fr No w1 wr)) (fun _ i _ => n - (intOf i).toNat)
  case atStart => exact ⟨0, none, 0, none, rfl, rfl, by omega, Row.nil _ _, fun _ h => (by cases h), HW1.out⟩
  case round =>
    obtain ⟨k, Al, cl, obl, rfl, rfl, HQ⟩ := hrel
    by_cases hlt : k < n
    · have hlt' : (k : Int) < (n : Int) := by omega
      have hkx : k < xs.length := by rw [HS.out.1.len]; exact hlt
      obtain ⟨ad, rfl, hc0⟩ : ∃ ad, A = some ad ∧ wr.cell? (ad.add k) = some (.int .i64 xs[k]) := by
        obtain ⟨ad, e, hc⟩ := (HS.out.1.rd.fr0 (H1.out.then HQ.out.2.2.2)) (by omega)
        exact ⟨ad, e, hc k hkx⟩
      obtain ⟨v, hv⟩ : ∃ v, v = xs[k] := ⟨_, rfl⟩
      have hvb := HS.out.2.2 k hkx
      rw [← hv] at hc0 hvb
      have hand : bits .and .i64 v 255 = v % ((2 ^ 8 : Nat) : Int) := and_pow v 8 (by decide)
      have hst : (zs.take (k + 1)).map II = (zs.take k).map II ++ [.int .i64 (v % ((2 ^ 8 : Nat) : Int))] := by
        have hkz : k < zs.length := by rw [HP.out.2.2.2.2.1]; exact hlt
        have e : zs[k] = v % ((2 ^ 8 : Nat) : Int) := by
          have : zs = xs.map fun v => v % ((2 ^ 8 : Nat) : Int) := HP.out.2.2.2.1.trans (lowL_cast 8 xs)
          simp only [this, List.getElem_map, hv]
        rw [List.take_succ_eq_append_getElem hkz, List.map_append, e]; rfl
      have HST := hid (And.intro hst hand)
      clear hst hand hv hkx
      go_wp2_with (at_builtin; refine wpList_app1 slII rfl (.tmp 28) (.tmp 35) rfl rfl HQ.out.2.1 rfl (m := 1) (c := 1) (ys := [.int .i64 (bits .and .i64 v 255)]) rfl (by simp [Value.oneCell']) (by omega) (by omega) ?_; intro A3 c3 w3 ob3 hrow3 hfr3 hob3)
      rw [HST.out.2, ← HST.out.1] at hrow3
      have hs3 := HQ.out.2.2.2.size
      go_roundw
      case rel =>
        refine ⟨k + 1, A3, c3, ob3, by go_num, rfl, by omega, hrow3, fun q hq => ?_, HQ.out.2.2.2.fresh hfr3 HQ.out.2.2.1⟩
        rcases hob3 with h | ⟨j, h, hj⟩
        · exact HQ.out.2.2.1 q (by rw [← h]; exact hq)
        · rw [h] at hq; injection hq with hq; omega
      case measure => simp [intOf] <;> omega
    · obtain rfl : k = n := by have := HQ.out.1; omega
      have hge : ¬ ((k : Int) < (k : Int)) := by omega
      clear hlt
      have hq := HQ.out.2.1
      rw [List.take_of_length_le (by rw [HP.out.2.2.2.2.1]; exact Nat.le_refl _)] at hq
      obtain ⟨r1, r2, r3, r4⟩ := hq.rd
      have HL := hid (And.intro r1 (And.intro r4 HQ.out.2.2.2))
      clear hq r1 r2 r3 r4 HQ
      go_wp2_with fail
      refine (pack_calls Al zs k cl 8 _ HL.out.2.1 HL.out.1 (by omega)).mono ?_
      rw [show packE zs 8 = 0 from HP.out.1.1, show packV zs 8 = packB 8 (lowL 8 xs) from HP.out.1.2]
      rintro e w4 ⟨v4, rfl, hnew4⟩
      obtain ⟨A4, n4, c4, rfl, N4⟩ := hnew4.use
      clear hnew4
      obtain rfl : n4 = nb := by rw [← N4.out.1, HP.out.2.2.1]
      obtain ⟨ob4, hrow4, hob4⟩ := N4.out.2.2.2.2
      have HR4 := hid (And.intro hrow4 hob4)
      clear hrow4 hob4
      go_wp2_with (at_builtin; refine wpList_appW slU8 rfl (.tmp 45) (.tmp 46) rfl rfl HR4.out.1 rfl (by rw [List.length_map, HS.out.2.1.len, Nat.mul_one]) (Rd.cells.1 (HS.out.2.1.rd.fr0 ((H1.out.then HL.out.2.2).then N4.out.2.2.2.1))) (oneB more) (by omega) (by omega) ?_; intro A5 c5 w5 ob5 hrow5 hfr5 hob5)
      have hrow5' : Row w5 1 (.slice A5 (n4 + m) c5) ob5 (n4 + m) ((packB 8 (lowL 8 xs) ++ more).map B) := by rw [List.map_append]; exact hrow5
      obtain ⟨r1, r2, _, r4⟩ := hrow5'.rd
      have hF15 : Fr No w1 w5 := (HL.out.2.2.then N4.out.2.2.2.1).fresh hfr5 (fun q hq => Nat.le_trans HL.out.2.2.size (HR4.out.2 q hq))
      have hF35 : Fr No wr w5 := N4.out.2.2.2.1.fresh hfr5 HR4.out.2
      have H5 := hid (And.intro r1 (And.intro r4 (And.intro hF15 hF35)))
      clear hrow5 hrow5' hfr5 hob5 r1 r2 r4 hF15 hF35
      refine (unpackB_calls A5 (packB 8 (lowL 8 xs) ++ more) (n4 + m) c5 8 (k : Int) _ H5.out.2.1 H5.out.1 (by omega) (by omega)).mono ?_
      rw [show unpE (packB 8 (lowL 8 xs) ++ more) 8 k = 0 from HP.out.2.1.1, show unpV (packB 8 (lowL 8 xs) ++ more) 8 k = zs from HP.out.2.1.2]
      rintro e w6 ⟨v6, rfl, hnew6⟩
      obtain ⟨A6, n6, c6, rfl, N6⟩ := hnew6.use
      clear hnew6
      have hck := HP.out.2.2.2.2.2
      (try rw [Int.mul_one] at hck)
      go_wp2_with fail
      refine (sameInts_calls A6 Al zs zs n6 k c6 cl N6.out.1 HL.out.2.1 _ N6.out.2.1 (HL.out.1.fr0 (H5.out.2.2.2.then N6.out.2.2.2.1)) (by have := N6.out.1; have := HL.out.2.1; omega)).mono ?_
      rw [decide_eq_true (show zs = zs from rfl)]
      rintro e w7 ⟨rfl, q, rfl⟩
      go_wp2_with fail
      go_ret
      exact ⟨rfl, ((H1.out.then H5.out.2.2.1).then N6.out.2.2.2.1).drewN q⟩
set_option maxRecDepth 100000 in
set_option maxHeartbeats 1600000 in
theorem back_16 (A : Option Addr) (xs : List Int) (n c : Nat) (dep : Nat) (hd : dep < 256) (hk : (dep : Int) % 5 = 4) (B1 : Option Addr) (more : List UInt8) (m c1 : Nat) (w : World) (s0 : SlIn (Value.int .i64) 8 w A xs n c) (hxb : ∀ i (h : i < xs.length), -9223372036854775808 ≤ xs[i] ∧ xs[i] ≤ 9223372036854775807) (s2 : SlIn B 1 w B1 more m c1) :
    Calls Try.prog 8 #[.slice A n c, .int .u8 (dep : Int), .slice B1 m c1] w fun e w' => e = .returned (.bool true) ∧ Fr No w w' := by
  have HS := hid (And.intro s0 (And.intro s2 hxb))
  obtain ⟨zs, hzs⟩ : ∃ zs, zs = (lowL 16 xs).map (fun y : Nat => (y : Int)) := ⟨_, rfl⟩
  have hzl : zs.length = n := by rw [hzs, List.length_map]; unfold lowL; rw [List.length_map]; exact s0.len
  have hP := pack_low 16 (by decide) xs
  have hU := unp_pack 16 (by decide) (lowL 16 xs) (lowL_lt 16 xs) more
  have hll : (lowL 16 xs).length = n := by unfold lowL; rw [List.length_map]; exact s0.len
  rw [← hzs] at hP hU
  rw [hll] at hU
  obtain ⟨nb, hnb⟩ : ∃ nb, nb = (16 * n + 7) / 8 := ⟨_, rfl⟩
  have hbl : (packB 16 (lowL 16 xs)).length = nb := by unfold packB; rw [beL_length, hll, hnb]
  have hn44 : n ≤ 17592186043904 := by have := s0.reach; omega
  have hm47 : m ≤ 140737488351232 := by have := s2.reach; omega
  have hnbl : nb ≤ 35184372088000 := by omega
  have hck : ((nb : Int) == ((n : Int) * 16 + 7) / 8) = true := by rw [beq_iff_eq, hnb]; omega
  have HP := hid (And.intro hP (And.intro hU (And.intro hbl (And.intro hzs (And.intro hzl hck)))))
  clear s0 s2 hxb hP hU hbl hzs hzl hnb hll hck
  go_enter Try.func8, Try.ntmps8
  go_wp2_with fail
  refine (fixed15_calls _).mono ?_
  rintro e w1 ⟨rfl, hf1⟩
  have H1 := hid hf1
  clear hf1
  go_wp2_with fail
  have HW1 := hid (show Fr No w1 (w1.alloc (.cells #[.int .i64 1, .int .i64 2, .int .i64 4, .int .i64 8, .int .i64 16] 3)) from (Fr.refl No w1).alloc _)
  rw [hk]
  clear hk
  go_loopw [8, 24] (fun l i wr => ∃ (k : Nat) (Al : Option Addr) (cl : Nat) (obl : Option Nat), i = .int .i64 k ∧ l = .slice Al k cl ∧ Hid (k ≤ n ∧ Row wr 1 (.slice Al k cl) obl k ((zs.take k).map II) ∧ (∀ q, obl = some q → w1.heap.size ≤ q) ∧ Fr No w1 wr)) (fun _ i _ => n - (intOf i).toNat)
  case atStart => exact ⟨0, none, 0, none, rfl, rfl, by omega, Row.nil _ _, fun _ h => (by cases h), HW1.out⟩
  case round =>
    obtain ⟨k, Al, cl, obl, rfl, rfl, HQ⟩ := hrel
    by_cases hlt : k < n
    · have hlt' : (k : Int) < (n : Int) := by omega
      have hkx : k < xs.length := by rw [HS.out.1.len]; exact hlt
      obtain ⟨ad, rfl, hc0⟩ : ∃ ad, A = some ad ∧ wr.cell? (ad.add k) = some (.int .i64 xs[k]) := by
        obtain ⟨ad, e, hc⟩ := (HS.out.1.rd.fr0 (H1.out.then HQ.out.2.2.2)) (by omega)
        exact ⟨ad, e, hc k hkx⟩
      obtain ⟨v, hv⟩ : ∃ v, v = xs[k] := ⟨_, rfl⟩
      have hvb := HS.out.2.2 k hkx
      rw [← hv] at hc0 hvb
      have hand : bits .and .i64 v 65535 = v % ((2 ^ 16 : Nat) : Int) := and_pow v 16 (by decide)
      have hst : (zs.take (k + 1)).map II = (zs.take k).map II ++ [.int .i64 (v % ((2 ^ 16 : Nat) : Int))] := by
        have hkz : k < zs.length := by rw [HP.out.2.2.2.2.1]; exact hlt
        have e : zs[k] = v % ((2 ^ 16 : Nat) : Int) := by
          have : zs = xs.map fun v => v % ((2 ^ 16 : Nat) : Int) := HP.out.2.2.2.1.trans (lowL_cast 16 xs)
          simp only [this, List.getElem_map, hv]
        rw [List.take_succ_eq_append_getElem hkz, List.map_append, e]; rfl
      have HST := hid (And.intro hst hand)
      clear hst hand hv hkx
      go_wp2_with (at_builtin; refine wpList_app1 slII rfl (.tmp 28) (.tmp 35) rfl rfl HQ.out.2.1 rfl (m := 1) (c := 1) (ys := [.int .i64 (bits .and .i64 v 65535)]) rfl (by simp [Value.oneCell']) (by omega) (by omega) ?_; intro A3 c3 w3 ob3 hrow3 hfr3 hob3)
      rw [HST.out.2, ← HST.out.1] at hrow3
      have hs3 := HQ.out.2.2.2.size
      go_roundw
      case rel =>
        refine ⟨k + 1, A3, c3, ob3, by go_num, rfl, by omega, hrow3, fun q hq => ?_, HQ.out.2.2.2.fresh hfr3 HQ.out.2.2.1⟩
        rcases hob3 with h | ⟨j, h, hj⟩
        · exact HQ.out.2.2.1 q (by rw [← h]; exact hq)
        · rw [h] at hq; injection hq with hq; omega
      case measure => simp [intOf] <;> omega
    · obtain rfl : k = n := by have := HQ.out.1; omega
      have hge : ¬ ((k : Int) < (k : Int)) := by omega
      clear hlt
      have hq := HQ.out.2.1
      rw [List.take_of_length_le (by rw [HP.out.2.2.2.2.1]; exact Nat.le_refl _)] at hq
      obtain ⟨r1, r2, r3, r4⟩ := hq.rd
      have HL := hid (And.intro r1 (And.intro r4 HQ.out.2.2.2))
      clear hq r1 r2 r3 r4 HQ
      go_wp2_with fail
      refine (pack_calls Al zs k cl 16 _ HL.out.2.1 HL.out.1 (by omega)).mono ?_
      rw [show packE zs 16 = 0 from HP.out.1.1, show packV zs 16 = packB 16 (lowL 16 xs) from HP.out.1.2]
      rintro e w4 ⟨v4, rfl, hnew4⟩
      obtain ⟨A4, n4, c4, rfl, N4⟩ := hnew4.use
      clear hnew4
      obtain rfl : n4 = nb := by rw [← N4.out.1, HP.out.2.2.1]
      obtain ⟨ob4, hrow4, hob4⟩ := N4.out.2.2.2.2
      have HR4 := hid (And.intro hrow4 hob4)
      clear hrow4 hob4
      go_wp2_with (at_builtin; refine wpList_appW slU8 rfl (.tmp 45) (.tmp 46) rfl rfl HR4.out.1 rfl (by rw [List.length_map, HS.out.2.1.len, Nat.mul_one]) (Rd.cells.1 (HS.out.2.1.rd.fr0 ((H1.out.then HL.out.2.2).then N4.out.2.2.2.1))) (oneB more) (by omega) (by omega) ?_; intro A5 c5 w5 ob5 hrow5 hfr5 hob5)
      have hrow5' : Row w5 1 (.slice A5 (n4 + m) c5) ob5 (n4 + m) ((packB 16 (lowL 16 xs) ++ more).map B) := by rw [List.map_append]; exact hrow5
      obtain ⟨r1, r2, _, r4⟩ := hrow5'.rd
      have hF15 : Fr No w1 w5 := (HL.out.2.2.then N4.out.2.2.2.1).fresh hfr5 (fun q hq => Nat.le_trans HL.out.2.2.size (HR4.out.2 q hq))
      have hF35 : Fr No wr w5 := N4.out.2.2.2.1.fresh hfr5 HR4.out.2
      have H5 := hid (And.intro r1 (And.intro r4 (And.intro hF15 hF35)))
      clear hrow5 hrow5' hfr5 hob5 r1 r2 r4 hF15 hF35
      refine (unpackB_calls A5 (packB 16 (lowL 16 xs) ++ more) (n4 + m) c5 16 (k : Int) _ H5.out.2.1 H5.out.1 (by omega) (by omega)).mono ?_
      rw [show unpE (packB 16 (lowL 16 xs) ++ more) 16 k = 0 from HP.out.2.1.1, show unpV (packB 16 (lowL 16 xs) ++ more) 16 k = zs from HP.out.2.1.2]
      rintro e w6 ⟨v6, rfl, hnew6⟩
      obtain ⟨A6, n6, c6, rfl, N6⟩ := hnew6.use
      clear hnew6
      have hck := HP.out.2.2.2.2.2
      (try rw [Int.mul_one] at hck)
      go_wp2_with fail
      refine (sameInts_calls A6 Al zs zs n6 k c6 cl N6.out.1 HL.out.2.1 _ N6.out.2.1 (HL.out.1.fr0 (H5.out.2.2.2.then N6.out.2.2.2.1)) (by have := N6.out.1; have := HL.out.2.1; omega)).mono ?_
      rw [decide_eq_true (show zs = zs from rfl)]
      rintro e w7 ⟨rfl, q, rfl⟩
      go_wp2_with fail
      go_ret
      exact ⟨rfl, ((H1.out.then H5.out.2.2.1).then N6.out.2.2.2.1).drewN q⟩
theorem pixelBack_walk (A : Option Addr) (xs : List Int) (n c : Nat) (dep : Int) (B1 : Option Addr) (more : List UInt8) (m c1 : Nat) (w : World) (s0 : SlIn (Value.int .i64) 8 w A xs n c) (hxb : ∀ i (h : i < xs.length), -9223372036854775808 ≤ xs[i] ∧ xs[i] ≤ 9223372036854775807) (hd : 0 ≤ dep ∧ dep ≤ 255) (s2 : SlIn B 1 w B1 more m c1) :
    Calls Try.prog 8 #[.slice A n c, .int .u8 dep, .slice B1 m c1] w fun e w' => e = .returned (.bool true) ∧ Fr No w w' := by
  obtain ⟨dn, rfl⟩ : ∃ n : Nat, dep = n := ⟨dep.toNat, by omega⟩
  have h : (dn : Int) % 5 = 0 ∨ (dn : Int) % 5 = 1 ∨ (dn : Int) % 5 = 2 ∨ (dn : Int) % 5 = 3 ∨ (dn : Int) % 5 = 4 := by omega
  rcases h with h | h | h | h | h
  · exact back_1 A xs n c dn (by omega) h B1 more m c1 w s0 hxb s2
  · exact back_2 A xs n c dn (by omega) h B1 more m c1 w s0 hxb s2
  · exact back_4 A xs n c dn (by omega) h B1 more m c1 w s0 hxb s2
  · exact back_8 A xs n c dn (by omega) h B1 more m c1 w s0 hxb s2
  · exact back_16 A xs n c dn (by omega) h B1 more m c1 w s0 hxb s2
end Go.Proofs.Ytdbbkdlocmafgaa

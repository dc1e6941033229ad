/- The contract of pixel.Pack. -/
import Derived.Test.YtdbbkdlocmafgaaPx2
import Derived.Test.YtdbbkdlocmafgaaPackP
namespace Go.Proofs.Ytdbbkdlocmafgaa
open Go.RowKit Go.Proofs.HK
set_option linter.unusedVariables false
set_option linter.unusedSimpArgs false
attribute [local go_sem] max2_int min2_int max_two min_two

theorem slII : SlT Try.prog 22 3 1 8 := SlT.of (z := .int .i64 0) Try.underlying22 (by kernel_rfl) rfl (by decide)
/-- What Pack answers. -/
def packE (xs : List Int) (d : Int) : Int := if depB d = true ∧ witB xs (2 ^ d.toNat - 1) = true then 0 else 1
def packV (xs : List Int) (d : Int) : List UInt8 := if depB d = true ∧ witB xs (2 ^ d.toNat - 1) = true then packB d.toNat (xs.map Int.toNat) else []
/-- e tells bytes, just made, and an error. -/
def RetBE (w : World) (bs : List UInt8) (er : Int) (e : Ending) (w' : World) : Prop := ∃ v, e = .returned (.tuple #[v, .int .i64 er]) ∧ New B w w' v bs
set_option maxRecDepth 100000 in
set_option maxHeartbeats 3200000 in
theorem pack_calls (A : Option Addr) (xs : List Int) (n c : Nat) (d : Int) (w : World) (hn : xs.length = n) (hr : Rd II w A xs) (hl : n ≤ 17592186044416) : Calls Try.prog 11 #[.slice A n c, .int .i64 d] w (RetBE w (packV xs d) (packE xs d)) := by
  cases hd : depB d with
  | false =>
    have HD2 := hid (show packE xs d = 1 ∧ packV xs d = [] by
      unfold packE packV; rw [hd]; simp)
    have HD := hid hd
    clear hd
    go_enter Try.func11, Try.ntmps11
    go_wp2_with fail
    refine (deep_calls _ _).mono ?_
    rw [HD.out]
    rintro e w1 ⟨rfl, hw1⟩
    rw [hw1]
    clear hw1 w1
    go_wp2_with fail
    go_ret2
    rw [HD2.out.1, HD2.out.2]
    exact ⟨_, rfl, NewR.nil, Fr.refl _ _⟩
  | true =>
    obtain ⟨dn, rfl, hd1, hd16, hd5⟩ := dep_facts hd
    cases hw : witB xs (2 ^ dn - 1) with
    | false =>
      have HD2 := hid (show packE xs dn = 1 ∧ packV xs dn = [] by
        unfold packE packV; rw [Int.toNat_natCast, hw]; simp)
      have HD := hid hd
      obtain ⟨P, hP⟩ : ∃ P, P = 2 ^ dn := ⟨_, rfl⟩
      have hP1 : 1 ≤ P := by rw [hP]; exact Nat.one_le_two_pow
      have hP2 : P ≤ 65536 := by rw [hP]; exact Nat.pow_le_pow_right (n := 2) (by decide) hd16
      have hpw : wrap64 ((2 : Int) ^ dn) = (P : Int) := by
        have h : ((2 : Int) ^ dn) = (P : Int) := by rw [hP]; simp
        rw [h]; exact w64i _ (by omega) (by omega)
      have hwit : witB xs ((P : Int) - 1) = false := by
        rw [show ((P : Int) - 1) = 2 ^ dn - 1 by rw [hP]; simp]; exact hw
      have HP := hid hwit
      have HX := hid (And.intro hn hr)
      clear hd hw hd5 hP hwit hn hr
      go_enter Try.func11, Try.ntmps11
      go_wp2_with fail
      refine (deep_calls _ _).mono ?_
      rw [HD.out]
      rintro e w1 ⟨rfl, hw1⟩
      rw [hw1]
      clear hw1 w1
      go_wp2_with fail
      refine (within_calls A xs n c _ w HX.out.1 HX.out.2 (by omega)).mono ?_
      rw [HP.out]
      rintro e w1 ⟨rfl, hf1⟩
      go_wp2_with fail
      go_ret2
      rw [HD2.out.1, HD2.out.2]
      exact ⟨_, rfl, NewR.nil, hf1⟩
    | true =>
      have HD := hid (And.intro hd hw)
      obtain ⟨P, hP⟩ : ∃ P, P = 2 ^ dn := ⟨_, rfl⟩
      have hP1 : 1 ≤ P := by rw [hP]; exact Nat.one_le_two_pow
      have hP2 : P ≤ 65536 := by rw [hP]; exact Nat.pow_le_pow_right (n := 2) (by decide) hd16
      have hpw : wrap64 ((2 : Int) ^ dn) = (P : Int) := by
        have h : ((2 : Int) ^ dn) = (P : Int) := by rw [hP]; simp
        rw [h]; exact w64i _ (by omega) (by omega)
      have hwit : witB xs ((P : Int) - 1) = true := by
        rw [show ((P : Int) - 1) = 2 ^ dn - 1 by rw [hP]; simp]; exact hw
      have hall := wit_iff.1 hwit
      have HP := hid (And.intro hP (And.intro hwit hall))
      have HX := hid (And.intro hn hr)
      clear hd hw hd5 hP hwit hall hn hr
      go_enter Try.func11, Try.ntmps11
      go_wp2_with fail
      refine (deep_calls _ _).mono ?_
      rw [HD.out.1]
      rintro e w1 ⟨rfl, hw1⟩
      rw [hw1]
      clear hw1 w1
      go_wp2_with fail
      refine (within_calls A xs n c _ w HX.out.1 HX.out.2 (by omega)).mono ?_
      rw [HP.out.2.1]
      rintro e w1 ⟨rfl, hf1⟩
      have HF1 := hid hf1
      clear hf1
      go_wp2_with fail
      clear hpw
      -- out, held, n, index
      go_loopw [6, 7, 8, 25] (fun v h m i wr => ∃ (k hh mm q : Nat) (A1 : Option Addr) (c1 : Nat) (ob1 : Option Nat), i = .int .i64 k ∧ h = .int .i64 hh ∧ m = .int .i64 mm ∧ v = .slice A1 q c1 ∧
        Hid (k ≤ n ∧ dn * k = 8 * q + mm ∧ mm < 8 ∧ hh = valP dn ((xs.take k).map Int.toNat) % 2 ^ mm ∧ Row wr 1 (.slice A1 q c1) ob1 q ((beL q (valP dn ((xs.take k).map Int.toNat) / 2 ^ mm)).map B) ∧ (∀ j, ob1 = some j → w.heap.size ≤ j) ∧ Fr No w wr)) (fun _ _ _ i _ => n - (intOf i).toNat)
      case atStart => exact ⟨0, 0, 0, 0, none, 0, none, rfl, rfl, rfl, rfl, by omega, by omega, by omega, by simp [valP], by simpa [beL] using Row.nil _ _, fun _ h => (by cases h), HF1.out⟩
      case round =>
        obtain ⟨k, hh, mm, q, A1, c1, ob1, rfl, rfl, rfl, rfl, HR⟩ := hrel
        have hm8 := HR.out.2.2.1
        by_cases hlt : k < n
        · have hlt' : (k : Int) < (n : Int) := by omega
          have h1 : k < xs.length := by rw [HX.out.1]; exact hlt
          obtain ⟨ad, rfl, hc1⟩ : ∃ ad, A = some ad ∧ wr.cell? (ad.add k) = some (.int .i64 xs[k]) := by
            obtain ⟨ad, e, hc⟩ := (HX.out.2.fr0 HR.out.2.2.2.2.2.2) (by omega)
            exact ⟨ad, e, hc k h1⟩
          have hv := HP.out.2.2 xs[k] (List.getElem_mem h1)
          obtain ⟨v, hvv⟩ : ∃ v : Nat, xs[k] = v := ⟨xs[k].toNat, by omega⟩
          rw [hvv] at hc1 hv
          have hvP : v < P := by omega
          have hh2 : hh < 128 := by
            rw [HR.out.2.2.2.1]
            exact Nat.lt_of_lt_of_le (Nat.mod_lt _ (Nat.two_pow_pos _)) (Nat.pow_le_pow_right (n := 2) (by decide) (show mm ≤ 7 by omega))
          have hhP : hh * P ≤ 128 * 65536 := Nat.mul_le_mul (by omega) hP2
          obtain ⟨hp, hhp⟩ : ∃ hp, hp = hh * P := ⟨_, rfl⟩
          have hp3 : hp ≤ 8388608 := by rw [hhp]; exact hhP
          obtain ⟨hv, hhv⟩ : ∃ hv, hv = hp + v := ⟨_, rfl⟩
          obtain ⟨V, hV⟩ : ∃ V, V = valP dn ((xs.take k).map Int.toNat) := ⟨_, rfl⟩
          obtain ⟨V2, hV2⟩ : ∃ V, V = valP dn ((xs.take (k + 1)).map Int.toNat) := ⟨_, rfl⟩
          have hV3 : V2 = V * 2 ^ dn + v := by rw [hV2, hV, List.take_succ_eq_append_getElem h1, List.map_append, List.map_cons, List.map_nil, valP_snoc, hvv]; rfl
          have hvp : v < 2 ^ dn := by rw [← HP.out.1]; exact hvP
          have hhm := HR.out.2.2.2.1
          have hrow := HR.out.2.2.2.2.1
          rw [← hV] at hhm hrow
          have e1 : hv = V2 % 2 ^ (mm + dn) := by rw [hhv, hhp, hV3, mod_join _ _ _ _ hvp, hhm, HP.out.1]
          have e2 : V / 2 ^ mm = V2 / 2 ^ (mm + dn) := by rw [hV3, div_join _ _ _ _ hvp]
          rw [e2] at hrow
          have hhv2 : hv ≤ 8454143 := by omega
          have HV := hid (And.intro hV2 (And.intro e1 hrow))
          have hdk := hid (show dn * (k + 1) = 8 * q + (mm + dn) by rw [Nat.mul_succ, HR.out.2.1]; omega)
          have hor : bits .or .i64 (wrap64 ((hh : Int) * 2 ^ dn)) (v : Int) = (hv : Int) := by
            have h : ((hh : Int) * 2 ^ dn) = (hp : Int) := by rw [hhp, HP.out.1]; simp
            rw [h, w64i _ (by omega) (by omega), hhv]
            exact or_join hp v dn (by rw [hhp, HP.out.1]; exact Nat.mul_mod_left _ _) (by rw [← HP.out.1]; exact hvP) (Nat.lt_of_le_of_lt hp3 (by decide)) (Nat.lt_of_lt_of_le hvP (Nat.le_trans hP2 (by decide)))
          clear hvv hhp hhv hV hV2 hV3 hvp hhm hrow e1 e2 hp3 hhP h1
          go_wp2_with fail
          clear hor hh2
          go_loopw [6, 8] (fun o m wr2 => ∃ (m2 q2 : Nat) (A2 : Option Addr) (c2 : Nat) (ob2 : Option Nat), m = .int .i64 m2 ∧ o = .slice A2 q2 c2 ∧ Hid (m2 ≤ mm + dn ∧ dn * (k + 1) = 8 * q2 + m2 ∧ Row wr2 1 (.slice A2 q2 c2) ob2 q2 ((beL q2 (V2 / 2 ^ m2)).map B) ∧ (∀ j, ob2 = some j → w.heap.size ≤ j) ∧ Fr No w wr2)) (fun _ m _ => (intOf m).toNat)
          case atStart => exact ⟨mm + dn, q, A1, c1, ob1, by go_num, rfl, Nat.le_refl _, hdk.out, HV.out.2.2, HR.out.2.2.2.2.2⟩
          case round =>
            obtain ⟨m2, q2, A2, c2, ob2, rfl, rfl, HS⟩ := hrel
            have hm2 : m2 ≤ 23 := by have := HS.out.1; omega
            have hq2 : q2 ≤ 35184372088832 + 2 := by
              have h1 := HS.out.2.1
              have h2 : dn * (k + 1) ≤ 16 * (k + 1) := Nat.mul_le_mul_right _ hd16
              omega
            by_cases h8 : 8 ≤ m2
            · obtain ⟨m3, hm3⟩ : ∃ m3, m3 = m2 - 8 := ⟨_, rfl⟩
              have h8' : (m2 : Int) ≥ 8 := by omega
              have hm3i : (m2 : Int) - 8 = (m3 : Int) := by omega
              have hm3b : m3 ≤ 15 := by omega
              obtain ⟨y, hy⟩ : ∃ y, y = hv / 2 ^ m3 := ⟨_, rfl⟩
              have hyi : (hv : Int) / 2 ^ m3 = (y : Int) := by rw [hy]; simp
              have hst : beL q2 (V2 / 2 ^ m2) ++ [UInt8.ofNat y] = beL (q2 + 1) (V2 / 2 ^ m3) := by
                have := step_byte V2 q2 m2 (mm + dn) h8 HS.out.1
                rw [hy, hm3, HV.out.2.1]; exact this
              have hrow := HS.out.2.2.1
              have HY := hid (And.intro hst hm3)
              clear hy hst hm3
              go_wp2_with (at_builtin; refine wpList_app1 slU8 rfl (.tmp 42) (.tmp 48) rfl rfl HS.out.2.2.1 rfl (m := 1) (c := 1) (ys := [.int .u8 ((y : Int) % 256)]) rfl (by simp [Value.oneCell']) (by omega) (by omega) ?_; intro A3 c3 w3 ob3 hrow3 hfr3 hob3)
              go_roundw
              case rel =>
                refine ⟨m3, q2 + 1, A3, c3, ob3, rfl, rfl, by have := HS.out.1; have := HY.out.2; omega, by have := HS.out.2.1; have := HY.out.2; omega, ?_, fun j hj => ?_, HS.out.2.2.2.2.fresh hfr3 HS.out.2.2.2.1⟩
                · rw [← HY.out.1, List.map_append, List.map_cons, List.map_nil, B_ofNat]; exact hrow3
                · rcases hob3 with h | ⟨i, h, hi⟩
                  · exact HS.out.2.2.2.1 j (by rw [← h]; exact hj)
                  · rw [h] at hj; injection hj with hj; have := HS.out.2.2.2.2.size; omega
              case measure => simp [intOf] <;> omega
            · have h8' : ¬ (m2 : Int) ≥ 8 := by omega
              obtain ⟨Q, hQ⟩ : ∃ Q, Q = 2 ^ m2 := ⟨_, rfl⟩
              have hQ1 : 1 ≤ Q := by rw [hQ]; exact Nat.one_le_two_pow
              have hQ2 : Q ≤ 128 := by rw [hQ]; exact Nat.pow_le_pow_right (n := 2) (by decide) (show m2 ≤ 7 by omega)
              obtain ⟨z, hz⟩ : ∃ z, z = hv % Q := ⟨_, rfl⟩
              have hand : bits .and .i64 (hv : Int) (wrap64 (wrap64 (2 ^ m2) - 1)) = (z : Int) := by
                have h : ((2 : Int) ^ m2) = (Q : Int) := by rw [hQ]; simp
                rw [h, w64i (Q : Int) (by omega) (by omega), w64i ((Q : Int) - 1) (by omega) (by omega), hz, hQ]; exact and_mask hv m2 (by omega) (by omega)
              have hz2 : z = V2 % 2 ^ m2 := by
                rw [hz, HV.out.2.1, hQ, Nat.mod_mod_of_dvd _ (Nat.pow_dvd_pow 2 HS.out.1)]
              have HZ := hid hz2
              clear hQ hz hz2
              go_wp2_with fail
              clear hand
              go_roundw
              case rel => exact ⟨k + 1, z, m2, q2, A2, c2, ob2, by go_num, rfl, rfl, rfl, by omega, HS.out.2.1, by omega, by rw [HZ.out, HV.out.1], by rw [← HV.out.1]; exact HS.out.2.2.1, HS.out.2.2.2⟩
              case measure => simp [intOf] <;> omega
        · have hge : ¬ ((k : Int) < (n : Int)) := by omega
          have hkn : k = n := by have := HR.out.1; omega
          have htk : (xs.take k).map Int.toNat = xs.map Int.toNat := by rw [hkn, List.take_of_length_le (by rw [HX.out.1]; exact Nat.le_refl _)]
          have hlen : dn * (xs.map Int.toNat).length = 8 * q + mm := by rw [List.length_map, HX.out.1, ← hkn]; exact HR.out.2.1
          have hh1 := HR.out.2.2.2.1
          have hrow := HR.out.2.2.2.2.1
          rw [htk] at hh1 hrow
          obtain ⟨V, hV⟩ : ∃ V, V = valP dn (xs.map Int.toNat) := ⟨_, rfl⟩
          rw [← hV] at hh1 hrow
          have hq2 : q ≤ 35184372088832 + 2 := by
            have h2 : dn * (xs.map Int.toNat).length ≤ 16 * n := by rw [List.length_map, HX.out.1]; exact Nat.mul_le_mul_right _ hd16
            omega
          have HD2 := hid (show packE xs dn = 0 ∧ packV xs dn = packB dn (xs.map Int.toNat) by
            unfold packE packV
            rw [Int.toNat_natCast, if_pos ⟨HD.out.1, HD.out.2⟩, if_pos ⟨HD.out.1, HD.out.2⟩]; exact ⟨rfl, rfl⟩)
          clear hkn htk hlt
          by_cases hm0 : mm = 0
          · have hm0' : ¬ (mm : Int) > 0 := by omega
            have hpk := pack_end0 dn (xs.map Int.toNat) q (by rw [hlen, hm0])
            rw [← hV, show (2 : Nat) ^ 0 = 2 ^ mm by rw [hm0]] at hpk
            have HPK := hid (And.intro hpk hrow)
            clear hpk hrow hh1 hlen hm0 hV
            go_wp2_with fail
            go_ret2
            rw [HD2.out.1, HD2.out.2, HPK.out.1]
            exact ⟨_, rfl, New.mk' rfl (beL_length _ _) HPK.out.2 HR.out.2.2.2.2.2.1 HR.out.2.2.2.2.2.2⟩
          · have hm0' : (mm : Int) > 0 := by omega
            have hpk := pack_end dn (xs.map Int.toNat) q mm (by omega) hm8 hlen
            rw [← hV] at hpk
            have hlb := last_byte V q mm (by omega) hm8
            obtain ⟨m8, hm8e⟩ : ∃ m8, m8 = 8 - mm := ⟨_, rfl⟩
            have hm8i : (8 : Int) - (mm : Int) = (m8 : Int) := by omega
            have hm8b : m8 ≤ 7 := by omega
            have hm8c : 1 ≤ m8 := by omega
            obtain ⟨y, hy⟩ : ∃ y, y = hh * 2 ^ m8 := ⟨_, rfl⟩
            have hhb : hh < 128 := by
              rw [hh1]
              exact Nat.lt_of_lt_of_le (Nat.mod_lt _ (Nat.two_pow_pos _)) (Nat.pow_le_pow_right (n := 2) (by decide) (show mm ≤ 7 by omega))
            have hyb : y ≤ 128 * 128 := by rw [hy]; exact Nat.mul_le_mul (by omega) (Nat.pow_le_pow_right (n := 2) (by decide) hm8b)
            rw [← hm8e, ← hh1, ← hy] at hlb
            rw [← hm8e] at hpk
            have HPK := hid (And.intro hpk (And.intro hlb hrow))
            have hsh : wrap64 ((hh : Int) * 2 ^ m8) % 256 = (y : Int) % 256 := by
              have h : ((hh : Int) * 2 ^ m8) = (y : Int) := by rw [hy]; simp
              rw [h, w64i _ (by omega) (by omega)]
            clear hpk hrow hh1 hlen hm0 hV hlb hm8e hy hhb
            go_wp2_with (at_builtin; refine wpList_app1 slU8 rfl (.tmp 59) (.tmp 66) rfl rfl HPK.out.2.2 rfl (m := 1) (c := 1) (ys := [.int .u8 ((y : Int) % 256)]) rfl (by simp [Value.oneCell']) (by omega) (by omega) ?_; intro A3 c3 w3 ob3 hrow3 hfr3 hob3)
            go_ret2
            rw [HD2.out.1, HD2.out.2, HPK.out.1]
            refine ⟨_, rfl, New.mk' (ob := ob3) rfl (beL_length _ _) ?_ (fun j hj => ?_) (HR.out.2.2.2.2.2.2.fresh hfr3 HR.out.2.2.2.2.2.1)⟩
            · rw [← HPK.out.2.1, List.map_append, List.map_cons, List.map_nil, B_ofNat]; exact hrow3
            · rcases hob3 with h | ⟨i, h, hi⟩
              · exact HR.out.2.2.2.2.2.1 j (by rw [← h]; exact hj)
              · rw [h] at hj; injection hj with hj; have := HR.out.2.2.2.2.2.2.size; omega
end Go.Proofs.Ytdbbkdlocmafgaa

/- The contract of the document's Pack, of so many numbers. -/
import Derived.Test.YtdbbkdlocmafgaaPack
import Derived.Test.YtdbbkdlocmafgaaRPackP
namespace Go.Proofs.Ytdbbkdlocmafgaa
open Go.RowKit Go.Proofs.HK
set_option linter.unusedVariables false
set_option linter.unusedSimpArgs false
attribute [local go_sem] max2_int min2_int max_two min_two

set_option maxRecDepth 100000 in
set_option maxHeartbeats 3200000 in
theorem refPack_calls (A : Option Addr) (xs : List Int) (n c : Nat) (d : Int) (w : World) (hn : xs.length = n) (hr : Rd II w A xs) (hl : n ≤ 1048576) : Calls Try.prog 12 #[.slice A n c, .int .i64 d] w (RetBE w (packV xs d) (packE xs d)) := by
  cases hd : depB d with
  | false =>
    have HD2 := hid (show packE xs d = 1 ∧ packV xs d = [] by
      unfold packE packV; rw [hd]; simp)
    have HD := hid hd
    clear hd
    go_enter Try.func12, Try.ntmps12
    go_wp2_with fail
    refine (refDepth_calls _ _).mono ?_
    rw [HD.out]
    rintro e w1 ⟨rfl, hw1⟩
    rw [hw1]
    clear hw1 w1
    go_wp2_with fail
    go_ret2
    rw [HD2.out.1, HD2.out.2]
    exact ⟨_, rfl, NewR.nil, Fr.refl _ _⟩
  | true =>
    obtain ⟨dn, rfl, hd1, hd16, hd5⟩ := dep_facts hd
    obtain ⟨P, hP⟩ : ∃ P, P = 2 ^ dn := ⟨_, rfl⟩
    have hP1 : 1 ≤ P := by rw [hP]; exact Nat.one_le_two_pow
    have hP2 : P ≤ 65536 := by rw [hP]; exact Nat.pow_le_pow_right (n := 2) (by decide) hd16
    have hwit : ∀ b, witB xs ((2 : Int) ^ dn - 1) = b → witB xs ((P : Int) - 1) = b := fun b h => by
      rw [show ((P : Int) - 1) = 2 ^ dn - 1 by rw [hP]; simp]; exact h
    have hwit' : witB xs ((2 : Int) ^ dn - 1) = witB xs ((P : Int) - 1) := (hwit _ rfl).symm
    have HD := hid (And.intro hd (And.intro hwit' (And.intro hP (And.intro hn hr))))
    have hpw : wrap64 ((2 : Int) ^ dn) = (P : Int) := by
      have h : ((2 : Int) ^ dn) = (P : Int) := by rw [hP]; simp
      rw [h]; exact w64i _ (by omega) (by omega)
    have HPW := hid hpw
    clear hd hd5 hP hwit hwit' hn hr hpw
    go_enter Try.func12, Try.ntmps12
    go_wp2_with fail
    refine (refDepth_calls _ _).mono ?_
    rw [HD.out.1]
    rintro e w1 ⟨rfl, hw1⟩
    rw [hw1]
    clear hw1 w1
    go_wp2_with fail
    go_loopw [6, 19] (fun l i wr => ∃ (k T V : Nat) (A1 : Option Addr) (c1 : Nat) (ob1 : Option Nat), i = .int .i64 k ∧ l = .slice A1 T c1 ∧
      Hid (k ≤ n ∧ T = dn * k ∧ V = valP dn ((xs.take k).map Int.toNat) ∧ (∀ v ∈ xs.take k, 0 ≤ v ∧ v < P) ∧ Row wr 1 (.slice A1 T c1) ob1 T ((bitL T V).map II) ∧ (∀ j, ob1 = some j → w.heap.size ≤ j) ∧ Fr No w wr)) (fun _ i _ => n - (intOf i).toNat)
    case atStart => exact ⟨0, 0, 0, none, 0, none, rfl, rfl, by omega, by omega, by simp [valP], by simp, by simpa [bitL] using Row.nil _ _, fun _ h => (by cases h), Fr.refl _ _⟩
    case round =>
      obtain ⟨k, T, V, A1, c1, ob1, rfl, rfl, HR⟩ := hrel
      by_cases hlt : k < n
      · have hlt' : (k : Int) < (n : Int) := by omega
        have h1 : k < xs.length := by rw [HD.out.2.2.2.1]; exact hlt
        obtain ⟨ad, rfl, hc1⟩ : ∃ ad, A = some ad ∧ wr.cell? (ad.add k) = some (.int .i64 xs[k]) := by
          obtain ⟨ad, e, hc⟩ := (HD.out.2.2.2.2.fr0 HR.out.2.2.2.2.2.2) (by omega)
          exact ⟨ad, e, hc k h1⟩
        obtain ⟨x, hx⟩ : ∃ x, x = xs[k] := ⟨_, rfl⟩
        rw [← hx] at hc1
        have hT : T ≤ 16777216 := by
          rw [HR.out.2.1]
          have : dn * k ≤ 16 * 1048576 := Nat.mul_le_mul hd16 (by omega)
          omega
        by_cases hv : 0 ≤ x ∧ x < P
        · obtain ⟨v, rfl⟩ : ∃ v : Nat, x = v := ⟨x.toNat, by omega⟩
          have hvP : v < P := by omega
          have hv0 : ¬ ((v : Int) < 0) := by omega
          have hv1 : ¬ ((v : Int) ≥ (P : Int)) := by omega
          obtain ⟨V2, hV2⟩ : ∃ V, V = valP dn ((xs.take (k + 1)).map Int.toNat) := ⟨_, rfl⟩
          have hV3 : V2 = valR dn V v 0 := by
            rw [valR_end, hV2, HR.out.2.2.1, List.take_succ_eq_append_getElem h1, List.map_append, List.map_cons, List.map_nil, valP_snoc, ← hx]; rfl
          have hVs : V = valR dn V v dn := (valR_start dn V v (by rw [← HD.out.2.2.1]; exact hvP)).symm
          have hall : ∀ u ∈ xs.take (k + 1), 0 ≤ u ∧ u < P := fun u hu => by
            rw [List.take_succ_eq_append_getElem h1] at hu
            rcases List.mem_append.1 hu with hu | hu
            · exact HR.out.2.2.2.1 u hu
            · rw [List.mem_singleton.1 hu, ← hx]; omega
          have HV := hid (And.intro hV2 (And.intro hV3 (And.intro hVs hall)))
          have hpw := HPW.out
          clear hV2 hV3 hVs hall hv hx h1
          go_wp2_with fail
          clear hpw
          go_loopw [6, 9] (fun l i wr2 => ∃ (j T2 : Nat) (A2 : Option Addr) (c2 : Nat) (ob2 : Option Nat), i = .int .i64 ((j : Int) - 1) ∧ l = .slice A2 T2 c2 ∧
            Hid (j ≤ dn ∧ T2 = T + (dn - j) ∧ Row wr2 1 (.slice A2 T2 c2) ob2 T2 ((bitL T2 (valR dn V v j)).map II) ∧ (∀ j, ob2 = some j → w.heap.size ≤ j) ∧ Fr No w wr2)) (fun _ i _ => (intOf i + 1).toNat)
          case atStart => exact ⟨dn, T, A1, c1, ob1, rfl, rfl, Nat.le_refl _, by omega, by rw [← HV.out.2.2.1]; exact HR.out.2.2.2.2⟩
          case round =>
            clear hc1
            obtain ⟨j, T2, A2, c2, ob2, rfl, rfl, HS⟩ := hrel
            have hj16 : j ≤ 16 := Nat.le_trans HS.out.1 hd16
            have hT2 : T2 ≤ 16777232 := by have := HS.out.2.1; omega
            cases j with
            | zero =>
              have hge : ¬ (((0 : Nat) : Int) - 1 ≥ 0) := by omega
              have hge2 : ¬ ((-1 : Int) ≥ 0) := by omega
              go_wp2_with fail
              go_roundw
              case rel => exact ⟨k + 1, T2, V2, A2, c2, ob2, by go_num, rfl, by omega, by rw [HS.out.2.1, HR.out.2.1, Nat.mul_succ]; rfl, HV.out.1, HV.out.2.2.2, by rw [HV.out.2.1]; exact HS.out.2.2.1, HS.out.2.2.2⟩
              case measure => simp [intOf] <;> omega
            | succ m =>
              have hji : (((m + 1 : Nat) : Int) - 1) = (m : Int) := by omega
              rw [hji]
              have hge : (m : Int) ≥ 0 := by omega
              obtain ⟨b, hb⟩ : ∃ b, b = v / 2 ^ m % 2 := ⟨_, rfl⟩
              have hb2 : b < 2 := by rw [hb]; exact Nat.mod_lt _ (by decide)
              have hbit : bits .and .i64 ((v : Int) / 2 ^ m) 1 = (b : Int) := by
                have h : ((v : Int) / 2 ^ m) = ((v / 2 ^ m : Nat) : Int) := by simp
                rw [h, and1n, hb]
              have hst : bitL (T2 + 1) (valR dn V v m) = bitL T2 (valR dn V v (m + 1)) ++ [(b : Int)] := by
                rw [valR_step dn V v m (by have := HS.out.1; omega), ← hb, bitL_succ _ _ _ hb2]
              have HB := hid hst
              clear hb hst hji
              go_wp2_with (at_builtin; refine wpList_app1 slII rfl (.tmp 38) (.tmp 44) rfl rfl HS.out.2.2.1 rfl (m := 1) (c := 1) (ys := [.int .i64 (b : Int)]) rfl (by simp [Value.oneCell']) (by omega) (by omega) ?_; intro A3 c3 w3 ob3 hrow3 hfr3 hob3)
              go_roundw
              case rel =>
                refine ⟨m, T2 + 1, A3, c3, ob3, rfl, rfl, by have := HS.out.1; omega, by have := HS.out.2.1; have := HS.out.1; omega, ?_, fun j hj => ?_, HS.out.2.2.2.2.fresh hfr3 HS.out.2.2.2.1⟩
                · rw [HB.out, List.map_append]; exact hrow3
                · rcases hob3 with h | ⟨i, h, hi⟩
                  · exact HS.out.2.2.2.1 j (by rw [← h]; exact hj)
                  · rw [h] at hj; injection hj with hj; have := HS.out.2.2.2.2.size; omega
              case measure => simp [intOf] <;> omega
        · have HD2 := hid (show packE xs dn = 1 ∧ packV xs dn = [] by
            have hwf : ¬ witB xs ((2 : Int) ^ dn - 1) = true := fun h => by
              rw [HD.out.2.1] at h
              have := wit_iff.1 h x (by rw [hx]; exact List.getElem_mem h1)
              exact hv ⟨this.1, by omega⟩
            unfold packE packV; rw [Int.toNat_natCast, if_neg (fun h => hwf h.2), if_neg (fun h => hwf h.2)]; exact ⟨rfl, rfl⟩)
          have hb : x < 0 ∨ ¬ x < 0 ∧ x ≥ (P : Int) := by omega
          have hpw := HPW.out
          clear hv hx h1
          rcases hb with hb | ⟨hb, hb2⟩
          all_goals
            go_wp2_with fail
            go_ret2
            rw [HD2.out.1, HD2.out.2]
            exact ⟨_, rfl, NewR.nil, HR.out.2.2.2.2.2.2⟩
      · have hge : ¬ ((k : Int) < (n : Int)) := by omega
        have hkn : k = n := by have := HR.out.1; omega
        have htk : xs.take k = xs := by rw [hkn, List.take_of_length_le (by rw [HD.out.2.2.2.1]; exact Nat.le_refl _)]
        have hw : witB xs ((2 : Int) ^ dn - 1) = true := by
          rw [HD.out.2.1]
          exact wit_iff.2 fun v hv => by
            have := HR.out.2.2.2.1 v (by rw [htk]; exact hv)
            omega
        have hTe := HR.out.2.1
        have hVe := HR.out.2.2.1
        have hrow := HR.out.2.2.2.2.1
        rw [htk] at hVe
        have hT : T ≤ 16777216 := by
          rw [HR.out.2.1]
          have : dn * k ≤ 16 * 1048576 := Nat.mul_le_mul hd16 (by omega)
          omega
        obtain ⟨N, hN⟩ : ∃ N, N = (T + 7) / 8 := ⟨_, rfl⟩
        obtain ⟨p, hp⟩ : ∃ p, p = 8 * N - T := ⟨_, rfl⟩
        have hTp : T + p = 8 * N := by omega
        obtain ⟨X, hX⟩ : ∃ X, X = V * 2 ^ p := ⟨_, rfl⟩
        have HD2 := hid (show packE xs dn = 0 ∧ packV xs dn = beL N (X / 2 ^ (8 * (N - N))) by
          have e : packV xs dn = packB dn (xs.map Int.toNat) := by
            unfold packV; rw [Int.toNat_natCast, if_pos ⟨HD.out.1, hw⟩]
          refine ⟨by unfold packE; rw [Int.toNat_natCast, if_pos ⟨HD.out.1, hw⟩], ?_⟩
          rw [e, hX, hVe]
          unfold packB
          have el : dn * (xs.map Int.toNat).length = T := by rw [List.length_map, HD.out.2.2.2.1, ← hkn]; exact hTe.symm
          rw [el, ← hN, show (8 - T % 8) % 8 = p by omega, Nat.sub_self]
          simp)
        have HN := hid (And.intro hX hrow)
        have hN2 : N ≤ 2097152 := by omega
        have hN8 : 8 * N ≤ T + 7 := by omega
        have hTN : T ≤ 8 * N := by omega
        have hTp1 : T + p ≤ 8 * N := by omega
        have hTp2 : 8 * N ≤ T + p := by omega
        clear hkn htk hw hTe hVe hrow hN hp hX hlt hTp
        go_wp2_with fail
        go_loopw [10, 11] (fun o i wr => ∃ (j : Nat) (i8 : Nat) (A2 : Option Addr) (c2 : Nat) (ob2 : Option Nat), i = .int .i64 i8 ∧ o = .slice A2 j c2 ∧
          Hid (i8 = 8 * j ∧ j ≤ N ∧ Row wr 1 (.slice A1 T c1) ob1 T ((bitL T V).map II) ∧ Row wr 1 (.slice A2 j c2) ob2 j ((beL j (X / 2 ^ (8 * (N - j)))).map B) ∧ (∀ q, ob2 = some q → w.heap.size ≤ q ∧ ob1 ≠ some q) ∧ Fr No w wr)) (fun _ i _ => T - (intOf i).toNat)
        case atStart => exact ⟨0, 0, none, 0, none, rfl, rfl, rfl, Nat.zero_le _, HN.out.2, by simpa [beL] using Row.nil _ _, fun _ h => (by cases h), HR.out.2.2.2.2.2.2⟩
        case round =>
          obtain ⟨j, i8, A2, c2, ob2, rfl, rfl, HS⟩ := hrel
          have hi8a : i8 ≤ 8 * j := by rw [HS.out.1]; exact Nat.le_refl _
          have hi8b : 8 * j ≤ i8 := by rw [HS.out.1]; exact Nat.le_refl _
          have hjN := HS.out.2.1
          by_cases hlt : i8 < T
          · have hlt' : (i8 : Int) < (T : Int) := by omega
            have hjN2 : j < N := by omega
            go_wp2_with fail
            go_loopw [12, 13] (fun m kk wr2 => ∃ (k2 n2 : Nat), kk = .int .i64 k2 ∧ m = .int .i64 n2 ∧ wr2 = wr ∧ Hid (k2 ≤ 8 ∧ n2 = X / 2 ^ (8 * (N - j) - k2) % 2 ^ k2)) (fun _ kk _ => 8 - (intOf kk).toNat)
            case atStart => exact ⟨0, 0, rfl, rfl, rfl, by omega, by simp [Nat.mod_one]⟩
            case round =>
              obtain ⟨k2, n2, rfl, rfl, rfl, HQ⟩ := hrel
              have hk8 := HQ.out.1
              have hn2 : n2 < 256 := by
                rw [HQ.out.2]
                exact Nat.lt_of_lt_of_le (Nat.mod_lt _ (Nat.two_pow_pos _)) (Nat.pow_le_pow_right (n := 2) (by decide) hk8)
              by_cases hk : k2 < 8
              · have hk' : (k2 : Int) < 8 := by omega
                obtain ⟨m, hm⟩ : ∃ m, m = 8 * (N - j) - (k2 + 1) := ⟨_, rfl⟩
                have hm1 : 8 * (N - j) - k2 = m + 1 := by omega
                have hst := bit_step X m k2
                rw [← hm1, ← HQ.out.2] at hst
                by_cases hin : i8 + k2 < T
                · have hin' : (i8 : Int) + (k2 : Int) < (T : Int) := by omega
                  obtain ⟨b, hb⟩ : ∃ b, b = V / 2 ^ (T - 1 - (i8 + k2)) % 2 := ⟨_, rfl⟩
                  have hb2 : b < 2 := by rw [hb]; exact Nat.mod_lt _ (by decide)
                  obtain ⟨ad, rfl, hc1⟩ : ∃ ad, A1 = some ad ∧ wr.cell? (ad.add (i8 + k2)) = some (.int .i64 (b : Int)) := by
                    obtain ⟨ad, e, hc⟩ := HS.out.2.2.1.rd.1 (by rw [bitL_length]; omega)
                    refine ⟨ad, e, ?_⟩
                    rw [hc (i8 + k2) (by rw [bitL_length]; exact hin), (List.getElem?_eq_some_iff.1 (bitL_get T V (i8 + k2) hin)).2, ← hb]; rfl
                  have hbX : X / 2 ^ m % 2 = b := by
                    rw [hb, HN.out.1, show m = T + p - 1 - (i8 + k2) by omega]; exact bit_in V T p _ hin
                  rw [hbX] at hst
                  have HST := hid (show 2 * n2 + b = X / 2 ^ (8 * (N - j) - (k2 + 1)) % 2 ^ (k2 + 1) by rw [← hm]; exact hst.symm)
                  clear hst hbX hb hm hm1
                  go_wp2_with fail
                  go_roundw
                  case rel => exact ⟨k2 + 1, 2 * n2 + b, by go_num, by go_num, trivial, by omega, HST.out⟩
                  case measure => simp [intOf] <;> omega
                · have hin' : ¬ (i8 : Int) + (k2 : Int) < (T : Int) := by omega
                  have hbX : X / 2 ^ m % 2 = 0 := by
                    rw [HN.out.1]; exact bit_out V p m (by omega)
                  rw [hbX] at hst
                  have HST := hid (show 2 * n2 = X / 2 ^ (8 * (N - j) - (k2 + 1)) % 2 ^ (k2 + 1) by rw [← hm]; exact hst.symm)
                  clear hst hbX hm hm1
                  go_wp2_with fail
                  go_roundw
                  case rel => exact ⟨k2 + 1, 2 * n2, by go_num, by go_num, trivial, by omega, HST.out⟩
                  case measure => simp [intOf] <;> omega
              · have hk' : ¬ (k2 : Int) < 8 := by omega
                have hke : k2 = 8 := by omega
                have hnx := byte_next X N j hjN2
                have hn2e := HQ.out.2
                rw [hke] at hn2e
                rw [← hn2e] at hnx
                have HNX := hid hnx
                clear hke hnx hn2e hk
                go_wp2_with (at_builtin; refine wpList_app1 slU8 rfl (.tmp 73) (.tmp 76) rfl rfl HS.out.2.2.2.1 rfl (m := 1) (c := 1) (ys := [.int .u8 (n2 : Int)]) rfl (by simp [Value.oneCell']) (by omega) (by omega) ?_; intro A3 c3 w3 ob3 hrow3 hfr3 hob3)
                go_roundw
                case rel =>
                  refine ⟨j + 1, i8 + 8, A3, c3, ob3, by go_num, rfl, by omega, by omega, HS.out.2.2.1.fr hfr3 (fun q hq e => (HS.out.2.2.2.2.1 q e.symm).2 hq), ?_, fun q hq => ?_, HS.out.2.2.2.2.2.fresh hfr3 (fun q hq => (HS.out.2.2.2.2.1 q hq).1)⟩
                  · rw [← HNX.out, List.map_append, List.map_cons, List.map_nil, B_ofNat2 _ hn2]; exact hrow3
                  · rcases hob3 with h | ⟨i, h, hi⟩
                    · exact HS.out.2.2.2.2.1 q (by rw [← h]; exact hq)
                    · rw [h] at hq; injection hq with hq
                      have := HS.out.2.2.2.2.2.size
                      exact ⟨by omega, fun e => by have := HS.out.2.2.1.lt e; omega⟩
                case measure => simp [intOf] <;> omega
          · have hge : ¬ (i8 : Int) < (T : Int) := by omega
            have hjN2 : j = N := by omega
            have hrow := HS.out.2.2.2.1
            rw [hjN2] at hrow
            have HF := hid (And.intro hjN2 hrow)
            clear hjN2 hrow hlt
            go_wp2_with fail
            go_ret2
            rw [HD2.out.1, HD2.out.2]
            have hj := HF.out.1
            subst hj
            exact ⟨_, rfl, New.mk' rfl (beL_length _ _) HF.out.2 (fun q hq => (HS.out.2.2.2.2.1 q hq).1) HS.out.2.2.2.2.2⟩
end Go.Proofs.Ytdbbkdlocmafgaa

/- The contract of the document's ReadClear, and HeadClears' walk. -/
import Derived.Test.YtkhglmmidgfliaaClear
import Derived.Test.YtkhglmmidgfliaaHLaw2
import Derived.Test.YtkhglmmidgfliaaDecH
import Derived.Deep.RegionHeld3
namespace Go.Proofs.Ytkhglmmidgfliaa
open Go.RowKit Go.WideShapes Go.Proofs.HK
set_option linter.unusedVariables false
set_option linter.unusedSimpArgs false
attribute [local go_sem] max2_int min2_int max_two min_two

theorem wrap64_id {P : Int} (h0 : 0 < P) (h1 : P ≤ 65536) : wrap64 P = P := by unfold wrap64; omega
theorem wrap64_add2 {j n : Nat} (h : j + 2 ≤ n) (hl : n ≤ 17592186043904) : wrap64 ((j : Int) + 2) = (j : Int) + 2 := by unfold wrap64; omega
theorem pow16 (d : Nat) (h : d ≤ 16) : (2 : Int) ^ d ≤ 65536 := by
  have h1 : (2 : Nat) ^ d ≤ 2 ^ 16 := Nat.pow_le_pow_right (by decide) h
  have h2 : ((2 ^ d : Nat) : Int) ≤ ((65536 : Nat) : Int) := Int.ofNat_le.2 h1
  rw [Int.natCast_pow] at h2
  exact h2
set_option maxRecDepth 100000 in
set_option maxHeartbeats 3200000 in
theorem refReadClear_calls (W H C D : Int) (L : Bool) (T : Int) (A : Option Addr) (bs : List UInt8) (n c : Nat) (hn : bs.length = n) (hnc : n ≤ c) (w : World) (hr : Rd B w A bs) (hl : n ≤ 17592186043904) :
    Calls Try.prog 36 #[headV W H C D L, .int .i64 T, .slice A n c] w (RcPost W H C D T bs w) := by
  have HR := hid (And.intro hn hr)
  clear hn hr
  cases hm : mayS W H C D with
  | false =>
    have HS := hid (rc_no (T := T) (bs := bs) hm)
    unfold headV
    go_enter Try.func36, Try.ntmps36
    go_wp2_with (go_at_call 29; refine (refMay_calls W H C D L _).mono ?_; rw [hm]; rintro e w1 ⟨rfl, hf1⟩)
    go_ret3
    exact RcPost.bad HS.out rfl (((Fr.refl No w).alloc _).then hf1)
  | true =>
    obtain ⟨hC, hD1, hD2⟩ := may_facts hm
    have HM := hid hm
    unfold headV
    go_enter Try.func36, Try.ntmps36
    go_wp2_with fail
    refine (refMay_calls W H C D L _).mono ?_
    rw [hm]
    rintro e w1 ⟨rfl, hf1⟩
    obtain ⟨g, hgg⟩ : ∃ g, g = w.heap.size := ⟨_, rfl⟩
    obtain ⟨c0, c1, c2, c3, c4, _⟩ := blk5 ((hf1.block w.heap.size (by rw [World.size_alloc]; omega) (fun h => h)).trans (heap_new _ _))
    rw [← hgg] at c0 c1 c2 c3 c4 ⊢
    have hg1 : g < w1.heap.size := lt_of_cell c0
    have HF := hid (And.intro (((Fr.refl No w).alloc _).then hf1) hgg)
    clear hf1 hgg c0 c1 c4 hm
    by_cases h3 : C = 3
    · subst h3
      by_cases hT : 0 < n ∧ (n : Int) ≤ T
      · have HS := hid (rc_alpha (W := W) (H := H) (T := T) (bs := bs) HM.out ⟨rfl, by rw [HR.out.1]; exact hT.1, by rw [HR.out.1]; exact hT.2⟩)
        obtain ⟨hT1, hT2⟩ := hT
        have hT3 : ((n : Int) == 0) = false := by rw [beq_eq_false_iff_ne]; omega
        have hT4 : ¬ ((n : Int) > T) := by omega
        clear hC
        go_wp2_with fail
        go_loopw [9, 39] (fun v i wr => ∃ (k : Nat) (A1 : Option Addr) (c1 : Nat) (ob1 : Option Nat), k ≤ n ∧ i = .int .i64 k ∧ v = .slice A1 k c1 ∧
            Row wr 1 (.slice A1 k c1) ob1 k ((alB (bs.take k)).map II) ∧ (∀ q, ob1 = some q → w1.heap.size ≤ q) ∧ Fr No w1 wr)
          (fun _ i _ => n - (intOf i).toNat)
        case atStart => exact ⟨0, none, 0, none, by omega, rfl, rfl, Row.nil _ _, fun _ h => (by cases h), (Fr.refl _ _)⟩
        case round =>
          obtain ⟨k, A1, c1, ob1, hk, rfl, rfl, h1, h2, h3⟩ := hrel
          have HREL := hid (And.intro h1 (And.intro h2 h3))
          clear h1 h2 h3
          by_cases hlt : k < n
          · have hlt' : k < bs.length := by rw [HR.out.1]; exact hlt
            obtain ⟨ad, rfl, hcell⟩ : ∃ ad, A = some ad ∧ wr.cell? (ad.add k) = some (.int .u8 ((bs[k]).toNat : Int)) := by
              obtain ⟨ad, e, hc⟩ := ((HR.out.2.fr0 HF.out.1).fr0 HREL.out.2.2) (by omega)
              exact ⟨ad, e, hc k hlt'⟩
            have hst : (alB (bs.take (k + 1))).map II = (alB (bs.take k)).map II ++ [.int .i64 ((bs[k]).toNat : Int)] := by rw [alB_take _ _ hlt', List.map_append]; rfl
            have hx256 := B_lt bs[k]
            obtain ⟨x, hx⟩ : ∃ x : Int, x = ((bs[k]).toNat : Int) := ⟨_, rfl⟩
            rw [← hx] at hcell hst hx256
            have hw : IntKind.i64.wrap x = x := w64 x (by omega) (by omega)
            have HS2 := hid hst
            clear hst hx
            go_wp2_with (at_builtin; refine wpList_app1 slII rfl (.tmp 43) (.tmp 46) rfl rfl HREL.out.1 rfl (m := 1) (c := 1) (ys := [.int .i64 x]) rfl (by simp [Value.oneCell']) (by omega) (by omega) ?_; intro A2 c2 w2 ob2 hrow2 hfr2 hob2)
            go_roundw
            case rel =>
              rw [← HS2.out] at hrow2
              have := HREL.out.2.2.size
              refine ⟨k + 1, A2, c2, ob2, by omega, by go_num, rfl, hrow2, fun q hq => ?_, HREL.out.2.2.fresh hfr2 HREL.out.2.1⟩
              rcases hob2 with h | ⟨j, h, hj⟩
              · exact HREL.out.2.1 q (by rw [← h]; exact hq)
              · rw [h] at hq; injection hq with hq; omega
            case measure => simp [intOf] <;> omega
          · obtain rfl : n = k := by omega
            clear hlt
            have h1 := HREL.out.1
            rw [List.take_of_length_le (by rw [HR.out.1]; exact Nat.le_refl _)] at h1
            have HO := hid (And.intro h1 (And.intro HREL.out.2.1 HREL.out.2.2))
            clear h1
            go_wp2_with fail
            go_ret3
            have hsz := HF.out.1.size
            unfold RcPost
            rw [HS.out.1, HS.out.2.1, HS.out.2.2]
            exact ⟨_, _, rfl, New.mk' rfl (by rw [alB_length, HR.out.1]) HO.out.1 (fun q hq => Nat.le_trans hsz (HO.out.2.1 q hq)) (HF.out.1.then HO.out.2.2), NewR.nil, HF.out.1.then HO.out.2.2⟩
      · have HS := hid (rc_bad (W := W) (H := H) (T := T) (bs := bs) HM.out (fun h => hT (by have := h.2; rw [HR.out.1] at this; exact this)) (fun h => by have := h.1; omega))
        by_cases hn0 : n = 0
        · subst hn0
          clear hT hC
          go_wp2_with fail
          go_ret3
          exact RcPost.bad HS.out rfl HF.out.1
        · have hb1 : (n : Int) > 0 := by omega
          have hb2 : (n : Int) > T := by omega
          have hb4 : ((n : Int) == 0) = false := by rw [beq_eq_false_iff_ne]; omega
          clear hT hC hn0
          go_wp2_with fail
          go_ret3
          exact RcPost.bad HS.out rfl HF.out.1
    · have hb3 : (C == 3) = false := by simpa using h3
      by_cases h2 : C > 2
      · have HS := hid (rc_bad (W := W) (H := H) (T := T) (bs := bs) HM.out (fun h => h3 h.1) (fun h => by have := h.1; omega))
        have hb46 : (C == 4) = true ∨ (C == 4) = false ∧ (C == 6) = true := by
          by_cases h4 : C = 4
          · exact .inl (by simpa using h4)
          · exact .inr ⟨by simpa using h4, by rw [beq_iff_eq]; omega⟩
        clear h3 hC
        rcases hb46 with hb4 | ⟨hb4, hb6⟩
        · go_wp2_with fail
          go_ret3
          exact RcPost.bad HS.out rfl HF.out.1
        · go_wp2_with fail
          go_ret3
          exact RcPost.bad HS.out rfl HF.out.1
      · have hC02 : C = 0 ∨ C = 2 := by omega
        have hb4 : (C == 4) = false := by rw [beq_eq_false_iff_ne]; omega
        have hb6 : (C == 6) = false := by rw [beq_eq_false_iff_ne]; omega
        clear hC
        obtain ⟨m, hm2, hm0, hm4⟩ : ∃ m : Nat, 2 * samS C = 2 * (m : Int) ∧ 0 < m ∧ m ≤ 3 := by
          rcases hC02 with rfl | rfl
          · exact ⟨1, by decide, by omega, by omega⟩
          · exact ⟨3, by decide, by omega, by omega⟩
        by_cases hnm : n = 2 * m
        · have HN := hid hnm
          obtain ⟨d, rfl⟩ : ∃ d : Nat, D = d := ⟨D.toNat, by omega⟩
          have hlen := HR.out.1
          have hdiv : bs.length / 2 = m := by omega
          have hbn : ((n : Int) != 2 * samS C) = false := by rw [hm2, hnm]; simp
          have hw : wrap64 (2 * samS C) = 2 * samS C := by rw [hm2]; unfold wrap64; omega
          have HS : Hid (((∃ v ∈ prs bs m, 2 ^ d ≤ v) → rcA W H C d T bs = [] ∧ rcC W H C d bs = [] ∧ rcE W H C d T bs = 12) ∧ ((∀ v ∈ prs bs m, v < 2 ^ d) → rcA W H C d T bs = [] ∧ rcC W H C d bs = prs bs m ∧ rcE W H C d T bs = 0)) := by
            refine ⟨fun h => rc_bad HM.out (fun h => h3 h.1) (fun h' => ?_), fun h => ?_⟩
            · obtain ⟨v, hv, hge⟩ := h
              have := h'.2.2 v (by rw [hdiv]; exact hv)
              rw [Int.toNat_natCast] at this
              omega
            · have := rc_clear (W := W) (H := H) (T := T) (bs := bs) HM.out (D := d) ⟨hC02, by rw [hlen, hm2]; omega, by rw [hdiv]; exact h⟩
              rwa [hdiv] at this
          have hwd : IntKind.u64.wrap (d : Int) = (d : Int) := by rw [IntKind.wrap_u64]; omega
          have hd0 : (0 : Int) ≤ (d : Int) := by omega
          have hd1 : (d : Int) ≤ 64 := by omega
          have hpd : (0 : Int) < 2 ^ d ∧ (2 : Int) ^ d ≤ 65536 := ⟨Int.pow_pos (by decide), pow16 d (by omega)⟩
          have hsh : wrap64 (2 ^ d) = 2 ^ d := wrap64_id hpd.1 hpd.2
          have hsh2 : IntKind.i64.wrap (2 ^ d) = 2 ^ d := w64 _ (Int.le_of_lt hpd.1) (Int.lt_of_le_of_lt hpd.2 (by decide))
          obtain ⟨P, hP⟩ : ∃ P : Int, P = 2 ^ d := ⟨_, rfl⟩
          replace hsh : wrap64 (2 ^ d) = P := hsh.trans hP.symm
          replace hsh2 : IntKind.i64.wrap (2 ^ d) = P := hsh2.trans hP.symm
          rw [← hP] at HS
          have HP := hid hP
          clear hP
          clear h3 hC02 hlen hdiv hm2 hpd hnm
          go_wp2_with (go_at_call 31; refine (refSamples_calls C _).mono ?_; rintro e w2 ⟨rfl, hw2⟩; rw [hw2]; clear hw2 w2)
          clear hw hbn
          go_loopw [9, 12] (fun v i wr => ∃ (k j : Nat) (A1 : Option Addr) (c1 : Nat) (ob1 : Option Nat), k ≤ m ∧ i = .int .i64 j ∧ j = 2 * k ∧ v = .slice A1 k c1 ∧
              Row wr 1 (.slice A1 k c1) ob1 k ((prs bs k).map II) ∧ (∀ q, ob1 = some q → w1.heap.size ≤ q) ∧ Fr No w1 wr ∧ Hid (∀ v ∈ prs bs k, v < P))
            (fun v _ _ => m - slLn v)
          case atStart => exact ⟨0, 0, none, 0, none, by omega, rfl, rfl, rfl, Row.nil _ _, fun _ h => (by cases h), Fr.refl _ _, fun v h => by cases h⟩
          case round =>
            obtain ⟨k, j, A1, c1, ob1, hk, rfl, hj, rfl, h1, h2, h3, h4⟩ := hrel
            have HREL := hid (And.intro h1 (And.intro h2 (And.intro h3 h4)))
            clear h1 h2 h3 h4
            have c3' := (HREL.out.2.2.1.cellg g 3 hg1 (fun h => h)).trans c3
            by_cases hlt : k < m
            · have hlt' : (j : Int) < (n : Int) := by have := HN.out; omega
              have hjn : j + 2 ≤ n := by have := HN.out; omega
              have hsl := cut_lh slU8 A n c (j : Int) ((j : Int) + 2) j 2 rfl rfl (by omega)
              have hst : (prs bs (k + 1)).map II = (prs bs k).map II ++ [.int .i64 ((be ((bs.drop j).take 2) : Nat) : Int)] := by rw [prs_succ, List.map_append, hj]; rfl
              have hmem : ((be ((bs.drop j).take 2) : Nat) : Int) ∈ prs bs m := by
                rw [hj]; exact List.mem_map.2 ⟨k, List.mem_range.2 hlt, rfl⟩
              have hall : ∀ P : Int → Prop, (∀ v ∈ prs bs k, P v) → P ((be ((bs.drop j).take 2) : Nat) : Int) → ∀ v ∈ prs bs (k + 1), P v := fun P h1 h2 v hv => by
                rw [prs_succ, List.mem_append, List.mem_singleton] at hv
                rcases hv with hv | rfl
                · exact h1 v hv
                · rw [← hj]; exact h2
              have hlen2 : ((bs.drop j).take 2).length = 2 := by rw [List.length_take, List.length_drop, HR.out.1]; omega
              have hrd2 : Rd B wr (cutA A c j 1) ((bs.drop j).take 2) := ((((HR.out.2.fr0 HF.out.1).fr0 HREL.out.2.2.1)).cutA j c (by rw [HR.out.1]; exact hnc) (by rw [HR.out.1]; omega)).take 2
              have HL := hid (And.intro hlen2 hrd2)
              obtain ⟨x, hx⟩ : ∃ x : Nat, x = be ((bs.drop j).take 2) := ⟨_, rfl⟩
              rw [← hx] at hst hmem hall
              have HX := hid (And.intro hx (And.intro hst (And.intro hmem (And.intro hall hj))))
              clear hst hmem hall hlen2 hrd2 hx hj
              by_cases hbig : (x : Int) ≥ P
              · have HB := hid (HS.out.1 ⟨_, HX.out.2.2.1, hbig⟩)
                go_wp2_with (go_at_call 61; refine (refNumber_calls _ ((bs.drop j).take 2) 2 _ HL.out.1 _ HL.out.2 (by rw [HL.out.1]; decide)).mono ?_; rw [← HX.out.1]; rintro e w3 ⟨rfl, rfl⟩)
                go_ret3
                exact RcPost.bad HB.out rfl (HF.out.1.then HREL.out.2.2.1)
              · have hbig' : (x : Int) < P := Int.not_le.1 hbig
                clear hbig
                go_wp2_with fail
                refine (refNumber_calls _ ((bs.drop j).take 2) 2 _ HL.out.1 _ HL.out.2 (by rw [HL.out.1]; decide)).mono ?_
                rw [← HX.out.1]
                rintro e w3 ⟨rfl, hw3⟩
                rw [hw3]
                clear hw3 w3
                go_wp2_with (at_builtin; refine wpList_app1 slII rfl (.tmp 75) (.tmp 77) rfl rfl HREL.out.1 rfl (m := 1) (c := 1) (ys := [.int .i64 (x : Int)]) rfl (by simp [Value.oneCell']) (by have := HN.out; omega) (by have := HN.out; omega) ?_; intro A5 c5 w5 ob5 hrow5 hfr5 hob5)
                go_roundw
                case rel =>
                  rw [← HX.out.2.1] at hrow5
                  have := HREL.out.2.2.1.size
                  have hj := HX.out.2.2.2.2
                  have := HN.out; refine ⟨k + 1, j + 2, A5, c5, ob5, by omega, by go_num, by omega, rfl, hrow5, fun q hq => ?_, HREL.out.2.2.1.fresh hfr5 HREL.out.2.1, HX.out.2.2.2.1 _ HREL.out.2.2.2 hbig'⟩
                  rcases hob5 with h | ⟨i, h, hi⟩
                  · exact HREL.out.2.1 q (by rw [← h]; exact hq)
                  · rw [h] at hq; injection hq with hq; omega
                case measure => simp [slLn] <;> omega
            · obtain rfl : m = k := by omega
              have hlt' : ¬ ((j : Int) < (n : Int)) := by have := HN.out; omega
              have HB := hid (HS.out.2 HREL.out.2.2.2)
              clear hlt hj
              go_wp2_with fail
              go_ret3
              unfold RcPost
              rw [HB.out.1, HB.out.2.1, HB.out.2.2]
              have := HF.out.1.size
              exact ⟨_, _, rfl, ⟨NewR.nil, HF.out.1.then HREL.out.2.2.1⟩, New.mk' rfl (prs_length _ _) HREL.out.1 (fun q hq => Nat.le_trans this (HREL.out.2.1 q hq)) (HF.out.1.then HREL.out.2.2.1)⟩
        · have hnn : (n : Int) ≠ 2 * samS C := by omega
          have HS := hid (rc_bad (W := W) (H := H) (T := T) (bs := bs) HM.out (fun h => h3 h.1) (fun h => hnn (by rw [← HR.out.1]; exact h.2.1)))
          have hbn : ((n : Int) != 2 * samS C) = true := by rw [bne_iff_ne]; exact hnn
          have hw : wrap64 (2 * samS C) = 2 * samS C := by rw [hm2]; unfold wrap64; omega
          clear h3 hC02 hnm hm2 hnn
          go_wp2_with (go_at_call 31; refine (refSamples_calls C _).mono ?_; rintro e w2 ⟨rfl, rfl⟩)
          go_ret3
          exact RcPost.bad HS.out rfl HF.out.1
end Go.Proofs.Ytkhglmmidgfliaa

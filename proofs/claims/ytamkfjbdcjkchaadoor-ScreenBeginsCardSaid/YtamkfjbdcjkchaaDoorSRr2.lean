/- The document's Read: all of it. -/
import Derived.Test.YtamkfjbdcjkchaaDoorSRr
namespace Go.Proofs.YtamkfjbdcjkchaaDoor
open Go.RowKit Go.Proofs.HK
set_option linter.unusedVariables false
set_option linter.unusedSimpArgs false
attribute [local go_sem] max2_int min2_int max_two min_two
set_option maxRecDepth 100000 in
set_option maxHeartbeats 3200000 in
theorem refRead17_calls (A : Option Addr) (o : List UInt8) (n c : Nat) (w : World) (hn : o.length = n) (hr : Rd B w A o) (hc : n ≤ c) (hl : n ≤ 140737488355328) :
    Calls Tryd.prog 9 #[.slice A n c] w (RetS w (rScr o)) := by
  have HN := hid (And.intro hn (And.intro hr hc))
  clear hn hr hc
  obtain ⟨h, hh⟩ : ∃ h, h = w.heap.size := ⟨_, rfl⟩
  obtain ⟨nb, hnb⟩ : ∃ h, h = w.heap.size + 1 := ⟨_, rfl⟩
  obtain ⟨q, hq⟩ : ∃ h, h = w.heap.size + 2 := ⟨_, rfl⟩
  obtain ⟨w1, hw1⟩ : ∃ W, W = ((w.alloc (.cells #[.int .i64 0, .int .i64 0, .slice none 0 0, .bool false, .int .i64 0, .bool false, .int .i64 0] 26)).alloc (.cells #[.int .i64 0, .int .i64 0, .slice none 0 0, .bool false, .int .i64 0, .bool false, .int .i64 0] 26)).alloc (.cells #[.int .u8 71, .int .u8 73, .int .u8 70, .int .u8 56, .int .u8 57, .int .u8 97] 5 (6, 7)) := ⟨_, rfl⟩
  have H1 : Bx w h nb q w1 ∧ w1.heap.size = w.heap.size + 3 := by
    obtain ⟨wa, hwa⟩ : ∃ W, W = w.alloc (.cells #[.int .i64 0, .int .i64 0, .slice none 0 0, .bool false, .int .i64 0, .bool false, .int .i64 0] 26) := ⟨_, rfl⟩
    obtain ⟨wb, hwb⟩ : ∃ W, W = wa.alloc (.cells #[.int .i64 0, .int .i64 0, .slice none 0 0, .bool false, .int .i64 0, .bool false, .int .i64 0] 26) := ⟨_, rfl⟩
    have sa : wa.heap.size = w.heap.size + 1 := by rw [hwa, World.size_alloc]
    have sb : wb.heap.size = w.heap.size + 2 := by rw [hwb, World.size_alloc, sa]
    rw [← hwa, ← hwb] at hw1
    have ha : wa.heap[h]? = some (.cells #[.int .i64 0, .int .i64 0, .slice none 0 0, .bool false, .int .i64 0, .bool false, .int .i64 0] 26 (0, 0)) := by rw [hwa, hh]; exact heap_new _ _
    have fab : Fr No wa wb := by rw [hwb]; exact (Fr.refl No wa).alloc _
    have fb1 : Fr No wb w1 := by rw [hw1]; exact (Fr.refl No wb).alloc _
    have hb : wb.heap[nb]? = some (.cells #[.int .i64 0, .int .i64 0, .slice none 0 0, .bool false, .int .i64 0, .bool false, .int .i64 0] 26 (0, 0)) := by
      rw [hwb, hnb, show w.heap.size + 1 = wa.heap.size from sa.symm]; exact heap_new _ _
    refine ⟨⟨?_, ?_, ?_, ?_⟩, by rw [hw1, World.size_alloc, sb]⟩
    · exact (fb1.block h (by omega) (fun h => h)).trans ((fab.block h (by omega) (fun h => h)).trans ha)
    · exact (fb1.block nb (by omega) (fun h => h)).trans hb
    · rw [hw1, hq, show w.heap.size + 2 = wb.heap.size from sb.symm]; exact heap_new _ _
    · exact (show Fr No w wa by rw [hwa]; exact (Fr.refl No w).alloc _).then (fab.then fb1)
  have HW := hid H1
  have HH := hid (And.intro hh (And.intro hnb hq))
  have HW1 := hid hw1
  clear hw1 H1 hh hnb hq
  have hcv : (convert 22 22 (.slice (some ⟨w.heap.size + 1 + 1, 0, none⟩) 6 6)).run Tryd.prog (((w.alloc (.cells #[.int .i64 0, .int .i64 0, .slice none 0 0, .bool false, .int .i64 0, .bool false, .int .i64 0] 26)).alloc (.cells #[.int .i64 0, .int .i64 0, .slice none 0 0, .bool false, .int .i64 0, .bool false, .int .i64 0] 26)).alloc (.cells #[.int .u8 71, .int .u8 73, .int .u8 70, .int .u8 56, .int .u8 57, .int .u8 97] 5)) =
      .ok (.slice (some ⟨w.heap.size + 1 + 1, 0, none⟩) 6 6) (((w.alloc (.cells #[.int .i64 0, .int .i64 0, .slice none 0 0, .bool false, .int .i64 0, .bool false, .int .i64 0] 26)).alloc (.cells #[.int .i64 0, .int .i64 0, .slice none 0 0, .bool false, .int .i64 0, .bool false, .int .i64 0] 26)).alloc (.cells #[.int .u8 71, .int .u8 73, .int .u8 70, .int .u8 56, .int .u8 57, .int .u8 97] 5 (6, 7))) := by
    have := Lib.run_convert_bytes_const (P := Tryd.prog) ((w.alloc (.cells #[.int .i64 0, .int .i64 0, .slice none 0 0, .bool false, .int .i64 0, .bool false, .int .i64 0] 26)).alloc (.cells #[.int .i64 0, .int .i64 0, .slice none 0 0, .bool false, .int .i64 0, .bool false, .int .i64 0] 26)) 22 5 #[.int .u8 71, .int .u8 73, .int .u8 70, .int .u8 56, .int .u8 57, .int .u8 97] 6 6 slU8.und u8U
    rw [World.size_alloc, World.size_alloc] at this
    exact this
  go_enter Tryd.func9, Tryd.ntmps9
  go_upto_region 4 with fail
  rw [← HW1.out, show w.heap.size + 1 + 1 = q from HH.out.2.2.symm, ← HH.out.2.1, ← HH.out.1]
  clear hcv
  go_loopw [7, 8, 22] (fun _ _ i wr => ∃ (k : Nat), k ≤ 6 ∧ i = .int .i64 k ∧ Hid (o.take k = magic.take k ∧ k ≤ n) ∧ Hid (∃ m, wr = w1.drewN m)) (fun _ _ i _ => 6 - (intOf i).toNat)
  case atStart => exact ⟨0, by omega, rfl, hid ⟨by rw [List.take_zero, List.take_zero], by omega⟩, hid ⟨0, rfl⟩⟩
  case round =>
    obtain ⟨k, hk, rfl, HK, HM⟩ := hrel
    have HB := hid (show Bx w h nb q wr from by obtain ⟨m, rfl⟩ := HM.out; exact HW.out.1.drewN m)
    by_cases hk6 : k < 6
    · have qm := magic_cell HB.out.2.2.1 hk6
      have hlt := (rdB magic k).toNat_lt
      obtain ⟨y, hy⟩ : ∃ y, y = (rdB magic k).toNat := ⟨_, rfl⟩
      rw [← hy] at qm hlt
      have HY := hid hy
      clear hy
      obtain ⟨z0, z1, z2, z3, z4, z5, z6, zf⟩ := blk7 HB.out.1
      obtain ⟨y0, y1, y2, y3, y4, y5, y6, yf⟩ := blk7 HB.out.2.1
      by_cases hkn : k < n
      · obtain ⟨ad, rfl, hcb⟩ := (HN.out.2.1.fr0 HB.out.2.2.2).atN k (by rw [HN.out.1]; exact hkn)
        have hlt2 := (rdB o k).toNat_lt
        obtain ⟨x, hx⟩ : ∃ x, x = (rdB o k).toNat := ⟨_, rfl⟩
        rw [← hx] at hcb hlt2
        have HX := hid hx
        clear hx
        by_cases hxy : x = y
        · subst hxy
          have HK2 := hid (show o.take (k + 1) = magic.take (k + 1) ∧ k + 1 ≤ n from ⟨(magic_step hk6 (by rw [HN.out.1]; exact hkn) HK.out.1).2 (by rw [← UInt8.toNat_inj, ← HX.out, ← HY.out]), by omega⟩)
          clear hlt hlt2
          go_wp2_with fail
          go_roundw
          case rel => exact ⟨k + 1, by omega, by go_num, HK2, HM⟩
          case measure => simp [intOf] <;> omega
        · have hne : ((x : Int) != (y : Int)) = true := by rw [bne_iff_ne]; omega
          have HS := hid (show rScr o = no3 3 from by
            unfold rScr
            rw [if_neg (fun h => hxy (by have := (magic_step hk6 (by rw [HN.out.1]; exact hkn) HK.out.1).1 h; rw [HX.out, HY.out, this]))])
          go_wp2_with fail
          refine ret_cell3 rfl (g := h) rfl rfl rfl (load_scr (set7 HB.out.1 _ _ _ _ _ _ _)) rfl ?_
          rw [HS.out]
          exact (HB.out).out _ HH.out.1
      · obtain rfl : k = n := by have := HK.out.2; omega
        have HS := hid (show rScr o = no3 2 from by
          unfold rScr
          rw [if_pos (magic_short (by rw [HN.out.1]; exact HK.out.1) (by rw [HN.out.1]; omega))]
          unfold rHead
          rw [if_pos (by rw [HN.out.1]; omega)])
        go_wp2_with fail
        refine ret_cell3 rfl (g := h) rfl rfl rfl (load_scr (set7 HB.out.1 _ _ _ _ _ _ _)) rfl ?_
        rw [HS.out]
        exact (HB.out).out _ HH.out.1
    · obtain rfl : k = 6 := by omega
      have hn6 : 6 ≤ n := by have := HK.out.2; omega
      have hmag : o.take 6 = magic.take o.length := by rw [HK.out.1, List.take_of_length_le (show magic.length ≤ 6 by decide), List.take_of_length_le (show magic.length ≤ o.length by rw [HN.out.1]; exact hn6)]
      have HS0 := hid (show rScr o = rHead o from by unfold rScr; rw [if_pos hmag])
      have hcut := cut_l slU8 A n c 6 6 rfl hn6
      have HP := hid (show Pb w h nb q wr from by obtain ⟨m, rfl⟩ := HM.out; exact Pb.drewN HW.out m)
      have HF := hid HP.out.1.2.2.2
      clear hmag HM HK HB
      by_cases h13 : n < 13
      · have HS := hid (show rScr o = no3 2 from by rw [HS0.out]; unfold rHead; rw [if_pos (by rw [HN.out.1]; exact h13)])
        obtain ⟨z0, z1, z2, z3, z4, z5, z6, zf⟩ := blk7 HP.out.1.1
        obtain ⟨y0, y1, y2, y3, y4, y5, y6, yf⟩ := blk7 HP.out.1.2.1
        have h7 : ((n - 6 : Nat) : Int) < 7 := by omega
        go_wp2_with fail
        refine ret_cell3 rfl (g := h) rfl rfl rfl (load_scr (set7 HP.out.1.1 _ _ _ _ _ _ _)) rfl ?_
        rw [HS.out]
        exact (HP.out.1).out _ HH.out.1
      · have h7 : ¬ ((n - 6 : Nat) : Int) < 7 := by omega
        go_upto_region 14 with fail
        clear hcut
        obtain ⟨g, hg⟩ : ∃ g, g = w.heap.size + 3 := ⟨_, rfl⟩
        have HG := hid hg
        clear hg
        obtain ⟨A1, hA1⟩ : ∃ A1, A1 = cutA A c 6 1 := ⟨_, rfl⟩
        have HRD := hid (show Rd B w A1 (o.drop 6) from by rw [hA1]; exact HN.out.2.1.cutA 6 c (by rw [HN.out.1]; exact HN.out.2.2) (by rw [HN.out.1]; omega))
        rw [← hA1]
        clear hA1
        obtain ⟨vW, hvW⟩ : ∃ x, x = rNum o 6 := ⟨_, rfl⟩
        obtain ⟨vH, hvH⟩ : ∃ x, x = rNum o 8 := ⟨_, rfl⟩
        have HVW := hid (show ((le ((o.drop 6).take 2) : Nat) : Int) = vW from by rw [hvW, le_two _ (by rw [List.length_drop, HN.out.1]; omega), rdB_drop, rdB_drop]; rfl)
        have HVH := hid (show ((le ((o.drop 8).take 2) : Nat) : Int) = vH from by rw [hvH, le_two _ (by rw [List.length_drop, HN.out.1]; omega), rdB_drop, rdB_drop]; rfl)
        have bW : 0 ≤ vW ∧ vW < 65536 := by rw [hvW]; unfold rNum; have := (rdB o 6).toNat_lt; have := (rdB o (6 + 1)).toNat_lt; omega
        have bH : 0 ≤ vH ∧ vH < 65536 := by rw [hvH]; unfold rNum; have := (rdB o 8).toNat_lt; have := (rdB o (8 + 1)).toNat_lt; omega
        have HVN := hid (And.intro hvW hvH)
        clear hvW hvH
        go_cut [9] (fun s9 wx => s9 = .pointer (some ⟨g, 0, none⟩) ∧ Qb w h nb q g (scC vW vH (.slice none 0 0) false (-1) false 0) wx)
        case first =>
          have hcut2 := cut_l slU8 A1 (n - 6) (c - 6) 2 2 rfl (by omega)
          obtain ⟨A2, hA2⟩ : ∃ A2, A2 = cutA A1 (c - 6) 2 1 := ⟨_, rfl⟩
          have HRD2 := hid (show Rd B w A2 (o.drop 8) from by
            rw [hA2, show o.drop 8 = (o.drop 6).drop 2 by rw [List.drop_drop]]
            exact HRD.out.cutA 2 (c - 6) (by rw [List.length_drop, HN.out.1]; have := HN.out.2.2; omega) (by rw [List.length_drop, HN.out.1]; omega))
          rw [← hA2, show n - 6 - 2 = n - 8 by omega, show c - 6 - 2 = c - 8 by omega] at hcut2
          clear hA2
          refine wp_region_held_drew (S := (fun _ => True)) (by kernel_rfl) trivial (fun hHeld => ?_)
          obtain ⟨W0, hW0⟩ : ∃ W, W = wr.drew := ⟨_, rfl⟩
          have HP0 := hid (show Pb w h nb q W0 from by rw [hW0]; exact HP.out.drew)
          try rw [← hW0]
          clear hW0
          refine takeD (i := 0) (d := some 46) (v := (.slice A1 (n - 6) (c - 6))) rfl rfl (by kernel_rfl) (by kernel_rfl) (by kernel_rfl) (fun _ _ _ h => h) (by rfl) ?_ trivial ?_
          · intro w' hSw
            go_simp
            first | done | rfl
          (try simp only [Act.put, List.setIfInBounds_toArray, List.set_cons_zero, List.set_cons_succ])
          refine takeD (i := 2) (d := some 48) (v := (.slice A1 (n - 6) (c - 6))) rfl rfl (by kernel_rfl) (by kernel_rfl) (by kernel_rfl) (fun _ _ _ h => h) (by rfl) ?_ trivial ?_
          · intro w' hSw
            go_simp
            first | done | rfl
          (try simp only [Act.put, List.setIfInBounds_toArray, List.set_cons_zero, List.set_cons_succ])
          refine takeD (i := 3) (d := some 49) (v := (.slice A2 (n - 8) (c - 8))) rfl rfl (by kernel_rfl) (by kernel_rfl) (by kernel_rfl) (fun _ _ _ h => h) (by rfl) ?_ trivial ?_
          · intro w' hSw
            go_simp
            first | done | rfl
          (try simp only [Act.put, List.setIfInBounds_toArray, List.set_cons_zero, List.set_cons_succ])
          clear hcut2
          refine wpAnyH_ready (rs := [1, 6]) (by kernel_rfl) (by simp) (AllReadyH.cons rfl (fun KK hK => ?_) (AllReadyH.cons rfl (fun KK hK => ?_) AllReadyH.nil))
          · skip
            go_simp
            refine (number17_calls A1 (o.drop 6) (n - 6) (c - 6) (by rw [List.length_drop, HN.out.1]) (by omega) W0 (HRD.out.fr0 HP0.out.1.2.2.2)).mono ?_
            rintro e W1 ⟨rfl, q1, hq1⟩
            have HP1 := hid (show Pb w h nb q W1 from by rw [hq1]; exact HP0.out.drewN q1)
            clear hq1
            rw [HVW.out]
            refine hK.out _ _ trivial (fun hHeld => ?_)
            clear hK KK
            (try simp only [Act.put, List.setIfInBounds_toArray, List.set_cons_zero, List.set_cons_succ])
            refine wpAnyH_ready (rs := [4, 6]) (by kernel_rfl) (by simp) (AllReadyH.cons rfl (fun KK hK => ?_) (AllReadyH.cons rfl (fun KK hK => ?_) AllReadyH.nil))
            · skip
              go_simp
              refine (number17_calls A2 (o.drop 8) (n - 8) (c - 8) (by rw [List.length_drop, HN.out.1]) (by omega) W1 (HRD2.out.fr0 HP1.out.1.2.2.2)).mono ?_
              rintro e W2 ⟨rfl, q2, hq2⟩
              have HP2 := hid (show Pb w h nb q W2 from by rw [hq2]; exact HP1.out.drewN q2)
              clear hq2
              rw [HVH.out]
              refine hK.out _ _ trivial (fun hHeld => ?_)
              clear hK KK
              (try simp only [Act.put, List.setIfInBounds_toArray, List.set_cons_zero, List.set_cons_succ])
              refine takeD (i := 5) (d := some 51) (v := (.agg #[.int .i64 vW, .int .i64 vH, .slice none 0 0, .bool false, .int .i64 (-1), .bool false, .int .i64 0])) rfl rfl (by kernel_rfl) (by kernel_rfl) (by kernel_rfl) (fun _ _ _ h => h) (by rfl) ?_ trivial ?_
              · intro w' hSw
                go_simp
                first | done | rfl
              (try simp only [Act.put, List.setIfInBounds_toArray, List.set_cons_zero, List.set_cons_succ])
              refine oneD (i := 6) (by kernel_rfl) rfl (fun KK hK => ?_)
              go_simp
              rw [show W2.heap.size = g from HP2.out.2.trans HG.out.symm]
              obtain ⟨W3, hW3⟩ : ∃ W, W = W2.alloc (.cells #[.int .i64 0, .int .i64 0, .slice none 0 0, .bool false, .int .i64 0, .bool false, .int .i64 0] 26) := ⟨_, rfl⟩
              have HP3 := hid (show Qb w h nb q g #[.int .i64 0, .int .i64 0, .slice none 0 0, .bool false, .int .i64 0, .bool false, .int .i64 0] W3 from by rw [hW3]; exact HP2.out.alloc _ g HG.out)
              rw [← hW3]
              clear hW3
              refine hK.out _ _ trivial (fun hHeld => ?_)
              clear hK KK
              (try simp only [Act.put, List.setIfInBounds_toArray, List.set_cons_zero, List.set_cons_succ])
              obtain ⟨u0, u1, u2, u3, u4, u5, u6, uf⟩ := blk7 HP3.out.2
              refine oneD (i := 7) (by kernel_rfl) rfl (fun KK hK => ?_)
              go_simp
              refine hK.out _ _ trivial (fun hHeld => ?_)
              clear hK KK
              (try simp only [Act.put, List.setIfInBounds_toArray, List.set_cons_zero, List.set_cons_succ])
              refine wpAnyH_done (by kernel_rfl) ?_ _
              clear hHeld
              go_wp2_with fail
              go_meet
              exact ⟨rfl, HP3.out.fr (fr7 W3 g _ _ _ _ _ _ _) (set7 HP3.out.2 _ _ _ _ _ _ _) HH.out HG.out⟩
            · skip
              go_simp
              rw [show W1.heap.size = g from HP1.out.2.trans HG.out.symm]
              obtain ⟨W3, hW3⟩ : ∃ W, W = W1.alloc (.cells #[.int .i64 0, .int .i64 0, .slice none 0 0, .bool false, .int .i64 0, .bool false, .int .i64 0] 26) := ⟨_, rfl⟩
              have HP3 := hid (show Qb w h nb q g #[.int .i64 0, .int .i64 0, .slice none 0 0, .bool false, .int .i64 0, .bool false, .int .i64 0] W3 from by rw [hW3]; exact HP1.out.alloc _ g HG.out)
              rw [← hW3]
              clear hW3
              refine hK.out _ _ trivial (fun hHeld => ?_)
              clear hK KK
              (try simp only [Act.put, List.setIfInBounds_toArray, List.set_cons_zero, List.set_cons_succ])
              refine oneD (i := 4) (by kernel_rfl) rfl (fun KK hK => ?_)
              go_simp
              refine (number17_calls A2 (o.drop 8) (n - 8) (c - 8) (by rw [List.length_drop, HN.out.1]) (by omega) W3 (HRD2.out.fr0 HP3.out.1.2.2.2)).mono ?_
              rintro e W2 ⟨rfl, q2, hq2⟩
              have HP2 := hid (show (Qb w h nb q g #[.int .i64 0, .int .i64 0, .slice none 0 0, .bool false, .int .i64 0, .bool false, .int .i64 0]) W2 from by rw [hq2]; exact HP3.out.drewN q2)
              clear hq2
              rw [HVH.out]
              refine hK.out _ _ trivial (fun hHeld => ?_)
              clear hK KK
              (try simp only [Act.put, List.setIfInBounds_toArray, List.set_cons_zero, List.set_cons_succ])
              refine takeD (i := 5) (d := some 51) (v := (.agg #[.int .i64 vW, .int .i64 vH, .slice none 0 0, .bool false, .int .i64 (-1), .bool false, .int .i64 0])) rfl rfl (by kernel_rfl) (by kernel_rfl) (by kernel_rfl) (fun _ _ _ h => h) (by rfl) ?_ trivial ?_
              · intro w' hSw
                go_simp
                first | done | rfl
              (try simp only [Act.put, List.setIfInBounds_toArray, List.set_cons_zero, List.set_cons_succ])
              obtain ⟨u0, u1, u2, u3, u4, u5, u6, uf⟩ := blk7 HP2.out.2
              refine oneD (i := 7) (by kernel_rfl) rfl (fun KK hK => ?_)
              go_simp
              refine hK.out _ _ trivial (fun hHeld => ?_)
              clear hK KK
              (try simp only [Act.put, List.setIfInBounds_toArray, List.set_cons_zero, List.set_cons_succ])
              refine wpAnyH_done (by kernel_rfl) ?_ _
              clear hHeld
              go_wp2_with fail
              go_meet
              exact ⟨rfl, HP2.out.fr (fr7 W2 g _ _ _ _ _ _ _) (set7 HP2.out.2 _ _ _ _ _ _ _) HH.out HG.out⟩
          · skip
            go_simp
            rw [show W0.heap.size = g from HP0.out.2.trans HG.out.symm]
            obtain ⟨W3, hW3⟩ : ∃ W, W = W0.alloc (.cells #[.int .i64 0, .int .i64 0, .slice none 0 0, .bool false, .int .i64 0, .bool false, .int .i64 0] 26) := ⟨_, rfl⟩
            have HP3 := hid (show Qb w h nb q g #[.int .i64 0, .int .i64 0, .slice none 0 0, .bool false, .int .i64 0, .bool false, .int .i64 0] W3 from by rw [hW3]; exact HP0.out.alloc _ g HG.out)
            rw [← hW3]
            clear hW3
            refine hK.out _ _ trivial (fun hHeld => ?_)
            clear hK KK
            (try simp only [Act.put, List.setIfInBounds_toArray, List.set_cons_zero, List.set_cons_succ])
            refine oneD (i := 1) (by kernel_rfl) rfl (fun KK hK => ?_)
            go_simp
            refine (number17_calls A1 (o.drop 6) (n - 6) (c - 6) (by rw [List.length_drop, HN.out.1]) (by omega) W3 (HRD.out.fr0 HP3.out.1.2.2.2)).mono ?_
            rintro e W1 ⟨rfl, q1, hq1⟩
            have HP1 := hid (show (Qb w h nb q g #[.int .i64 0, .int .i64 0, .slice none 0 0, .bool false, .int .i64 0, .bool false, .int .i64 0]) W1 from by rw [hq1]; exact HP3.out.drewN q1)
            clear hq1
            rw [HVW.out]
            refine hK.out _ _ trivial (fun hHeld => ?_)
            clear hK KK
            (try simp only [Act.put, List.setIfInBounds_toArray, List.set_cons_zero, List.set_cons_succ])
            refine oneD (i := 4) (by kernel_rfl) rfl (fun KK hK => ?_)
            go_simp
            refine (number17_calls A2 (o.drop 8) (n - 8) (c - 8) (by rw [List.length_drop, HN.out.1]) (by omega) W1 (HRD2.out.fr0 HP1.out.1.2.2.2)).mono ?_
            rintro e W2 ⟨rfl, q2, hq2⟩
            have HP2 := hid (show (Qb w h nb q g #[.int .i64 0, .int .i64 0, .slice none 0 0, .bool false, .int .i64 0, .bool false, .int .i64 0]) W2 from by rw [hq2]; exact HP1.out.drewN q2)
            clear hq2
            rw [HVH.out]
            refine hK.out _ _ trivial (fun hHeld => ?_)
            clear hK KK
            (try simp only [Act.put, List.setIfInBounds_toArray, List.set_cons_zero, List.set_cons_succ])
            refine takeD (i := 5) (d := some 51) (v := (.agg #[.int .i64 vW, .int .i64 vH, .slice none 0 0, .bool false, .int .i64 (-1), .bool false, .int .i64 0])) rfl rfl (by kernel_rfl) (by kernel_rfl) (by kernel_rfl) (fun _ _ _ h => h) (by rfl) ?_ trivial ?_
            · intro w' hSw
              go_simp
              first | done | rfl
            (try simp only [Act.put, List.setIfInBounds_toArray, List.set_cons_zero, List.set_cons_succ])
            obtain ⟨u0, u1, u2, u3, u4, u5, u6, uf⟩ := blk7 HP2.out.2
            refine oneD (i := 7) (by kernel_rfl) rfl (fun KK hK => ?_)
            go_simp
            refine hK.out _ _ trivial (fun hHeld => ?_)
            clear hK KK
            (try simp only [Act.put, List.setIfInBounds_toArray, List.set_cons_zero, List.set_cons_succ])
            refine wpAnyH_done (by kernel_rfl) ?_ _
            clear hHeld
            go_wp2_with fail
            go_meet
            exact ⟨rfl, HP2.out.fr (fr7 W2 g _ _ _ _ _ _ _) (set7 HP2.out.2 _ _ _ _ _ _ _) HH.out HG.out⟩
        case rest =>
          obtain ⟨rfl, hfc⟩ := hcut
          obtain ⟨w3, rfl⟩ : ∃ x : World, x = wc := ⟨_, rfl⟩
          have HQ := hid hfc
          clear hfc
          have HFW := hid (show Fr No w w3 from HQ.out.1.2.2.2)
          obtain ⟨u0, u1, u2, u3, u4, u5, u6, uf⟩ := blk7 HQ.out.2
          obtain ⟨z0, z1, z2, z3, z4, z5, z6, zf⟩ := blk7 HQ.out.1.1
          obtain ⟨y0, y1, y2, y3, y4, y5, y6, yf⟩ := blk7 HQ.out.1.2.1
          by_cases hz : sizB vW vH = false
          · have HS := hid (show rScr o = no3 11 from by
              rw [HS0.out]; unfold rHead
              rw [if_neg (by rw [HN.out.1]; exact h13), ← HVN.out.1, ← HVN.out.2, if_pos hz])
            go_wp2_with fail
            refine (refSized_calls vW vH _ bW bH).mono ?_
            rw [hz]
            rintro e w4 ⟨rfl, h4⟩
            rw [h4]
            clear h4 w4
            go_wp2_with fail
            refine ret_cell3 rfl (g := h) rfl rfl rfl (load_scr (set7 HQ.out.1.1 _ _ _ _ _ _ _)) rfl ?_
            rw [HS.out]
            exact (HQ.out.1).out _ HH.out.1
          · have HZ := hid hz
            have hz1 : sizB vW vH = true := by simpa using hz
            have HZ1 := hid hz1
            clear hz hz1
            obtain ⟨ad, rfl, hcb⟩ := (HRD.out.fr0 HFW.out).atN 4 (by rw [List.length_drop, HN.out.1]; omega)
            obtain ⟨m, hm⟩ : ∃ m, m = (rdB o 10).toNat := ⟨_, rfl⟩
            have hmb : m < 256 := by rw [hm]; exact (rdB o 10).toNat_lt
            rw [rdB_drop, show 6 + 4 = 10 from rfl, ← hm] at hcb
            have hcb4 : w3.cell? ⟨ad.block, ad.off + 4, none⟩ = some (.int .u8 (m : Int)) := by
              have e := hcb
              rw [show (4 : Nat) = 3 + 1 from rfl, add_succ'] at e
              exact e
            have HM := hid hm
            have hcut3 := cut_l slU8 (some ad) (n - 6) (c - 6) 7 7 rfl (by omega)
            obtain ⟨A3, hA3⟩ : ∃ A3, A3 = cutA (some ad) (c - 6) 7 1 := ⟨_, rfl⟩
            have HRD3 := hid (show Rd B w A3 (o.drop 13) from by
              rw [hA3, show o.drop 13 = (o.drop 6).drop 7 by rw [List.drop_drop]]
              exact HRD.out.cutA 7 (c - 6) (by rw [List.length_drop, HN.out.1]; have := HN.out.2.2; omega) (by rw [List.length_drop, HN.out.1]; omega))
            rw [← hA3, show n - 6 - 7 = n - 13 by omega, show c - 6 - 7 = c - 13 by omega] at hcut3
            clear hA3 hcb hm
            have hm0 : (0 : Int) ≤ (m : Int) := by omega
            have hi4 : (4 : Int) < ((n - 6 : Nat) : Int) := by omega
            go_upto_if 65 with (go_at_call 23; refine (refSized_calls vW vH _ bW bH).mono ?_; rw [HZ1.out]; rintro e w4 ⟨rfl, h4⟩; rw [h4]; clear h4 w4)
            have hHD : ¬ o.length < 13 := by rw [HN.out.1]; exact h13
            have HRH := hid (show rHead o = if m < 128 then rRest o 13 vW vH [] else if n - 13 < 6 * 2 ^ (m % 8) then no3 2 else rRest o (13 + 6 * 2 ^ (m % 8)) vW vH ((o.drop 13).take (6 * 2 ^ (m % 8))) from by
              unfold rHead
              rw [if_neg hHD, ← HVN.out.1, ← HVN.out.2, if_neg (by rw [HZ1.out]; simp), ← HM.out, HN.out.1])
            clear hHD hcb4 hcut3 hi4 u0 u1 u2 u3 u4 u5 u6 uf
            go_cut [0] (fun s0 wx => ∃ (p : Nat) (A4 : Option Addr) (T : List UInt8) (tA : Option Addr) (tn tc : Nat), s0 = .slice A4 (n - p) (c - p) ∧ Hid (p ≤ n ∧ rHead o = rRest o p vW vH T ∧ Rd B w A4 (o.drop p) ∧ Qb w h nb q g (scC vW vH (.slice tA tn tc) false (-1) false 0) wx ∧ TabN (w.heap.size + 4) wx tA tn tc T))
            case first =>
              by_cases hm : m < 128
              · have hge : ((m : Int) ≥ 128) = False := by simp; omega
                go_wp2_with fail
                go_meet
                exact ⟨13, A3, [], none, 0, 0, rfl, hid ⟨by omega, by rw [HRH.out, if_pos hm], HRD3.out, HQ.out, TabN.nil _ _⟩⟩
              · have hge : (m : Int) ≥ 128 := by omega
                have HTC := hid (table17_calls A3 (o.drop 13) (n - 13) (c - 13) m hmb (by rw [List.length_drop, HN.out.1]) w3 (HRD3.out.fr0 HFW.out) (by omega))
                by_cases hs : n - 13 < 6 * 2 ^ (m % 8)
                · have HS := hid (show rScr o = no3 2 from by rw [HS0.out, HRH.out, if_neg hm, if_pos hs])
                  have HSX := hid hs
                  clear hs
                  go_wp2_with fail
                  refine HTC.out.mono ?_
                  rintro e w4 ⟨he, hf4⟩
                  rw [if_pos (by rw [List.length_drop, HN.out.1]; exact HSX.out)] at he
                  subst he
                  have HQ4 := hid (show Bx w h nb q w4 from HQ.out.1.fr hf4 (fun h => h) (fun h => h) (fun h => h) (fun _ _ h => h))
                  clear hf4
                  obtain ⟨z0, z1, z2, z3, z4, z5, z6, zf⟩ := blk7 HQ4.out.1
                  obtain ⟨y0, y1, y2, y3, y4, y5, y6, yf⟩ := blk7 HQ4.out.2.1
                  go_wp2_with fail
                  refine ret_cell3 rfl (g := h) rfl rfl rfl (load_scr (set7 HQ4.out.1 _ _ _ _ _ _ _)) rfl ?_
                  rw [HS.out]
                  exact (HQ4.out).out _ HH.out.1
                · have HSX := hid hs
                  clear hs
                  go_wp2_with fail
                  refine HTC.out.mono ?_
                  rintro e w4 ⟨he, hf4⟩
                  rw [if_neg (by rw [List.length_drop, HN.out.1]; exact HSX.out)] at he
                  obtain ⟨tA, tn, tc, rfl, ht4⟩ := he
                  obtain ⟨b6, hb6⟩ : ∃ x, x = 6 * 2 ^ (m % 8) := ⟨_, rfl⟩
                  rw [← hb6] at HSX ht4 HRH
                  have h3n : b6 = 3 * tn := by
                    have h1 := ht4.1
                    rw [List.length_take, List.length_drop, HN.out.1] at h1
                    have := HSX.out
                    omega
                  have hb6n : b6 ≤ n - 13 := by have := HSX.out; omega
                  have HB6 := hid (And.intro hb6 h3n)
                  clear hb6 h3n
                  have htn : 3 * tn ≤ n - 13 := by have := HB6.out.2; omega
                  clear hb6n
                  have hw3 : IntKind.i64.wrap (3 * (tn : Int)) = 3 * (tn : Int) := w64 _ (by omega) (by omega)
                  have hcut5 := cut_l slU8 A3 (n - 13) (c - 13) (3 * (tn : Int)) (3 * tn) (by omega) htn
                  have HQ4 := hid (show Qb w h nb q g (scC vW vH (.slice none 0 0) false (-1) false 0) w4 from HQ.out.fr0 hf4)
                  have HT4 := hid (show TabN (w.heap.size + 4) w4 tA tn tc ((o.drop 13).take b6) from by
                    obtain ⟨h1, ob, h2, h3⟩ := ht4
                    exact ⟨h1, ob, h2, fun k e => by have := h3 k e; have := (Array.getElem?_eq_some_iff.1 HQ.out.2).1; have := HG.out; omega⟩)
                  clear hf4 ht4
                  obtain ⟨u0, u1, u2, u3, u4, u5, u6, uf⟩ := blk7 HQ4.out.2
                  go_wp2_with fail
                  go_meet
                  have hfs : Fr (HK.One g) w4 (w4.setCell ⟨g, 2, none⟩ (.slice tA tn tc)) := Fr.set1 w4 g 2 _
                  refine ⟨13 + 3 * tn, cutA A3 (c - 13) (3 * tn) 1, (o.drop 13).take b6, tA, tn, tc, by rw [show n - 13 - 3 * tn = n - (13 + 3 * tn) by omega, show c - 13 - 3 * tn = c - (13 + 3 * tn) by omega], hid ⟨by omega, ?_, ?_, HQ4.out.fr hfs (zt2 HQ4.out.2 _) HH.out HG.out, HT4.out.fr hfs (fun k h1 _ e => by have e : k = g := e; have := HG.out; omega)⟩⟩
                  · rw [HRH.out, if_neg hm, if_neg HSX.out, HB6.out.2]
                  · rw [show o.drop (13 + 3 * tn) = (o.drop 13).drop (3 * tn) by rw [List.drop_drop]]
                    exact HRD3.out.cutA (3 * tn) (c - 13) (by rw [List.length_drop, HN.out.1]; have := HN.out.2.2; omega) (by rw [List.length_drop, HN.out.1]; exact htn)
            case rest =>
              obtain ⟨p0, A4, T0, tA, tn, tc, rfl, hfc⟩ := hcut
              obtain ⟨w5, rfl⟩ : ∃ x : World, x = wc := ⟨_, rfl⟩
              have HC := hid hfc.out
              have hp0 : p0 ≤ n := hfc.out.1
              clear hfc
              have HS1 := hid (show rScr o = rGo (o.length + 1) o p0 vW vH T0 (-1) from by rw [HS0.out, HC.out.2.1]; rfl)
              clear HRH
              go_upto_region 25 with fail
              go_loopw [0] (fun s0 wr => ∃ (p : Nat) (A5 : Option Addr), s0 = .slice A5 (n - p) (c - p) ∧ p ≤ n ∧ Hid (∃ (f : Nat) (cl : Int), n < p + f ∧ rScr o = rGo f o p vW vH T0 cl ∧ Rd B w A5 (o.drop p) ∧ Qb w h nb q g (scC vW vH (.slice tA tn tc) false cl false 0) wr ∧ TabN (w.heap.size + 4) wr tA tn tc T0)) (fun s0 _ => slLen s0)
              case atStart => exact ⟨p0, A4, rfl, hp0, hid ⟨n + 1, -1, by omega, by rw [HS1.out, HN.out.1], HC.out.2.2.1, HC.out.2.2.2.1, HC.out.2.2.2.2⟩⟩
              case round =>
                obtain ⟨p, A5, rfl, hp, HR⟩ := hrel
                obtain ⟨f, cl, hf, hg, hrd, hqb, htb⟩ := HR.out
                have HRQ := hid (And.intro hg (And.intro hrd (And.intro hqb htb)))
                have HFR := hid (show Fr No w wr from hqb.1.2.2.2)
                clear HR hg hrd hqb htb
                obtain ⟨f, rfl⟩ : ∃ f', f = f' + 1 := ⟨f - 1, by omega⟩
                obtain ⟨u0, u1, u2, u3, u4, u5, u6, uf⟩ := blk7 HRQ.out.2.2.1.2
                obtain ⟨z0, z1, z2, z3, z4, z5, z6, zf⟩ := blk7 HRQ.out.2.2.1.1.1
                obtain ⟨y0, y1, y2, y3, y4, y5, y6, yf⟩ := blk7 HRQ.out.2.2.1.1.2.1
                by_cases hpn : p = n
                · have HS := hid (show rScr o = no3 2 from by rw [HRQ.out.1, rGo_end (by rw [HN.out.1]; omega)]; unfold rTail; rw [if_pos (by rw [HN.out.1]; omega)])
                  have hz0 : n - p = 0 := by omega
                  rw [hz0]
                  clear hf hp hpn
                  go_wp2_with fail
                  refine ret_cell3 rfl (g := h) rfl rfl rfl (load_scr (set7 HRQ.out.2.2.1.1.1 _ _ _ _ _ _ _)) rfl ?_
                  rw [HS.out]
                  exact (HRQ.out.2.2.1.1).out _ HH.out.1
                · have hp1 : p < n := by omega
                  obtain ⟨ad, rfl, hcb⟩ := (HRQ.out.2.1.fr0 HFR.out).atN 0 (by rw [List.length_drop, HN.out.1]; omega)
                  obtain ⟨x, hx⟩ : ∃ x, x = (rdB o p).toNat := ⟨_, rfl⟩
                  have hxb : x < 256 := by rw [hx]; exact (rdB o p).toNat_lt
                  rw [rdB_drop, Nat.add_zero, ← hx] at hcb
                  have hcb0 : wr.cell? ad = some (.int .u8 (x : Int)) := hcb
                  have HX := hid hx
                  have hpos : (0 : Int) < ((n - p : Nat) : Int) := by omega
                  clear hcb hx hpn
                  by_cases h33 : x = 33
                  · subst h33
                    have HP33 := hid (show p < o.length ∧ (rdB o p).toNat = 33 from ⟨by rw [HN.out.1]; exact hp1, HX.out.symm⟩)
                    by_cases h2 : n - p < 2
                    · have HS := hid (show rScr o = no3 2 from by rw [HRQ.out.1, rGo_short HP33.out (by rw [HN.out.1]; exact h2)])
                      have h2' : ((n - p : Nat) : Int) < 2 := by omega
                      go_wp2_with fail
                      refine ret_cell3 rfl (g := h) rfl rfl rfl (load_scr (set7 HRQ.out.2.2.1.1.1 _ _ _ _ _ _ _)) rfl ?_
                      rw [HS.out]
                      exact (HRQ.out.2.2.1.1).out _ HH.out.1
                    · have h2' : ¬ ((n - p : Nat) : Int) < 2 := by omega
                      have HL2 := hid (show ¬ o.length - p < 2 from by rw [HN.out.1]; exact h2)
                      have hcut6 := cut_l slU8 (some ad) (n - p) (c - p) 2 2 rfl (by omega)
                      obtain ⟨A6, hA6⟩ : ∃ A6, A6 = cutA (some ad) (c - p) 2 1 := ⟨_, rfl⟩
                      have HRD6 := hid (show Rd B w A6 (o.drop (p + 2)) from by
                        rw [hA6, show o.drop (p + 2) = (o.drop p).drop 2 by rw [List.drop_drop]]
                        exact HRQ.out.2.1.cutA 2 (c - p) (by rw [List.length_drop, HN.out.1]; have := HN.out.2.2; omega) (by rw [List.length_drop, HN.out.1]; omega))
                      rw [← hA6, show n - p - 2 = n - (p + 2) by omega, show c - p - 2 = c - (p + 2) by omega] at hcut6
                      clear hA6
                      have HOF := hid (of10_calls A6 (o.drop (p + 2)) (n - (p + 2)) (c - (p + 2)) wr (by rw [List.length_drop, HN.out.1]) (HRD6.out.fr0 HFR.out) (by have := HN.out.2.2; omega) (by omega))
                      go_wp2_with fail
                      refine HOF.out.mono ?_
                      rintro e w6 ⟨oA, on, oc, rA, rn, rc, rfl, hO6, hR6, hf6⟩
                      have H6 := hid (And.intro hO6 hf6)
                      clear hO6 hR6 hf6
                      go_upto_region 29 with fail
                      obtain ⟨st, hst⟩ : ∃ st, st = bRun b00 (o.drop (p + 2)) := ⟨_, rfl⟩
                      have HST := hid hst
                      have hO6 := H6.out.1
                      have hsn := bRun_seen (o.drop (p + 2)) b00
                      rw [← hst] at hsn hO6
                      rw [List.length_drop, HN.out.1, show b00.seen = 0 from rfl] at hsn
                      rw [← hst]
                      obtain ⟨dn, hdn⟩ : ∃ b, b = st.done := ⟨_, rfl⟩
                      obtain ⟨sn, hsn2⟩ : ∃ b, b = st.seen := ⟨_, rfl⟩
                      obtain ⟨os, hos⟩ : ∃ b, b = st.out := ⟨_, rfl⟩
                      rw [← hdn, ← hsn2]
                      rw [← hos] at hO6
                      have hsl : sn ≤ n - (p + 2) := by rw [hsn2]; omega
                      have HDD := hid (show (bRun b00 (o.drop (p + 2))).done = dn ∧ (bRun b00 (o.drop (p + 2))).seen = sn ∧ (bRun b00 (o.drop (p + 2))).out = os from by rw [← hst]; exact ⟨hdn.symm, hsn2.symm, hos.symm⟩)
                      clear hst hsn hdn hsn2 hos HST
                      obtain ⟨k, hk⟩ : ∃ k, k = w6.heap.size := ⟨_, rfl⟩
                      obtain ⟨w7, hw7⟩ : ∃ W, W = w6.alloc (.cells #[.slice oA on oc, .slice rA rn rc, .bool dn, .int .i64 (sn : Int)] 55) := ⟨_, rfl⟩
                      rw [← hw7, ← hk]
                      have hf7 : Fr No wr w7 := by rw [hw7]; exact H6.out.2.alloc _
                      have hb7 : w7.heap[k]? = some (.cells #[.slice oA on oc, .slice rA rn rc, .bool dn, .int .i64 (sn : Int)] 55 (0, 0)) := by rw [hw7, hk]; exact heap_new _ _
                      have hkg : k ≠ g := by have := H6.out.2.size; have := (Array.getElem?_eq_some_iff.1 HRQ.out.2.2.1.2).1; omega
                      have H7 := hid (And.intro (HRQ.out.2.2.1.fr0 hf7) (And.intro (HRQ.out.2.2.2.fr hf7 (fun _ _ _ h => h)) (And.intro (show OutB wr.heap.size w7 oA on oc os by rw [hw7]; exact hO6.fr0 ((Fr.refl No w6).alloc _)) (And.intro hf7 (And.intro hb7 hkg)))))
                      clear hw7 hk hf7 hO6 hkg hcb0 u0 u1 u2 u3 u4 u5 u6 uf z0 z1 z2 z3 z4 z5 z6 zf y0 y1 y2 y3 y4 y5 y6 yf
                      obtain ⟨x0, x1, x2, x3⟩ := blk4i hb7
                      clear hb7
                      obtain ⟨u0, u1, u2, u3, u4, u5, u6, uf⟩ := blk7 H7.out.1.2
                      obtain ⟨z0, z1, z2, z3, z4, z5, z6, zf⟩ := blk7 H7.out.1.1.1
                      obtain ⟨y0, y1, y2, y3, y4, y5, y6, yf⟩ := blk7 H7.out.1.1.2.1
                      cases dn with
                      | false =>
                        have HS := hid (show rScr o = no3 2 from by rw [HRQ.out.1, rGo_open HP33.out HL2.out HDD.out.1])
                        go_wp2_with fail
                        refine ret_cell3 rfl (g := h) rfl rfl rfl (load_scr (set7 H7.out.1.1.1 _ _ _ _ _ _ _)) rfl ?_
                        rw [HS.out]
                        exact (H7.out.1.1).out _ HH.out.1
                      | true =>
                        have HDN := hid (show ¬ (bRun b00 (o.drop (p + 2))).done = false from by rw [HDD.out.1]; simp)
                        obtain ⟨ad', hadq, hcb1⟩ := (HRQ.out.2.1.fr0 (HFR.out.then H7.out.2.2.2.1)).atN 1 (by rw [List.length_drop, HN.out.1]; omega)
                        obtain rfl : ad = ad' := Option.some.inj hadq
                        clear hadq
                        obtain ⟨y, hy⟩ : ∃ y, y = (rdB o (p + 1)).toNat := ⟨_, rfl⟩
                        have hyb : y < 256 := by rw [hy]; exact (rdB o (p + 1)).toNat_lt
                        rw [rdB_drop, ← hy] at hcb1
                        have hcb1' : w7.cell? ⟨ad.block, ad.off + 1, none⟩ = some (.int .u8 (y : Int)) := by
                          have e := hcb1
                          rw [show (1 : Nat) = 0 + 1 from rfl, add_succ'] at e
                          exact e
                        have HY := hid hy
                        have h1n : (1 : Int) < ((n - p : Nat) : Int) := by omega
                        clear hcb1 hy
                        by_cases h249 : y = 249
                        · subst h249
                          have hlo := H7.out.2.2.1.len
                          by_cases h6 : sn = 6
                          · subst h6
                            by_cases h4 : on = 4
                            · subst h4
                              obtain ⟨od, rfl, hq0⟩ := H7.out.2.2.1.rd.atN 0 (by omega)
                              obtain ⟨od', hodq, hq3⟩ := H7.out.2.2.1.rd.atN 3 (by omega)
                              obtain rfl : od = od' := Option.some.inj hodq
                              clear hodq
                              obtain ⟨c0, hc0⟩ : ∃ c, c = (rdB os 0).toNat := ⟨_, rfl⟩
                              obtain ⟨c3, hc3⟩ : ∃ c, c = (rdB os 3).toNat := ⟨_, rfl⟩
                              have hc0b : c0 < 256 := by rw [hc0]; exact (rdB os 0).toNat_lt
                              have hc3b : c3 < 256 := by rw [hc3]; exact (rdB os 3).toNat_lt
                              rw [← hc0] at hq0
                              rw [← hc3] at hq3
                              have hodg : od.block ≠ g := by
                                obtain ⟨ob, hr1, hr2⟩ := H7.out.2.2.1
                                obtain ⟨A', c', e1, _, _, e2⟩ := hr1.cells
                                injection e1 with e1
                                have := hr2 od.block (e2 od e1.symm)
                                have := (Array.getElem?_eq_some_iff.1 HRQ.out.2.2.1.2).1
                                omega
                              have hfg : ∀ v, Fr (HK.One g) w7 (w7.setCell ⟨g, 4, none⟩ v) := fun v => Fr.set1 w7 g 4 v
                              have HGO := hid (show rScr o = rGo f o (p + 2 + 6) vW vH T0 (if c0 % 2 = 1 then (c3 : Int) else -1) from by
                                rw [HRQ.out.1, rGo_249 HP33.out HL2.out HDN.out HY.out.symm (by rw [HDD.out.2.1, HDD.out.2.2]; omega), HDD.out.2.1, HDD.out.2.2, ← hc0, ← hc3])
                              obtain ⟨w8, hw8⟩ : ∃ W, W = w7.setCell ⟨g, 4, none⟩ (.int .i64 (-1)) := ⟨_, rfl⟩
                              have hf8 : Fr (HK.One g) w7 w8 := by rw [hw8]; exact hfg _
                              have hq0' : w8.cell? od = some (.int .u8 (c0 : Int)) := (hf8.cell (lt_of_cell hq0) hodg).trans hq0
                              have hq3' : w8.cell? ⟨od.block, od.off + 3, none⟩ = some (.int .u8 (c3 : Int)) := by
                                have e := (hf8.cell (p := od.add 3) (lt_of_cell hq3) (by rw [add_block]; exact hodg)).trans hq3
                                rw [show (3 : Nat) = 2 + 1 from rfl, add_succ'] at e
                                exact e
                              have hb8 : w8.heap[g]? = some (.cells (scC vW vH (.slice tA tn tc) false (-1) false 0) 26 (0, 0)) := by rw [hw8]; exact zt4 H7.out.1.2 _
                              have hk8 : w8.heap[k]? = some (.cells #[.slice (some od) 4 oc, .slice rA rn rc, .bool true, .int .i64 6] 55 (0, 0)) := (hf8.block k (Array.getElem?_eq_some_iff.1 H7.out.2.2.2.2.1).1 (fun e => H7.out.2.2.2.2.2 e)).trans H7.out.2.2.2.2.1
                              have HQ8 := hid (And.intro (Qb.fr (cs' := scC vW vH (.slice tA tn tc) false (-1) false 0) H7.out.1 hf8 hb8 HH.out HG.out) (H7.out.2.1.fr hf8 (fun k h1 _ e => by have e : k = g := e; have := HG.out; omega)))
                              have HW8 := hid hw8
                              clear hq0 hq3 hfg hf8 hw8 hc0 hc3 hb8
                              have hwrap : IntKind.i64.wrap (c3 : Int) = (c3 : Int) := w64 _ (by omega) (by omega)
                              go_upto_region 35 with fail
                              try rw [← HW8.out]
                              clear x0 x1 x2 x3 u0 u1 u2 u3 u4 u5 u6 uf hcb1'
                              obtain ⟨x0, x1, x2, x3⟩ := blk4i hk8
                              obtain ⟨u0, u1, u2, u3, u4, u5, u6, uf⟩ := blk7 HQ8.out.1.2
                              clear hk8
                              have hcut7 := cut_l slU8 (some ad) (n - p) (c - p) 8 8 rfl (by omega)
                              have hrd8 : Rd B w (cutA (some ad) (c - p) 8 1) (o.drop (p + 8)) := by
                                rw [show o.drop (p + 8) = (o.drop p).drop 8 by rw [List.drop_drop]]
                                exact HRQ.out.2.1.cutA 8 (c - p) (by rw [List.length_drop, HN.out.1]; have := HN.out.2.2; omega) (by rw [List.length_drop, HN.out.1]; omega)
                              have HRD8 := hid hrd8
                              clear hrd8
                              by_cases hodd : c0 % 2 = 1
                              · have hodd' : (c0 : Int) % 2 = 1 := by omega
                                go_wp2_with fail
                                go_roundw
                                case rel =>
                                  have hf9 : Fr (HK.One g) w8 (w8.setCell ⟨g, 4, none⟩ (.int .i64 (c3 : Int))) := Fr.set1 w8 g 4 _
                                  refine ⟨p + 8, cutA (some ad) (c - p) 8 1, by rw [show n - p - 8 = n - (p + 8) by omega, show c - p - 8 = c - (p + 8) by omega], by omega, hid ⟨f, (c3 : Int), by omega, ?_, HRD8.out, HQ8.out.1.fr hf9 (zt4 HQ8.out.1.2 _) HH.out HG.out, HQ8.out.2.fr hf9 (fun k h1 _ e => by have e : k = g := e; have := HG.out; omega)⟩⟩
                                  have e := HGO.out
                                  rw [if_pos hodd] at e
                                  exact e
                                case measure => simp only [slLen]; omega
                              · have hodd' : (c0 : Int) % 2 ≠ 1 := by omega
                                have hoddb : ((c0 : Int) % 2 == 1) = false := by rw [beq_eq_false_iff_ne]; exact hodd'
                                go_wp2_with fail
                                go_roundw
                                case rel =>
                                  refine ⟨p + 8, cutA (some ad) (c - p) 8 1, by rw [show n - p - 8 = n - (p + 8) by omega, show c - p - 8 = c - (p + 8) by omega], by omega, hid ⟨f, -1, by omega, ?_, HRD8.out, HQ8.out.1, HQ8.out.2⟩⟩
                                  have e := HGO.out
                                  rw [if_neg hodd] at e
                                  exact e
                                case measure => simp only [slLen]; omega
                            · have HS := hid (show rScr o = no3 3 from by rw [HRQ.out.1, rGo_bad HP33.out HL2.out HDN.out HY.out.symm (by rw [HDD.out.2.1, HDD.out.2.2]; omega)])
                              have h4' : ((on : Int) != 4) = true := by rw [bne_iff_ne]; omega
                              go_wp2_with fail
                              refine ret_cell3 rfl (g := h) rfl rfl rfl (load_scr (set7 H7.out.1.1.1 _ _ _ _ _ _ _)) rfl ?_
                              rw [HS.out]
                              exact (H7.out.1.1).out _ HH.out.1
                          · have HS := hid (show rScr o = no3 3 from by rw [HRQ.out.1, rGo_bad HP33.out HL2.out HDN.out HY.out.symm (by rw [HDD.out.2.1, HDD.out.2.2]; omega)])
                            have h6' : ((sn : Int) != 6) = true := by rw [bne_iff_ne]; omega
                            go_wp2_with fail
                            refine ret_cell3 rfl (g := h) rfl rfl rfl (load_scr (set7 H7.out.1.1.1 _ _ _ _ _ _ _)) rfl ?_
                            rw [HS.out]
                            exact (H7.out.1.1).out _ HH.out.1
                        · have hyb' : ((y : Int) == 249) = false := by rw [beq_eq_false_iff_ne]; omega
                          have HGO := hid (show rScr o = rGo f o (p + 2 + sn) vW vH T0 cl from by rw [HRQ.out.1, rGo_other HP33.out HL2.out HDN.out (by rw [← HY.out]; exact h249), HDD.out.2.1])
                          have hw2 : IntKind.i64.wrap (2 + (sn : Int)) = 2 + (sn : Int) := w64 _ (by omega) (by omega)
                          have hcut7 := cut_l slU8 (some ad) (n - p) (c - p) (2 + (sn : Int)) (2 + sn) (by omega) (by omega)
                          have hrd8 : Rd B w (cutA (some ad) (c - p) (2 + sn) 1) (o.drop (p + 2 + sn)) := by
                            rw [show o.drop (p + 2 + sn) = (o.drop p).drop (2 + sn) by rw [List.drop_drop, Nat.add_assoc]]
                            exact HRQ.out.2.1.cutA (2 + sn) (c - p) (by rw [List.length_drop, HN.out.1]; have := HN.out.2.2; omega) (by rw [List.length_drop, HN.out.1]; omega)
                          have HRD8 := hid hrd8
                          clear hrd8
                          go_wp2_with fail
                          go_roundw
                          case rel =>
                            refine ⟨p + 2 + sn, cutA (some ad) (c - p) (2 + sn) 1, by rw [show n - p - (2 + sn) = n - (p + 2 + sn) by omega, show c - p - (2 + sn) = c - (p + 2 + sn) by omega], by omega, hid ⟨f, cl, by omega, HGO.out, HRD8.out, H7.out.1, H7.out.2.1⟩⟩
                          case measure => simp only [slLen]; omega
                  · have h33' : ((x : Int) == 33) = false := by rw [beq_eq_false_iff_ne]; omega
                    have HTL := hid (show rScr o = rTail o p vW vH T0 cl from by rw [HRQ.out.1, rGo_end (by rw [← HX.out]; exact fun h => h33 h.2)])
                    clear hf
                    have hpe : p ≤ n := by omega
                    go_upto_if 90 with fail
                    go_step
                    go_step
                    go_step
                    go_step
                    go_step
                    go_step
                    show Code.wp Tryd.prog tail17 (bodyPost Tryd.prog Tryd.f9 (RetS w (rScr o))) _ _
                    exact tail17_wp _ _ _ _ _ _ _ _ _ _ _ _ _ _ _ _ _ _ _ _ _ _ _ _ _ _ _ _ _ _ _ _ _ _ _ _ _ _ _ _ _ _ _ _ _ _ _ _ _ _ _ _ _ _ _ _ _ _ _ _ _ _ _ _ _ _ _ _ _ _ _ _ _ _ _ _ _ _ _ _ _ _ _ _ _ _ _ _ _ _ _ _ _ _ _ _ _ _ _ _ _ _ _ _ _ _ _ _ _ _ _ _ _ _ _ _ _ _ _ _ _ _ _ _ _ _ _ _ _ _ _ _ _ _ _ _ _ _ _ _ _ _ _ _ _ _ _ _ _ _ _ _ _ _ _ _ _ _ _ _ _ _ _ _ _ _ _ _ _ _ _ _ _ _ _ _ _ _ _ _ _ _ _ _ _ _ _ _ _ _ _ _ _ _ _ _ _ _ _ _ _ _ _ _ _ _ _ _ _ _ _ _ _ _ _ _ _ _ _ _ _ _ _ _ _ _ _ _ _ _ _ _ _ _ _ _ A _ o n c w wr h nb q g p cl vW vH T0 tA tn tc HN hl HH HG hpe bW bH HTL (hid ⟨trivial, HRQ.out.2.1, HRQ.out.2.2.1, HRQ.out.2.2.2⟩)
end Go.Proofs.YtamkfjbdcjkchaaDoor

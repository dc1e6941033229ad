/- A reader of blocks is pushed. -/
import Derived.Test.YtamkfjbdcjkchaaDoorBlk
namespace Go.Proofs.YtamkfjbdcjkchaaDoor
open Go.RowKit Go.Proofs.HK
set_option linter.unusedVariables false
set_option linter.unusedSimpArgs false
attribute [local go_sem] max2_int min2_int max_two min_two
theorem bRun_end (s : BSt) (bs : List UInt8) (k : Nat) (hk : k ≤ bs.length) (h : (bRun s (bs.take k)).done = true) : bRun s bs = bRun s (bs.take k) := by
  have e : bRun s bs = bRun (bRun s (bs.take k)) (bs.drop k) := by rw [← bRun_append, List.take_append_drop]
  rw [e, bRun_done _ _ h]
theorem take_B (bs : List UInt8) (k : Nat) (h : k < bs.length) : rdB bs k = bs[k] := by
  unfold rdB
  simp [List.getD, h]
set_option maxRecDepth 100000 in
set_option maxHeartbeats 3200000 in
theorem bpush_calls (A : Option Addr) (bs : List UInt8) (n c : Nat) (w : World) (g L S : Nat) (hn : bs.length = n) (hr : Rd B w A bs) (hc : n ≤ c) (hA : ∀ ad, A = some ad → ad.block ≠ g) (hl : n ≤ 140737488355328) (hS : S ≤ 1000000000000000000) (hL : L ≤ 255)
    (hb : w.heap[g]? = some (.cells (bkC L S false (.slice none 0 0)) 82 (0, 0))) :
    Calls Tryd.prog 34 #[.pointer (some ⟨g, 0, none⟩), .slice A n c] w fun e w' => ∃ (oA : Option Addr) (on oc : Nat) (rA : Option Addr) (rn rc : Nat), e = .returned (.slice oA on oc) ∧ OutB w.heap.size w' oA on oc (bRun ⟨L, S, false, []⟩ bs).out ∧
      w'.heap[g]? = some (.cells (bkC (bRun ⟨L, S, false, []⟩ bs).left (bRun ⟨L, S, false, []⟩ bs).seen (bRun ⟨L, S, false, []⟩ bs).done (.slice rA rn rc)) 82 (0, 0)) ∧ OutB w.heap.size w' rA rn rc (bRest ⟨L, S, false, []⟩ bs) ∧ Fr (HK.One g) w w' := by
  obtain ⟨s0, hs0⟩ : ∃ s : BSt, s = ⟨L, S, false, []⟩ := ⟨_, rfl⟩
  rw [← hs0]
  have h00 : s0.done = false := by rw [hs0]
  have hsS : s0.seen = S := by rw [hs0]
  have hsL : s0.left = L := by rw [hs0]
  have hso : s0.out = [] := by rw [hs0]
  have HN := hid (And.intro hn (And.intro hr (And.intro hA hc)))
  have HS0 := hid (And.intro h00 (And.intro hsS (And.intro hsL hso)))
  have hg : g < w.heap.size := (Array.getElem?_eq_some_iff.1 hb).1
  have HB := hid (show w.heap[g]? = some (.cells (bkC s0.left s0.seen s0.done (.slice none 0 0)) 82 (0, 0)) from by rw [hs0]; exact hb)
  clear hs0 hn hr hA hc h00 hsS hsL hso hb
  go_enter Tryd.func34, Tryd.ntmps34
  go_upto_block 0 with fail
  go_cut [5] (fun s5 wx => ∃ (oA : Option Addr) (on oc : Nat) (rA : Option Addr) (rn rc : Nat), s5 = .slice oA on oc ∧ OutB w.heap.size wx oA on oc (bRun s0 bs).out ∧
      wx.heap[g]? = some (.cells (bkC (bRun s0 bs).left (bRun s0 bs).seen (bRun s0 bs).done (.slice rA rn rc)) 82 (0, 0)) ∧ OutB w.heap.size wx rA rn rc (bRest s0 bs) ∧ Fr (HK.One g) w wx)
  case first =>
    go_wp2_with fail
    go_loopw [5, 12] (fun o i wr => ∃ (k on oc : Nat) (oA : Option Addr), k ≤ n ∧ i = .int .i64 k ∧ o = .slice oA on oc ∧ on ≤ k ∧ Hid (OutB w.heap.size wr oA on oc (bRun s0 (bs.take k)).out ∧ wr.heap[g]? = some (.cells (bkC (bRun s0 (bs.take k)).left (bRun s0 (bs.take k)).seen (bRun s0 (bs.take k)).done (.slice none 0 0)) 82 (0, 0)) ∧ (∀ j, j < k → (bRun s0 (bs.take j)).done = false) ∧ Fr (HK.One g) w wr)) (fun _ i _ => n - (intOf i).toNat)
    case atStart =>
      refine ⟨0, 0, 0, none, by omega, rfl, rfl, by omega, ?_⟩
      rw [List.take_zero, bRun_nil]
      exact hid ⟨by rw [HS0.out.2.2.2]; exact OutB.nil _ _, HB.out, fun j h => absurd h (by omega), Fr.refl _ _⟩
    case round =>
      obtain ⟨k, on, oc, oA, hk, rfl, rfl, hon, HR⟩ := hrel
      by_cases hlt : k < n
      · have hkl : k < bs.length := by rw [HN.out.1]; exact hlt
        obtain ⟨ad, rfl, hcb⟩ := (HN.out.2.1.fr HR.out.2.2.2 (fun ad e h => HN.out.2.2.1 ad e h)).atN k hkl
        rw [take_B bs k hkl] at hcb
        have hst := bRun_take s0 bs k hkl
        have hsn := (bRun_seen (bs.take k) s0)
        rw [HS0.out.2.1, List.length_take] at hsn
        have hlf := bRun_left (bs.take k) s0 (by rw [HS0.out.2.2.1]; exact hL)
        have hHR := HR.out
        obtain ⟨st, hse⟩ : ∃ st, st = bRun s0 (bs.take k) := ⟨_, rfl⟩
        rw [← hse] at hst hsn hlf hHR
        have HSE := hid hse
        clear hse
        obtain ⟨L1, S1, d1, o1⟩ := st
        simp only at hsn hlf hHR
        obtain ⟨ho1, hb1, hnd, hf1⟩ := hHR
        have hS1 : S1 ≤ 1000140737488355328 := by omega
        have hcx := bs[k].toNat_lt
        obtain ⟨cx, hcx2⟩ : ∃ x, x = bs[k].toNat := ⟨_, rfl⟩
        have hbk : bs[k] = UInt8.ofNat cx := by rw [hcx2]; simp
        rw [← hcx2] at hcb hcx
        have hgr : g < wr.heap.size := (Array.getElem?_eq_some_iff.1 hb1).1
        cases d1 with
        | true =>
          have HQ := hid (show bRun s0 bs = ⟨L1, S1, true, o1⟩ from by rw [bRun_end s0 bs k (by omega) (by rw [← HSE.out])]; exact HSE.out.symm)
          have HRE := hid (show bRest s0 bs = bs.drop k from by
            unfold bRest
            rw [HQ.out]
            have h := bRun_seenT s0 bs k (by omega) HS0.out.1 (by rw [← HSE.out]) hnd
            rw [← HSE.out] at h
            simp only at h
            rw [if_pos rfl]
            simp only
            rw [h]
            congr 1
            omega)
          have HX := hid (And.intro ho1 (And.intro hb1 hf1))
          obtain ⟨c0, c1, c2, c3, cf⟩ := blk4 (show wr.heap[g]? = some (.cells #[.int .i64 (L1 : Int), .int .i64 (S1 : Int), .bool true, .slice none 0 0] 82 (0, 0)) from hb1)
          have hcut := cut_l slU8 (some ad) n c (k : Int) k rfl (by omega)
          clear ho1 hb1 hnd hf1 hst hbk hcx2
          go_upto_region 8 with fail
          refine wp_region_held_drew (S := (fun _ => True)) (by kernel_rfl) trivial (fun hHeld => ?_)
          refine takeD (i := 0) (d := some 21) (v := (.pointer (some ⟨g, 0, none⟩))) rfl rfl (by kernel_rfl) (by kernel_rfl) (by kernel_rfl) (fun _ _ _ h => h) (by rfl) ?_ trivial ?_
          · intro w' hSw
            go_simp
            first | done | rfl
          (try simp only [Act.put, List.setIfInBounds_toArray, List.set_cons_zero, List.set_cons_succ])
          refine takeD (i := 1) (d := some 22) (v := (.pointer (some ⟨g, 0, none⟩))) rfl rfl (by kernel_rfl) (by kernel_rfl) (by kernel_rfl) (fun _ _ _ h => h) (by rfl) ?_ trivial ?_
          · intro w' hSw
            go_simp
            first | done | rfl
          (try simp only [Act.put, List.setIfInBounds_toArray, List.set_cons_zero, List.set_cons_succ])
          refine takeD (i := 2) (d := some 23) (v := (.pointer (some ⟨g, 0, none⟩))) rfl rfl (by kernel_rfl) (by kernel_rfl) (by kernel_rfl) (fun _ _ _ h => h) (by rfl) ?_ trivial ?_
          · intro w' hSw
            go_simp
            first | done | rfl
          (try simp only [Act.put, List.setIfInBounds_toArray, List.set_cons_zero, List.set_cons_succ])
          refine takeD (i := 3) (d := some 24) (v := (.pointer (some ⟨g, 3, none⟩))) rfl rfl (by kernel_rfl) (by kernel_rfl) (by kernel_rfl) (fun _ _ _ h => h) (by rfl) ?_ trivial ?_
          · intro w' hSw
            go_simp
            first | done | rfl
          (try simp only [Act.put, List.setIfInBounds_toArray, List.set_cons_zero, List.set_cons_succ])
          refine takeD (i := 5) (d := some 26) (v := (.slice (some ad) n c)) rfl rfl (by kernel_rfl) (by kernel_rfl) (by kernel_rfl) (fun _ _ _ h => h) (by rfl) ?_ trivial ?_
          · intro w' hSw
            go_simp
            first | done | rfl
          (try simp only [Act.put, List.setIfInBounds_toArray, List.set_cons_zero, List.set_cons_succ])
          refine takeD (i := 6) (d := some 27) (v := (.int .i64 (k : Int))) rfl rfl (by kernel_rfl) (by kernel_rfl) (by kernel_rfl) (fun _ _ _ h => h) (by rfl) ?_ trivial ?_
          · intro w' hSw
            go_simp
            first | done | rfl
          (try simp only [Act.put, List.setIfInBounds_toArray, List.set_cons_zero, List.set_cons_succ])
          refine takeD (i := 7) (d := some 28) (v := (.slice (cutA (some ad) c k 1) (n - k) (c - k))) rfl rfl (by kernel_rfl) (by kernel_rfl) (by kernel_rfl) (fun _ _ _ h => h) (by rfl) ?_ trivial ?_
          · intro w' hSw
            go_simp
            first | done | rfl
          (try simp only [Act.put, List.setIfInBounds_toArray, List.set_cons_zero, List.set_cons_succ])


          refine oneD (i := 4) (by kernel_rfl) rfl (fun KK hK => ?_)
          go_simp
          refine hK.out _ _ trivial (fun hHeld => ?_)
          clear hK KK
          (try simp only [Act.put, List.setIfInBounds_toArray, List.set_cons_zero, List.set_cons_succ])
          refine oneD (i := 8) (by kernel_rfl) rfl (fun KK hK => ?_)
          refine step_app slU8 rfl (.tmp 25) (.tmp 28) rfl rfl (Row.nil _ _) rfl (by rw [List.length_map, List.length_drop, HN.out.1]; omega) (Rd.cells.1 (((HN.out.2.1.fr HX.out.2.2 (fun ad e h => HN.out.2.2.1 ad e h)).cutA k c (by rw [HN.out.1]; exact HN.out.2.2.2) (by rw [HN.out.1]; omega)).drew)) (oneB _) (by omega) (by omega) ?_
          intro A4 c4 w4 ob4 hv4 hf4 hob4
          simp only [Nat.zero_add, List.nil_append] at hv4 ⊢
          have hk4 : ∀ q, ob4 = some q → wr.heap.size ≤ q := fun q hq => by
            rcases hob4 with e | ⟨j, e, hj⟩
            · rw [e] at hq; cases hq
            · rw [e] at hq; injection hq with hq; simp only [World.size_drew] at hj; omega
          have hf4' : Fr No wr w4 := ((Fr.refl No wr).drew).trans hf4 (fun q _ e => by cases e)
          have hb4 := (hf4'.block g hgr (fun h => h)).trans HX.out.2.1
          have H4 := hid (And.intro hv4 (And.intro hk4 (And.intro hf4' hb4)))
          obtain ⟨e0, e1, e2, e3, ef⟩ := blk4 (show w4.heap[g]? = some (.cells #[.int .i64 (L1 : Int), .int .i64 (S1 : Int), .bool true, .slice none 0 0] 82 (0, 0)) from hb4)
          clear hv4 hf4 hob4 hk4 hf4' hb4
          refine hK.out _ _ trivial (fun hHeld => ?_)
          clear hK KK
          (try simp only [Act.put, List.setIfInBounds_toArray, List.set_cons_zero, List.set_cons_succ])
          refine takeD (i := 9) (d := some 30) (v := (.pointer (some ⟨g, 0, none⟩))) rfl rfl (by kernel_rfl) (by kernel_rfl) (by kernel_rfl) (fun _ _ _ h => h) (by rfl) ?_ trivial ?_
          · intro w' hSw
            go_simp
            first | done | rfl
          (try simp only [Act.put, List.setIfInBounds_toArray, List.set_cons_zero, List.set_cons_succ])
          refine takeD (i := 10) (d := some 31) (v := (.pointer (some ⟨g, 3, none⟩))) rfl rfl (by kernel_rfl) (by kernel_rfl) (by kernel_rfl) (fun _ _ _ h => h) (by rfl) ?_ trivial ?_
          · intro w' hSw
            go_simp
            first | done | rfl
          (try simp only [Act.put, List.setIfInBounds_toArray, List.set_cons_zero, List.set_cons_succ])
          refine oneD (i := 11) (by kernel_rfl) rfl (fun KK hK => ?_)
          go_simp
          refine hK.out _ _ trivial (fun hHeld => ?_)
          clear hK KK
          (try simp only [Act.put, List.setIfInBounds_toArray, List.set_cons_zero, List.set_cons_succ])
          refine wpAnyH_done (by kernel_rfl) ?_ _
          clear hHeld
          go_wp2_with fail
          go_meet
          rw [HQ.out, HRE.out]
          have hfs : Fr (HK.One g) w4 (w4.setCell ⟨g, 3, none⟩ (.slice A4 (n - k) c4)) := Fr.set1 w4 g 3 _
          have hws := HX.out.2.2.size
          refine ⟨oA, on, oc, A4, n - k, c4, rfl, (HX.out.1.fr0 H4.out.2.2.1).fr hfs (fun q h1 _ e => by have e : q = g := e; omega), heap_set w4 g 3 _ _ _ H4.out.2.2.2, ⟨ob4, H4.out.1.fr hfs (fun q hq e => by have e : q = g := e; have := H4.out.2.1 q hq; omega), fun q hq => by have := H4.out.2.1 q hq; omega⟩, (HX.out.2.2.then H4.out.2.2.1.any).then hfs⟩
        | false =>
          have HND := hid (show ∀ j, j < k + 1 → (bRun s0 (bs.take j)).done = false from fun j hj => by
            by_cases h : j < k
            · exact hnd j h
            · obtain rfl : j = k := by omega
              rw [← HSE.out])
          obtain ⟨c0, c1, c2, c3, cf⟩ := blk4 (show wr.heap[g]? = some (.cells #[.int .i64 (L1 : Int), .int .i64 (S1 : Int), .bool false, .slice none 0 0] 82 (0, 0)) from hb1)
          by_cases hL0 : 0 < L1
          · have HQ := hid (show bRun s0 (bs.take (k + 1)) = ⟨L1 - 1, S1 + 1, false, o1 ++ [bs[k]]⟩ from by rw [hst]; unfold bStep; simp only; rw [if_neg (by simp), if_pos hL0])
            have HX := hid (And.intro ho1 (And.intro hb1 hf1))
            obtain ⟨ob1, hrow1, hob1⟩ := ho1
            have HBK := hid hbk
            have hob1g : ∀ q, ob1 = some q → w.heap.size ≤ q := hob1
            have HO1 := hid (And.intro hrow1 hob1)
            clear hb1 hnd hf1 hst hbk hcx2 hrow1 hob1 hob1g
            have hL0' : (0 : Int) < (L1 : Int) := by omega
            go_upto_region 10 with fail
            obtain ⟨w2, hw2⟩ : ∃ W, W = wr.setCell ⟨g, 1, none⟩ (.int .i64 ((S1 : Int) + 1)) := ⟨_, rfl⟩
            rw [← hw2]
            have hf2 : Fr (HK.One g) wr w2 := by rw [hw2]; exact Fr.set1 wr g 1 _
            have hb2 : w2.heap[g]? = some (.cells #[.int .i64 (L1 : Int), .int .i64 ((S1 : Int) + 1), .bool false, .slice none 0 0] 82 (0, 0)) := by
              rw [hw2, heap_set wr g 1 _ _ _ HX.out.2.1]; rfl
            have hrow2 : Row w2 1 (.slice oA on oc) ob1 on (o1.map B) := HO1.out.1.fr hf2 (fun q hq e => by have e : q = g := e; have := HO1.out.2 q hq; omega)
            have hg2 : g < w2.heap.size := (Array.getElem?_eq_some_iff.1 hb2).1
            have H2 := hid (And.intro hrow2 (And.intro hb2 hf2))
            clear c0 c1 c2 c3 cf hw2 hrow2 hf2
            obtain ⟨c0, c1, c2, c3, cf⟩ := blk4 hb2
            clear hb2
            go_wp2_with (at_builtin; refine wpList_app1 slU8 rfl (.tmp 44) (.tmp 46) rfl rfl H2.out.1 rfl (m := 1) (c := 1) (ys := [.int .u8 (cx : Int)]) rfl (by simp [Value.oneCell']) (by omega) (by omega) ?_; intro A4 c4 w4 ob4 hv4 hf4 hob4; have hb4 := (hf4.block g hg2 (fun e => by have e : some g = ob1 := e; have := HO1.out.2 g e.symm; omega)).trans H2.out.2.1; have HB4 := hid hb4; obtain ⟨d0, d1, d2, d3, df⟩ := blk4 hb4; clear hb4)
            go_roundw
            case rel =>
              have hf42 : Fr (HK.One g) w w4 := (HX.out.2.2.then H2.out.2.2).trans hf4 (fun q hq e => by have e : some q = ob1 := e; have := HO1.out.2 q e.symm; omega)
              have hs2 := (HX.out.2.2.then H2.out.2.2).size
              have hob : ∀ q, ob4 = some q → w.heap.size ≤ q := fun q hq => by
                rcases hob4 with e | ⟨j, e, hj⟩
                · exact HO1.out.2 q (by rw [← e]; exact hq)
                · rw [e] at hq; injection hq with hq; omega
              have hfs : Fr (HK.One g) w4 (w4.setCell ⟨g, 0, none⟩ (.int .i64 ((L1 : Int) - 1))) := Fr.set1 w4 g 0 _
              refine ⟨k + 1, on + 1, c4, A4, by omega, by go_num, rfl, by omega, ?_⟩
              rw [HQ.out]
              refine hid ⟨⟨ob4, ?_, hob⟩, ?_, HND.out, hf42.then hfs⟩
              · simp only [List.map_append]
                rw [show ([bs[k]] : List UInt8).map B = [.int .u8 (cx : Int)] from by rw [HBK.out]; simp [B]; omega]
                exact hv4.fr hfs (fun q hq e => by have e : q = g := e; have := hob q hq; omega)
              · unfold bkC
                simp only
                rw [show (((L1 - 1 : Nat) : Nat) : Int) = (L1 : Int) - 1 by omega, show (((S1 + 1 : Nat) : Nat) : Int) = (S1 : Int) + 1 by omega, heap_set w4 g 0 _ _ _ HB4.out]
                rfl
            case measure => simp [intOf] <;> omega
          · have HQ := hid (show bRun s0 (bs.take (k + 1)) = ⟨cx, S1 + 1, cx == 0, o1⟩ from by
              have hz : (bs[k] == 0) = (cx == 0) := by
                rw [hcx2]
                by_cases h : bs[k] = 0
                · rw [h]; rfl
                · have h' : bs[k].toNat ≠ 0 := fun e => h (UInt8.toNat_inj.1 (by simpa using e))
                  rw [beq_eq_false_iff_ne.2 h, beq_eq_false_iff_ne.2 h']
              rw [hst]; unfold bStep; simp only; rw [if_neg (by simp), if_neg hL0, ← hcx2, hz])
            have HX := hid (And.intro ho1 (And.intro hb1 hf1))
            clear ho1 hb1 hnd hf1 hst hbk hcx2
            have hL0' : ¬ ((0 : Int) < (L1 : Int)) := by omega
            have hwc : IntKind.i64.wrap (cx : Int) = (cx : Int) := w64 _ (by omega) (by omega)
            have hb0 : ((cx : Int) == 0) = (cx == 0) := by
              rw [Bool.eq_iff_iff]; simp only [beq_iff_eq]; omega
            go_upto_region 10 with fail
            obtain ⟨w2, hw2⟩ : ∃ W, W = wr.setCell ⟨g, 1, none⟩ (.int .i64 ((S1 : Int) + 1)) := ⟨_, rfl⟩
            rw [← hw2]
            have hf2 : Fr (HK.One g) wr w2 := by rw [hw2]; exact Fr.set1 wr g 1 _
            have hb2 : w2.heap[g]? = some (.cells #[.int .i64 (L1 : Int), .int .i64 ((S1 : Int) + 1), .bool false, .slice none 0 0] 82 (0, 0)) := by
              rw [hw2, heap_set wr g 1 _ _ _ HX.out.2.1]; rfl
            have hg2 : g < w2.heap.size := (Array.getElem?_eq_some_iff.1 hb2).1
            have H2 := hid (And.intro hb2 hf2)
            clear c0 c1 c2 c3 cf hw2 hf2
            obtain ⟨c0, c1, c2, c3, cf⟩ := blk4 hb2
            clear hb2
            go_wp2_with fail
            go_roundw
            case rel =>
              have hfs : Fr (HK.One g) w2 ((w2.setCell ⟨g, 0, none⟩ (.int .i64 (cx : Int))).setCell ⟨g, 2, none⟩ (.bool (cx == 0))) := (Fr.set1 w2 g 0 _).then (Fr.set1 _ g 2 _)
              have hfa := H2.out.2.then hfs
              refine ⟨k + 1, on, oc, oA, by omega, by go_num, rfl, by omega, ?_⟩
              rw [HQ.out]
              refine hid ⟨HX.out.1.fr hfa (fun q hq _ e => by have e : q = g := e; omega), ?_, HND.out, HX.out.2.2.then hfa⟩
              unfold bkC
              simp only
              rw [show (((S1 + 1 : Nat) : Nat) : Int) = (S1 : Int) + 1 by omega, heap_set _ g 2 _ _ _ (heap_set w2 g 0 _ _ _ H2.out.1)]
              rfl
            case measure => simp [intOf] <;> omega
      · obtain rfl : k = n := by omega
        have hT : bs.take k = bs := List.take_of_length_le (by rw [HN.out.1]; exact Nat.le_refl _)
        have HT := hid hT
        clear hT hlt
        go_wp2_with fail
        go_meet
        have h := HR.out
        rw [HT.out] at h
        refine ⟨oA, on, oc, none, 0, 0, rfl, h.1, h.2.1, ?_, h.2.2.2⟩
        have he : bRest s0 bs = [] := by
          unfold bRest
          by_cases hd : (bRun s0 bs).done = true
          · rw [if_pos hd]
            have hq := bRun_seenT s0 bs k (by rw [HN.out.1]; exact Nat.le_refl _) HS0.out.1 (by rw [HT.out]; exact hd) h.2.2.1
            rw [HT.out] at hq
            exact List.drop_eq_nil_of_le (by rw [hq, HN.out.1]; omega)
          · rw [if_neg hd]
        rw [he]
        exact OutB.nil _ _
  case rest =>
    obtain ⟨oA, on, oc, rA, rn, rc, rfl, h1, h2, h3, h4⟩ := hcut
    have H := hid (And.intro h1 (And.intro h2 (And.intro h3 h4)))
    clear h1 h2 h3 h4
    go_wp2_with fail
    go_ret
    exact ⟨oA, on, oc, rA, rn, rc, rfl, H.out⟩
end Go.Proofs.YtamkfjbdcjkchaaDoor

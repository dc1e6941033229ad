/- SegmentBack's walk. -/
import Derived.Test.YtamkfjbdcjkchaaSegL
import Derived.Test.YtamkfjbdcjkchaaDecM
namespace Go.Proofs.Ytamkfjbdcjkchaa
open Go.RowKit Go.Proofs.HK
set_option linter.unusedVariables false
set_option linter.unusedSimpArgs false
attribute [local go_sem] max2_int min2_int max_two min_two

/-- What is written is read as it was. -/
theorem back_facts (M : MsgS) (hU : M.U < 4294967296) (hS : M.S < 4294967296) (h : mayB M = true) : swrE M = 0 ∧ swrB M = sealB (segO M) ∧ srdE (sealB (segO M)) = 0 ∧ srdM (sealB (segO M)) = M ∧ (segO M).length ≤ 1100 := by
  have h1 : swrE M = 0 := by rw [swrE_eq M hU hS, if_pos h]
  obtain ⟨h2, h3⟩ := may_back M hU hS h
  obtain ⟨h4, h5⟩ := srd_seal (o := segO M) (segO_len _)
  rw [h2] at h4 h5
  rw [h3] at h5
  have hr : rangedB M = true := by unfold mayB at h; simp only [Bool.and_eq_true] at h; exact h.2
  refine ⟨h1, ?_, h4, h5, segO_lt M hr⟩
  unfold swrB; rw [h1, if_pos rfl]
theorem no_facts (M : MsgS) (hU : M.U < 4294967296) (hS : M.S < 4294967296) (h : mayB M = false) : swrE M = 1 ∧ swrB M = [] := by
  have h1 : swrE M = 1 := by rw [swrE_eq M hU hS, if_neg (by rw [h]; simp)]
  exact ⟨h1, by unfold swrB; rw [h1]; rfl⟩
set_option maxRecDepth 100000 in
set_option maxHeartbeats 3200000 in
theorem segmentBack_walk (v : Value) (x : MsgT) (w : World) {base : Nat} (hok : Value.okWide Try.prog w .any base 26 v) (hx : msgD.K w x v.cells.toList) : Calls Try.prog 6 #[v] w fun e w' => e = .returned (.bool true) ∧ Fr No w w' := by
  obtain ⟨K, U, F, S, Z, P, Y, X, Q, C, R, D, rA, dA, rc, dc, rfl, hU, hS, r1, r2, r3, d1, d2, d3⟩ := msgD_val hok hx
  clear hok hx
  obtain ⟨rn, hrn⟩ : ∃ n, n = R.length := ⟨_, rfl⟩
  obtain ⟨dn, hdn⟩ : ∃ n, n = D.length := ⟨_, rfl⟩
  rw [← hrn] at r2 r3
  rw [← hdn] at d2 d3
  rw [← hrn, ← hdn]
  obtain ⟨M, hM⟩ : ∃ m, m = (⟨K, U, F, S, Z, P, Y, X, Q, C, R, D⟩ : MsgS) := ⟨_, rfl⟩
  have wcl : ∀ W, Fr No w W → Calls Try.prog 9 #[.agg #[.int .i64 K, .int .u32 (U : Int), .int .i64 F, .int .u32 (S : Int), .int .i64 Z, .int .i64 P, .int .i64 Y, .int .i64 X, .int .i64 Q, .int .i64 C, .slice rA rn rc, .slice dA dn dc]] W fun e w' => ∃ v, e = .returned (.tuple #[v, .int .i64 (swrE M)]) ∧ New B W w' v (swrB M) := fun W h => by
    rw [hM]; exact swrite_calls K U F S Z P Y X Q C R D rA dA rn rc dn dc W hU hS hrn.symm hdn.symm (r1.fr h (fun _ _ h => h)) (d1.fr0 h) (by omega) (by omega)
  have hMU : M.U < 4294967296 := by rw [hM]; exact hU
  have hMS : M.S < 4294967296 := by rw [hM]; exact hS
  have HW := hid wcl
  have HM := hid (And.intro hrn (And.intro hdn (And.intro r1 (And.intro d1 hM))))
  obtain ⟨g, hgg⟩ : ∃ g, g = w.heap.size := ⟨_, rfl⟩
  obtain ⟨w1, hw1⟩ : ∃ W, W = w.alloc (.cells #[.int .i64 K, .int .u32 (U : Int), .int .i64 F, .int .u32 (S : Int), .int .i64 Z, .int .i64 P, .int .i64 Y, .int .i64 X, .int .i64 Q, .int .i64 C, .slice rA rn rc, .slice dA dn dc] 26) := ⟨_, rfl⟩
  have hb1 : w1.heap[g]? = some (.cells #[.int .i64 K, .int .u32 (U : Int), .int .i64 F, .int .u32 (S : Int), .int .i64 Z, .int .i64 P, .int .i64 Y, .int .i64 X, .int .i64 Q, .int .i64 C, .slice rA rn rc, .slice dA dn dc] 26 (0, 0)) := by rw [hw1, hgg]; exact heap_new _ _
  have hf1 : Fr No w w1 := by rw [hw1]; exact (Fr.refl No w).alloc _
  have HB := hid (And.intro hb1 (And.intro hf1 (And.intro hgg hw1)))
  have hX : ∀ W, Fr No w1 W → W.heap[g]? = some (.cells #[.int .i64 K, .int .u32 (U : Int), .int .i64 F, .int .u32 (S : Int), .int .i64 Z, .int .i64 P, .int .i64 Y, .int .i64 X, .int .i64 Q, .int .i64 C, .slice rA rn rc, .slice dA dn dc] 26 (0, 0)) := fun W h => (h.block g (Array.getElem?_eq_some_iff.1 hb1).1 (fun h => h)).trans hb1
  have HX := hid hX
  clear wcl hrn hdn r1 d1 hgg hw1 hb1 hf1 hX
  cases hm : mayB M with
  | false =>
    have HE := hid (no_facts M hMU hMS hm)
    clear hm hM
    go_enter Try.func6, Try.ntmps6
    go_wp2_with fail
    rw [← HB.out.2.2.2, ← HB.out.2.2.1]
    refine (fixed22_calls _).mono ?_
    rintro e w2 ⟨rfl, hf2⟩
    have H2 := hid hf2
    obtain ⟨m0, m1, m2, m3, m4, m5, m6, m7, m8, m9, m10, m11⟩ := blk12 (HX.out w2 hf2)
    clear hf2
    go_wp2_with fail
    refine (HW.out w2 (HB.out.2.1.then H2.out)).mono ?_
    rw [HE.out.1, HE.out.2]
    rintro e w3 ⟨v3, rfl, hn3⟩
    obtain ⟨A3, n3, c3, rfl, N3⟩ := hn3.use
    obtain rfl : n3 = 0 := N3.out.1.symm
    clear hn3 m0 m1 m2 m3 m4 m5 m6 m7 m8 m9 m10 m11
    go_wp2_with fail
    go_ret
    exact ⟨rfl, (HB.out.2.1.then H2.out).then N3.out.2.2.2.1⟩
  | true =>
    have HE := hid (back_facts M hMU hMS hm)
    obtain ⟨o, ho⟩ : ∃ o, o = sealB (segO M) := ⟨_, rfl⟩
    have hol : o.length ≤ 1104 := by rw [ho, sealB_length]; have := HE.out.2.2.2.2; omega
    have HO := hid (show swrB M = o ∧ srdE o = 0 ∧ srdM o = M by rw [ho]; exact ⟨HE.out.2.1, HE.out.2.2.1, HE.out.2.2.2.1⟩)
    have rcl : ∀ W A n c, o.length = n → Rd B W A o → n ≤ c → Calls Try.prog 13 #[.slice A n c] W fun e w' => ∃ rA' rc' dA' dc', e = .returned (.tuple #[.agg #[.int .i64 K, .int .u32 (U : Int), .int .i64 F, .int .u32 (S : Int), .int .i64 Z, .int .i64 P, .int .i64 Y, .int .i64 X, .int .i64 Q, .int .i64 C, .slice rA' rn rc', .slice dA' dn dc'], .int .i64 0]) ∧ Cells w' rA' (rngC R) ∧ Rd B w' dA' D ∧ Fr No W w' := fun W A n c h1 h2 h3 => by
      refine (sread_calls A o n c W h1 h2 h3 (by omega)).mono ?_
      rw [HO.out.2.1, HO.out.2.2, hM]
      rintro e w' ⟨rA', rn', rc', dA', dn', dc', e1, hrm, e2⟩
      obtain rfl : rn' = rn := by rw [← hrm.rl, HM.out.1]
      obtain rfl : dn' = dn := by rw [← hrm.dl, HM.out.2.1]
      exact ⟨rA', rc', dA', dc', e1, hrm.rd, hrm.dd, e2⟩
    have HRC := hid rcl
    clear hm hM ho rcl
    go_enter Try.func6, Try.ntmps6
    go_wp2_with fail
    rw [← HB.out.2.2.2, ← HB.out.2.2.1]
    refine (fixed22_calls _).mono ?_
    rintro e w2 ⟨rfl, hf2⟩
    have H2 := hid hf2
    obtain ⟨m0, m1, m2, m3, m4, m5, m6, m7, m8, m9, m10, m11⟩ := blk12 (HX.out w2 hf2)
    clear hf2
    go_wp2_with fail
    refine (HW.out w2 (HB.out.2.1.then H2.out)).mono ?_
    rw [HE.out.1, HO.out.1]
    rintro e w3 ⟨v3, rfl, hn3⟩
    obtain ⟨A3, n3, c3, rfl, N3⟩ := hn3.use
    clear hn3 m0 m1 m2 m3 m4 m5 m6 m7 m8 m9 m10 m11
    go_wp2_with fail
    refine (HRC.out w3 A3 n3 c3 N3.out.1 N3.out.2.1 N3.out.2.2.1).mono ?_
    rintro e w4 ⟨rA', rc', dA', dc', rfl, hr4, hd4, hf4⟩
    have H4 := hid (And.intro hr4 (And.intro hd4 hf4))
    have hfa : ∀ ob, Fr No w1 (w4.alloc ob) := fun ob => (((H2.out.then N3.out.2.2.2.1).then hf4).alloc ob)
    have hX2 : ∀ ob, (w4.alloc ob).heap[g]? = some (.cells #[.int .i64 K, .int .u32 (U : Int), .int .i64 F, .int .u32 (S : Int), .int .i64 Z, .int .i64 P, .int .i64 Y, .int .i64 X, .int .i64 Q, .int .i64 C, .slice rA rn rc, .slice dA dn dc] 26 (0, 0)) := fun ob => HX.out _ (hfa ob)
    have m0 := fun ob => (blk12 (hX2 ob)).1
    have m1 := fun ob => (blk12 (hX2 ob)).2.1
    have m2 := fun ob => (blk12 (hX2 ob)).2.2.1
    have m3 := fun ob => (blk12 (hX2 ob)).2.2.2.1
    have m4 := fun ob => (blk12 (hX2 ob)).2.2.2.2.1
    have m5 := fun ob => (blk12 (hX2 ob)).2.2.2.2.2.1
    have m6 := fun ob => (blk12 (hX2 ob)).2.2.2.2.2.2.1
    have m7 := fun ob => (blk12 (hX2 ob)).2.2.2.2.2.2.2.1
    have m8 := fun ob => (blk12 (hX2 ob)).2.2.2.2.2.2.2.2.1
    have m9 := fun ob => (blk12 (hX2 ob)).2.2.2.2.2.2.2.2.2.1
    have m10 := fun ob => (blk12 (hX2 ob)).2.2.2.2.2.2.2.2.2.2.1
    have m11 := fun ob => (blk12 (hX2 ob)).2.2.2.2.2.2.2.2.2.2.2
    have HFA := hid hfa
    clear hr4 hd4 hf4 hfa hX2
    go_wp2_with fail
    have hF4 : ∀ ob, Fr No w (w4.alloc ob) := fun ob => HB.out.2.1.then (HFA.out ob)
    refine (refSameEq_calls K U F S Z P Y X Q C R D rA' dA' rA dA rn rc' dn dc' rc dc _ HM.out.1.symm HM.out.2.1.symm (H4.out.1.fr ((Fr.refl No w4).alloc _) (fun _ _ h => h)) (H4.out.2.1.fr0 ((Fr.refl No w4).alloc _)) (HM.out.2.2.1.fr (hF4 _) (fun _ _ h => h)) (HM.out.2.2.2.1.fr0 (hF4 _)) (by omega)).mono ?_
    rintro e w5 ⟨rfl, hf5⟩
    have H5 := hid hf5
    clear hf5 m0 m1 m2 m3 m4 m5 m6 m7 m8 m9 m10 m11 hF4
    go_wp2_with fail
    go_ret
    exact ⟨rfl, (HB.out.2.1.then (HFA.out _)).then H5.out⟩
end Go.Proofs.Ytamkfjbdcjkchaa

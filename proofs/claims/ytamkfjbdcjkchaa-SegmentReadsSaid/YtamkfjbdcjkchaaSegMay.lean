/- The document's May of messages. -/
import Derived.Test.YtamkfjbdcjkchaaSegSm
import Derived.Test.YtamkfjbdcjkchaaSegPl
namespace Go.Proofs.Ytamkfjbdcjkchaa
open Go.RowKit Go.Proofs.HK
set_option linter.unusedVariables false
set_option linter.unusedSimpArgs false
attribute [local go_sem] max2_int min2_int max_two min_two
theorem chainB_app : ∀ (l m : List (Int × Int)) (a : Int), chainB a (l ++ m) = (chainB a l && chainB (lastA a l) m)
  | [], m, a => by simp [chainB, lastA]
  | r :: l, m, a => by
    show (_ && chainB r.2 (l ++ m)) = _
    rw [chainB_app l m r.2, ← Bool.and_assoc]
    rfl
theorem chain_no (R : List (Int × Int)) (k : Nat) (X : Int) (h : chainB X (R.take k) = false) : chainB X R = false := by
  rw [← List.take_append_drop k R, chainB_app, h, Bool.false_and]
theorem plainS_R (m : MsgS) : (plainS m).R = if m.K = 4 then m.R else [] := by
  unfold plainS
  by_cases k1 : m.K = 1
  · simp [k1]
  by_cases k2 : m.K = 2
  · simp [k2]
  by_cases k3 : m.K = 3
  · simp [k3]
  by_cases k4 : m.K = 4
  · simp [k4]
  by_cases k5 : m.K = 5
  · simp [k5]
  · simp [k1, k2, k3, k4, k5]
theorem plainS_D (m : MsgS) : (plainS m).D = if m.K = 3 then m.D else [] := by
  unfold plainS
  by_cases k1 : m.K = 1
  · simp [k1]
  by_cases k2 : m.K = 2
  · simp [k2]
  by_cases k3 : m.K = 3
  · simp [k3]
  by_cases k4 : m.K = 4
  · simp [k4]
  by_cases k5 : m.K = 5
  · simp [k5]
  · simp [k1, k2, k3, k4, k5]
theorem same_plain (K : Int) (U : Nat) (F : Int) (S : Nat) (Z P Y X Q C : Int) (R : List (Int × Int)) (D : List UInt8) (rA dA : Option Addr) (rn rc dn dc : Nat) (w : World) (hR : R.length = rn) (hD : D.length = dn) (hr : Cells w rA (rngC R)) (hd : Rd B w dA D) (hl : rn ≤ 140737488355328) :
    Calls Try.prog 12 #[.agg #[.int .i64 K, .int .u32 (U : Int), .int .i64 F, .int .u32 (S : Int), .int .i64 Z, .int .i64 P, .int .i64 Y, .int .i64 X, .int .i64 Q, .int .i64 C, .slice rA rn rc, .slice dA dn dc], .agg (mC (plainS (⟨K, U, F, S, Z, P, Y, X, Q, C, R, D⟩ : MsgS)) (plR K (.slice rA rn rc)) (plD K (.slice dA dn dc)))] w fun e w' => e = .returned (.bool (decide ((⟨K, U, F, S, Z, P, Y, X, Q, C, R, D⟩ : MsgS) = plainS (⟨K, U, F, S, Z, P, Y, X, Q, C, R, D⟩ : MsgS)))) ∧ Fr No w w' := by
  have eR := plainS_R (⟨K, U, F, S, Z, P, Y, X, Q, C, R, D⟩ : MsgS)
  have eD := plainS_D (⟨K, U, F, S, Z, P, Y, X, Q, C, R, D⟩ : MsgS)
  simp only at eR eD
  obtain ⟨m, hm⟩ : ∃ m, m = plainS (⟨K, U, F, S, Z, P, Y, X, Q, C, R, D⟩ : MsgS) := ⟨_, rfl⟩
  rw [← hm] at eR eD ⊢
  clear hm
  obtain ⟨K', U', F', S', Z', P', Y', X', Q', C', R', D'⟩ := m
  simp only at eR eD
  unfold plR plD mC
  simp only
  by_cases k3 : K = 3
  · have k4 : ¬ K = 4 := by omega
    rw [if_neg k4] at eR
    rw [if_pos k3] at eD
    subst eR eD
    rw [if_neg k4, if_pos k3]
    exact refSame_calls K U F S Z P Y X Q C R D' rA dA rn rc dn dc K' U' F' S' Z' P' Y' X' Q' C' [] D' none dA 0 0 dn dc w hR hD hr hd rfl hD (fun h => by simp [rngC] at h) hd hl
  · rw [if_neg k3] at eD
    by_cases k4 : K = 4
    · rw [if_pos k4] at eR
      subst eR eD
      rw [if_pos k4, if_neg k3]
      exact refSame_calls K U F S Z P Y X Q C R' D rA dA rn rc dn dc K' U' F' S' Z' P' Y' X' Q' C' R' [] rA none rn rc 0 0 w hR hD hr hd hR rfl hr Rd.nil hl
    · rw [if_neg k4] at eR
      subst eR eD
      rw [if_neg k4, if_neg k3]
      exact refSame_calls K U F S Z P Y X Q C R D rA dA rn rc dn dc K' U' F' S' Z' P' Y' X' Q' C' [] [] none none 0 0 0 0 w hR hD hr hd rfl rfl (fun h => by simp [rngC] at h) Rd.nil hl
theorem n3_eq (F P X Q C : Int) (rn dn : Nat) : (((((((((((decide (F < 0) || decide (16 ≤ F)) || decide (P < 0)) || decide (1048576 < P)) || decide (X < 0)) || decide (2147483647 < X)) || decide (Q < 0)) || decide (8 < Q)) || decide (C < 0)) || decide (255 < C)) || decide ((4 : Int) < (rn : Int))) || decide ((1024 : Int) < (dn : Int))) = !decide (0 ≤ F ∧ F ≤ 15 ∧ 0 ≤ P ∧ P ≤ 1048576 ∧ 0 ≤ X ∧ X ≤ 2147483647 ∧ 0 ≤ Q ∧ Q ≤ 8 ∧ 0 ≤ C ∧ C ≤ 255 ∧ rn ≤ 4 ∧ dn ≤ 1024) := by
  rw [Bool.eq_iff_iff]
  simp only [Bool.or_eq_true, decide_eq_true_eq, Bool.not_eq_true', decide_eq_false_iff_not]
  omega
theorem n5_eq (Z P Y : Int) : ((((decide (Z < 1) || decide (1048576 < Z)) || decide (Z < P)) || decide (Y < 1)) || decide (1024 < Y)) = !decide (1 ≤ Z ∧ P ≤ Z ∧ Z ≤ 1048576 ∧ 1 ≤ Y ∧ Y ≤ 1024) := by
  rw [Bool.eq_iff_iff]
  simp only [Bool.or_eq_true, decide_eq_true_eq, Bool.not_eq_true', decide_eq_false_iff_not]
  omega
set_option maxRecDepth 100000 in
set_option maxHeartbeats 6400000 in
theorem refMay_calls (K : Int) (U : Nat) (F : Int) (S : Nat) (Z P Y X Q C : Int) (R : List (Int × Int)) (D : List UInt8) (rA dA : Option Addr) (rn rc dn dc : Nat) (w : World) (hR : R.length = rn) (hD : D.length = dn) (hr : Cells w rA (rngC R)) (hd : Rd B w dA D) (hl : rn ≤ 140737488355328) (hl2 : dn ≤ 140737488355328) :
    Calls Try.prog 24 #[.agg #[.int .i64 K, .int .u32 (U : Int), .int .i64 F, .int .u32 (S : Int), .int .i64 Z, .int .i64 P, .int .i64 Y, .int .i64 X, .int .i64 Q, .int .i64 C, .slice rA rn rc, .slice dA dn dc]] w fun e w' => e = .returned (.bool (mayB (⟨K, U, F, S, Z, P, Y, X, Q, C, R, D⟩ : MsgS))) ∧ Fr No w w' := by
  obtain ⟨MB, hMB⟩ : ∃ b, b = mayB (⟨K, U, F, S, Z, P, Y, X, Q, C, R, D⟩ : MsgS) := ⟨_, rfl⟩
  obtain ⟨PB, hPB⟩ : ∃ b, b = decide ((⟨K, U, F, S, Z, P, Y, X, Q, C, R, D⟩ : MsgS) = plainS (⟨K, U, F, S, Z, P, Y, X, Q, C, R, D⟩ : MsgS)) := ⟨_, rfl⟩
  obtain ⟨N1, hN1⟩ : ∃ b, b = !(kindB K && PB) := ⟨_, rfl⟩
  obtain ⟨N3, hN3⟩ : ∃ b, b = (((((((((((decide (F < 0) || decide (16 ≤ F)) || decide (P < 0)) || decide (1048576 < P)) || decide (X < 0)) || decide (2147483647 < X)) || decide (Q < 0)) || decide (8 < Q)) || decide (C < 0)) || decide (255 < C)) || decide ((4 : Int) < (rn : Int))) || decide ((1024 : Int) < (dn : Int))) := ⟨_, rfl⟩
  obtain ⟨N5, hN5⟩ : ∃ b, b = ((K == 2) && ((((decide (Z < 1) || decide (1048576 < Z)) || decide (Z < P)) || decide (Y < 1)) || decide (1024 < Y))) := ⟨_, rfl⟩
  obtain ⟨N7, hN7⟩ : ∃ b, b = ((K == 3) && ((dn : Int) == 0)) := ⟨_, rfl⟩
  have hall : MB = (!N1 && !N3 && (!N5 && !N7) && chainB X R) := by
    have e3 : base0 (⟨K, U, F, S, Z, P, Y, X, Q, C, R, D⟩ : MsgS) = !N3 := by rw [hN3, n3_eq, Bool.not_not]; unfold base0; simp only [hR, hD]
    have e5 : base1 (⟨K, U, F, S, Z, P, Y, X, Q, C, R, D⟩ : MsgS) = (!N5 && !N7) := by
      rw [hN5, hN7, n5_eq]
      unfold base1
      simp only [hD]
      by_cases k2 : K = 2
      · subst k2; simp
      · by_cases k3 : K = 3
        · subst k3
          by_cases hd0 : dn = 0
          · subst hd0; simp
          · have : ((dn : Int) == 0) = false := by simpa using hd0
            rw [this]; simp; omega
        · have h2 : (K == 2) = false := by simpa using k2
          have h3 : (K == 3) = false := by simpa using k3
          rw [if_neg k2, if_neg k3, h2, h3]; rfl
    rw [hMB, hN1]
    unfold mayB rangedB
    rw [e3, e5, ← hPB, Bool.not_not]
    simp only [Bool.and_assoc]
  have hcs : (N1 = true ∧ K < 1) ∨ (N1 = true ∧ 1 ≤ K ∧ 5 < K) ∨ (1 ≤ K ∧ K ≤ 5 ∧ N1 = !PB) := by
    unfold kindB at hN1
    by_cases h1 : 1 ≤ K
    · by_cases h5 : K ≤ 5
      · rw [decide_eq_true ⟨h1, h5⟩] at hN1; exact .inr (.inr ⟨h1, h5, hN1⟩)
      · rw [decide_eq_false (by omega)] at hN1; exact .inr (.inl ⟨hN1, h1, by omega⟩)
    · rw [decide_eq_false (by omega)] at hN1; exact .inl ⟨hN1, by omega⟩
  rw [← hMB]
  have HCS := hid hcs
  have HMB := hid hall
  have HN3 := hid hN3
  have HN5 := hid hN5
  have HN7 := hid hN7
  have hpl : ∀ W, Calls Try.prog 57 #[.agg #[.int .i64 K, .int .u32 (U : Int), .int .i64 F, .int .u32 (S : Int), .int .i64 Z, .int .i64 P, .int .i64 Y, .int .i64 X, .int .i64 Q, .int .i64 C, .slice rA rn rc, .slice dA dn dc]] W fun e w' => e = .returned (.agg (mC (plainS (⟨K, U, F, S, Z, P, Y, X, Q, C, R, D⟩ : MsgS)) (plR K (.slice rA rn rc)) (plD K (.slice dA dn dc)))) ∧ Fr No W w' := fun W => refPlain_calls K U F S Z P Y X Q C R D rA dA rn rc dn dc W
  obtain ⟨g, hgg⟩ : ∃ g, g = w.heap.size := ⟨_, rfl⟩
  have HG := hid hgg
  obtain ⟨w1, hw1⟩ : ∃ W, W = w.alloc (.cells #[.int .i64 K, .int .u32 (U : Int), .int .i64 F, .int .u32 (S : Int), .int .i64 Z, .int .i64 P, .int .i64 Y, .int .i64 X, .int .i64 Q, .int .i64 C, .slice rA rn rc, .slice dA dn dc] 26) := ⟨_, rfl⟩
  have hb1 : w1.heap[g]? = some (.cells #[.int .i64 K, .int .u32 (U : Int), .int .i64 F, .int .u32 (S : Int), .int .i64 Z, .int .i64 P, .int .i64 Y, .int .i64 X, .int .i64 Q, .int .i64 C, .slice rA rn rc, .slice dA dn dc] 26 (0, 0)) := by rw [hw1, hgg]; exact heap_new _ _
  have hf1 : Fr No w w1 := by rw [hw1]; exact (Fr.refl No w).alloc _
  have hsm : ∀ W, Fr No w1 W → Calls Try.prog 12 #[.agg #[.int .i64 K, .int .u32 (U : Int), .int .i64 F, .int .u32 (S : Int), .int .i64 Z, .int .i64 P, .int .i64 Y, .int .i64 X, .int .i64 Q, .int .i64 C, .slice rA rn rc, .slice dA dn dc], .agg (mC (plainS (⟨K, U, F, S, Z, P, Y, X, Q, C, R, D⟩ : MsgS)) (plR K (.slice rA rn rc)) (plD K (.slice dA dn dc)))] W fun e w' => e = .returned (.bool PB) ∧ Fr No W w' := fun W hf => by
    rw [hPB]
    exact same_plain K U F S Z P Y X Q C R D rA dA rn rc dn dc W hR hD (hr.fr (hf1.then hf) (fun _ _ h => h)) (hd.fr0 (hf1.then hf)) hl
  have hbk : ∀ W, Fr No w1 W → W.heap[g]? = some (.cells #[.int .i64 K, .int .u32 (U : Int), .int .i64 F, .int .u32 (S : Int), .int .i64 Z, .int .i64 P, .int .i64 Y, .int .i64 X, .int .i64 Q, .int .i64 C, .slice rA rn rc, .slice dA dn dc] 26 (0, 0)) := fun W hf => (hf.block g (Array.getElem?_eq_some_iff.1 hb1).1 (fun h => h)).trans hb1
  obtain ⟨PL, hPL⟩ : ∃ p, p = mC (plainS (⟨K, U, F, S, Z, P, Y, X, Q, C, R, D⟩ : MsgS)) (plR K (.slice rA rn rc)) (plD K (.slice dA dn dc)) := ⟨_, rfl⟩
  rw [← hPL] at hpl hsm
  clear hPL
  have HB := hid hbk
  have HPL := hid hpl
  have HSM := hid hsm
  have HR := hid (And.intro hR (And.intro hD (And.intro hr hf1)))
  have HW := hid hw1
  clear hf1 hw1 hgg hR hD hr hd hMB hPB hN1 hN3 hN5 hN7 hall hcs hpl hsm hbk hb1
  go_enter Try.func24, Try.ntmps24
  go_upto_region 1 with fail
  rw [← HW.out, ← HG.out]
  go_cut [20] (fun s20 wx => s20 = .bool N1 ∧ Fr No w1 wx)
  case first =>
    rcases HCS.out with ⟨rfl, k1⟩ | ⟨rfl, k1, k5⟩ | ⟨k1, k5, rfl⟩
    · -- below
      refine wp_region_held_drew (S := (fun W => W.heap[g]? = some (.cells #[.int .i64 K, .int .u32 (U : Int), .int .i64 F, .int .u32 (S : Int), .int .i64 Z, .int .i64 P, .int .i64 Y, .int .i64 X, .int .i64 Q, .int .i64 C, .slice rA rn rc, .slice dA dn dc] 26 (0, 0)))) (by kernel_rfl) (HB.out _ ((Fr.refl No w1).drew)) (fun hHeld => ?_)
      refine takeD (i := 0) (d := some 6) (v := ?_) rfl rfl (by kernel_rfl) (by kernel_rfl) (by kernel_rfl) (fun _ _ _ h => h) (by rfl) ?_ (by assumption) ?_
      rotate_left
      · intro w' hSw
        obtain ⟨c0, c1, c2, c3, c4, c5, c6, c7, c8, c9, c10, c11⟩ := blk12 hSw
        clear hSw
        go_simp
        try with_reducible rfl
      try simp only [Act.put, List.setIfInBounds_toArray, List.set_cons_zero, List.set_cons_succ]
      refine takeD (i := 1) (d := some 7) (v := ?_) rfl rfl (by kernel_rfl) (by kernel_rfl) (by kernel_rfl) (fun _ _ _ h => h) (by rfl) ?_ (by assumption) ?_
      rotate_left
      · intro w' hSw
        obtain ⟨c0, c1, c2, c3, c4, c5, c6, c7, c8, c9, c10, c11⟩ := blk12 hSw
        clear hSw
        go_simp
        try with_reducible rfl
      try simp only [Act.put, List.setIfInBounds_toArray, List.set_cons_zero, List.set_cons_succ]
      refine takeD (i := 2) (d := some 8) (v := .bool true) rfl rfl (by kernel_rfl) (by kernel_rfl) (by kernel_rfl) (fun _ _ _ h => h) (by rfl) ?_ (by assumption) ?_
      · intro w' hSw
        obtain ⟨c0, c1, c2, c3, c4, c5, c6, c7, c8, c9, c10, c11⟩ := blk12 hSw
        clear hSw
        go_simp
        first | done | rfl | omega
      try simp only [Act.put, List.setIfInBounds_toArray, List.set_cons_zero, List.set_cons_succ]
      refine takeD (i := 3) (d := some 9) (v := .bool true) rfl rfl (by kernel_rfl) (by kernel_rfl) (by kernel_rfl) (fun _ _ _ h => h) (by rfl) ?_ (by assumption) ?_
      · intro w' hSw
        obtain ⟨c0, c1, c2, c3, c4, c5, c6, c7, c8, c9, c10, c11⟩ := blk12 hSw
        clear hSw
        go_simp
        first | done | rfl | omega
      try simp only [Act.put, List.setIfInBounds_toArray, List.set_cons_zero, List.set_cons_succ]
      refine skipD (i := 4) (d := some 10) rfl rfl (by kernel_rfl) (by kernel_rfl) (by kernel_rfl) (fun _ _ _ h => h) (by rfl) (by assumption) ?_
      try simp only [Act.put, List.setIfInBounds_toArray, List.set_cons_zero, List.set_cons_succ]
      refine skipD (i := 5) (d := some 11) rfl rfl (by kernel_rfl) (by kernel_rfl) (by kernel_rfl) (fun _ _ _ h => h) (by rfl) (by assumption) ?_
      try simp only [Act.put, List.setIfInBounds_toArray, List.set_cons_zero, List.set_cons_succ]
      refine skipD (i := 6) (d := some 12) rfl rfl (by kernel_rfl) (by kernel_rfl) (by kernel_rfl) (fun _ _ _ h => h) (by rfl) (by assumption) ?_
      try simp only [Act.put, List.setIfInBounds_toArray, List.set_cons_zero, List.set_cons_succ]
      refine takeD (i := 7) (d := some 13) (v := ?_) rfl rfl (by kernel_rfl) (by kernel_rfl) (by kernel_rfl) (fun _ _ _ h => h) (by rfl) ?_ (by assumption) ?_
      rotate_left
      · intro w' hSw
        obtain ⟨c0, c1, c2, c3, c4, c5, c6, c7, c8, c9, c10, c11⟩ := blk12 hSw
        clear hSw
        go_simp
        try with_reducible rfl
      try simp only [Act.put, List.setIfInBounds_toArray, List.set_cons_zero, List.set_cons_succ]
      refine takeD (i := 8) (d := some 14) (v := ?_) rfl rfl (by kernel_rfl) (by kernel_rfl) (by kernel_rfl) (fun _ _ _ h => h) (by rfl) ?_ (by assumption) ?_
      rotate_left
      · intro w' hSw
        obtain ⟨c0, c1, c2, c3, c4, c5, c6, c7, c8, c9, c10, c11⟩ := blk12 hSw
        clear hSw
        go_simp
        try with_reducible rfl
      try simp only [Act.put, List.setIfInBounds_toArray, List.set_cons_zero, List.set_cons_succ]
      refine skipD (i := 9) (d := some 15) rfl rfl (by kernel_rfl) (by kernel_rfl) (by kernel_rfl) (fun _ _ _ h => h) (by rfl) (by assumption) ?_
      try simp only [Act.put, List.setIfInBounds_toArray, List.set_cons_zero, List.set_cons_succ]
      refine skipD (i := 10) (d := some 16) rfl rfl (by kernel_rfl) (by kernel_rfl) (by kernel_rfl) (fun _ _ _ h => h) (by rfl) (by assumption) ?_
      try simp only [Act.put, List.setIfInBounds_toArray, List.set_cons_zero, List.set_cons_succ]
      refine skipD (i := 11) (d := some 17) rfl rfl (by kernel_rfl) (by kernel_rfl) (by kernel_rfl) (fun _ _ _ h => h) (by rfl) (by assumption) ?_
      try simp only [Act.put, List.setIfInBounds_toArray, List.set_cons_zero, List.set_cons_succ]
      refine skipD (i := 12) (d := some 18) rfl rfl (by kernel_rfl) (by kernel_rfl) (by kernel_rfl) (fun _ _ _ h => h) (by rfl) (by assumption) ?_
      try simp only [Act.put, List.setIfInBounds_toArray, List.set_cons_zero, List.set_cons_succ]
      refine skipD (i := 13) (d := some 19) rfl rfl (by kernel_rfl) (by kernel_rfl) (by kernel_rfl) (fun _ _ _ h => h) (by rfl) (by assumption) ?_
      try simp only [Act.put, List.setIfInBounds_toArray, List.set_cons_zero, List.set_cons_succ]
      refine takeD (i := 14) (d := some 20) (v := ?_) rfl rfl (by kernel_rfl) (by kernel_rfl) (by kernel_rfl) (fun _ _ _ h => h) (by rfl) ?_ (by assumption) ?_
      rotate_left
      · intro w' hSw
        obtain ⟨c0, c1, c2, c3, c4, c5, c6, c7, c8, c9, c10, c11⟩ := blk12 hSw
        clear hSw
        go_simp
        try with_reducible rfl
      try simp only [Act.put, List.setIfInBounds_toArray, List.set_cons_zero, List.set_cons_succ]
      refine wpAnyH_done (by kernel_rfl) ?_ _
      clear hHeld
      go_wp2_with fail
      go_meet
      exact ⟨rfl, (Fr.refl No w1).drew⟩
    · -- above
      refine wp_region_held_drew (S := (fun W => W.heap[g]? = some (.cells #[.int .i64 K, .int .u32 (U : Int), .int .i64 F, .int .u32 (S : Int), .int .i64 Z, .int .i64 P, .int .i64 Y, .int .i64 X, .int .i64 Q, .int .i64 C, .slice rA rn rc, .slice dA dn dc] 26 (0, 0)))) (by kernel_rfl) (HB.out _ ((Fr.refl No w1).drew)) (fun hHeld => ?_)
      refine takeD (i := 0) (d := some 6) (v := ?_) rfl rfl (by kernel_rfl) (by kernel_rfl) (by kernel_rfl) (fun _ _ _ h => h) (by rfl) ?_ (by assumption) ?_
      rotate_left
      · intro w' hSw
        obtain ⟨c0, c1, c2, c3, c4, c5, c6, c7, c8, c9, c10, c11⟩ := blk12 hSw
        clear hSw
        go_simp
        try with_reducible rfl
      try simp only [Act.put, List.setIfInBounds_toArray, List.set_cons_zero, List.set_cons_succ]
      refine takeD (i := 1) (d := some 7) (v := ?_) rfl rfl (by kernel_rfl) (by kernel_rfl) (by kernel_rfl) (fun _ _ _ h => h) (by rfl) ?_ (by assumption) ?_
      rotate_left
      · intro w' hSw
        obtain ⟨c0, c1, c2, c3, c4, c5, c6, c7, c8, c9, c10, c11⟩ := blk12 hSw
        clear hSw
        go_simp
        try with_reducible rfl
      try simp only [Act.put, List.setIfInBounds_toArray, List.set_cons_zero, List.set_cons_succ]
      refine takeD (i := 2) (d := some 8) (v := .bool false) rfl rfl (by kernel_rfl) (by kernel_rfl) (by kernel_rfl) (fun _ _ _ h => h) (by rfl) ?_ (by assumption) ?_
      · intro w' hSw
        obtain ⟨c0, c1, c2, c3, c4, c5, c6, c7, c8, c9, c10, c11⟩ := blk12 hSw
        clear hSw
        go_simp
        first | done | rfl | omega
      try simp only [Act.put, List.setIfInBounds_toArray, List.set_cons_zero, List.set_cons_succ]
      refine takeD (i := 3) (d := some 9) (v := .bool false) rfl rfl (by kernel_rfl) (by kernel_rfl) (by kernel_rfl) (fun _ _ _ h => h) (by rfl) ?_ (by assumption) ?_
      · intro w' hSw
        obtain ⟨c0, c1, c2, c3, c4, c5, c6, c7, c8, c9, c10, c11⟩ := blk12 hSw
        clear hSw
        go_simp
        first | done | rfl | omega
      try simp only [Act.put, List.setIfInBounds_toArray, List.set_cons_zero, List.set_cons_succ]
      refine takeD (i := 4) (d := some 10) (v := ?_) rfl rfl (by kernel_rfl) (by kernel_rfl) (by kernel_rfl) (fun _ _ _ h => h) (by rfl) ?_ (by assumption) ?_
      rotate_left
      · intro w' hSw
        obtain ⟨c0, c1, c2, c3, c4, c5, c6, c7, c8, c9, c10, c11⟩ := blk12 hSw
        clear hSw
        go_simp
        try with_reducible rfl
      try simp only [Act.put, List.setIfInBounds_toArray, List.set_cons_zero, List.set_cons_succ]
      refine takeD (i := 5) (d := some 11) (v := ?_) rfl rfl (by kernel_rfl) (by kernel_rfl) (by kernel_rfl) (fun _ _ _ h => h) (by rfl) ?_ (by assumption) ?_
      rotate_left
      · intro w' hSw
        obtain ⟨c0, c1, c2, c3, c4, c5, c6, c7, c8, c9, c10, c11⟩ := blk12 hSw
        clear hSw
        go_simp
        try with_reducible rfl
      try simp only [Act.put, List.setIfInBounds_toArray, List.set_cons_zero, List.set_cons_succ]
      refine takeD (i := 6) (d := some 12) (v := .bool true) rfl rfl (by kernel_rfl) (by kernel_rfl) (by kernel_rfl) (fun _ _ _ h => h) (by rfl) ?_ (by assumption) ?_
      · intro w' hSw
        obtain ⟨c0, c1, c2, c3, c4, c5, c6, c7, c8, c9, c10, c11⟩ := blk12 hSw
        clear hSw
        go_simp
        first | done | rfl | omega
      try simp only [Act.put, List.setIfInBounds_toArray, List.set_cons_zero, List.set_cons_succ]
      refine takeD (i := 7) (d := some 13) (v := ?_) rfl rfl (by kernel_rfl) (by kernel_rfl) (by kernel_rfl) (fun _ _ _ h => h) (by rfl) ?_ (by assumption) ?_
      rotate_left
      · intro w' hSw
        obtain ⟨c0, c1, c2, c3, c4, c5, c6, c7, c8, c9, c10, c11⟩ := blk12 hSw
        clear hSw
        go_simp
        try with_reducible rfl
      try simp only [Act.put, List.setIfInBounds_toArray, List.set_cons_zero, List.set_cons_succ]
      refine takeD (i := 8) (d := some 14) (v := ?_) rfl rfl (by kernel_rfl) (by kernel_rfl) (by kernel_rfl) (fun _ _ _ h => h) (by rfl) ?_ (by assumption) ?_
      rotate_left
      · intro w' hSw
        obtain ⟨c0, c1, c2, c3, c4, c5, c6, c7, c8, c9, c10, c11⟩ := blk12 hSw
        clear hSw
        go_simp
        try with_reducible rfl
      try simp only [Act.put, List.setIfInBounds_toArray, List.set_cons_zero, List.set_cons_succ]
      refine skipD (i := 9) (d := some 15) rfl rfl (by kernel_rfl) (by kernel_rfl) (by kernel_rfl) (fun _ _ _ h => h) (by rfl) (by assumption) ?_
      try simp only [Act.put, List.setIfInBounds_toArray, List.set_cons_zero, List.set_cons_succ]
      refine skipD (i := 10) (d := some 16) rfl rfl (by kernel_rfl) (by kernel_rfl) (by kernel_rfl) (fun _ _ _ h => h) (by rfl) (by assumption) ?_
      try simp only [Act.put, List.setIfInBounds_toArray, List.set_cons_zero, List.set_cons_succ]
      refine skipD (i := 11) (d := some 17) rfl rfl (by kernel_rfl) (by kernel_rfl) (by kernel_rfl) (fun _ _ _ h => h) (by rfl) (by assumption) ?_
      try simp only [Act.put, List.setIfInBounds_toArray, List.set_cons_zero, List.set_cons_succ]
      refine skipD (i := 12) (d := some 18) rfl rfl (by kernel_rfl) (by kernel_rfl) (by kernel_rfl) (fun _ _ _ h => h) (by rfl) (by assumption) ?_
      try simp only [Act.put, List.setIfInBounds_toArray, List.set_cons_zero, List.set_cons_succ]
      refine skipD (i := 13) (d := some 19) rfl rfl (by kernel_rfl) (by kernel_rfl) (by kernel_rfl) (fun _ _ _ h => h) (by rfl) (by assumption) ?_
      try simp only [Act.put, List.setIfInBounds_toArray, List.set_cons_zero, List.set_cons_succ]
      refine takeD (i := 14) (d := some 20) (v := ?_) rfl rfl (by kernel_rfl) (by kernel_rfl) (by kernel_rfl) (fun _ _ _ h => h) (by rfl) ?_ (by assumption) ?_
      rotate_left
      · intro w' hSw
        obtain ⟨c0, c1, c2, c3, c4, c5, c6, c7, c8, c9, c10, c11⟩ := blk12 hSw
        clear hSw
        go_simp
        try with_reducible rfl
      try simp only [Act.put, List.setIfInBounds_toArray, List.set_cons_zero, List.set_cons_succ]
      refine wpAnyH_done (by kernel_rfl) ?_ _
      clear hHeld
      go_wp2_with fail
      go_meet
      exact ⟨rfl, (Fr.refl No w1).drew⟩
    · -- among
      refine wp_region_held_drew (S := (fun W => W.heap[g]? = some (.cells #[.int .i64 K, .int .u32 (U : Int), .int .i64 F, .int .u32 (S : Int), .int .i64 Z, .int .i64 P, .int .i64 Y, .int .i64 X, .int .i64 Q, .int .i64 C, .slice rA rn rc, .slice dA dn dc] 26 (0, 0)))) (by kernel_rfl) (HB.out _ ((Fr.refl No w1).drew)) (fun hHeld => ?_)
      refine takeD (i := 0) (d := some 6) (v := ?_) rfl rfl (by kernel_rfl) (by kernel_rfl) (by kernel_rfl) (fun _ _ _ h => h) (by rfl) ?_ (by assumption) ?_
      rotate_left
      · intro w' hSw
        obtain ⟨c0, c1, c2, c3, c4, c5, c6, c7, c8, c9, c10, c11⟩ := blk12 hSw
        clear hSw
        go_simp
        try with_reducible rfl
      try simp only [Act.put, List.setIfInBounds_toArray, List.set_cons_zero, List.set_cons_succ]
      refine takeD (i := 1) (d := some 7) (v := ?_) rfl rfl (by kernel_rfl) (by kernel_rfl) (by kernel_rfl) (fun _ _ _ h => h) (by rfl) ?_ (by assumption) ?_
      rotate_left
      · intro w' hSw
        obtain ⟨c0, c1, c2, c3, c4, c5, c6, c7, c8, c9, c10, c11⟩ := blk12 hSw
        clear hSw
        go_simp
        try with_reducible rfl
      try simp only [Act.put, List.setIfInBounds_toArray, List.set_cons_zero, List.set_cons_succ]
      refine takeD (i := 2) (d := some 8) (v := .bool false) rfl rfl (by kernel_rfl) (by kernel_rfl) (by kernel_rfl) (fun _ _ _ h => h) (by rfl) ?_ (by assumption) ?_
      · intro w' hSw
        obtain ⟨c0, c1, c2, c3, c4, c5, c6, c7, c8, c9, c10, c11⟩ := blk12 hSw
        clear hSw
        go_simp
        first | done | rfl | omega
      try simp only [Act.put, List.setIfInBounds_toArray, List.set_cons_zero, List.set_cons_succ]
      refine takeD (i := 3) (d := some 9) (v := .bool false) rfl rfl (by kernel_rfl) (by kernel_rfl) (by kernel_rfl) (fun _ _ _ h => h) (by rfl) ?_ (by assumption) ?_
      · intro w' hSw
        obtain ⟨c0, c1, c2, c3, c4, c5, c6, c7, c8, c9, c10, c11⟩ := blk12 hSw
        clear hSw
        go_simp
        first | done | rfl | omega
      try simp only [Act.put, List.setIfInBounds_toArray, List.set_cons_zero, List.set_cons_succ]
      refine takeD (i := 4) (d := some 10) (v := ?_) rfl rfl (by kernel_rfl) (by kernel_rfl) (by kernel_rfl) (fun _ _ _ h => h) (by rfl) ?_ (by assumption) ?_
      rotate_left
      · intro w' hSw
        obtain ⟨c0, c1, c2, c3, c4, c5, c6, c7, c8, c9, c10, c11⟩ := blk12 hSw
        clear hSw
        go_simp
        try with_reducible rfl
      try simp only [Act.put, List.setIfInBounds_toArray, List.set_cons_zero, List.set_cons_succ]
      refine takeD (i := 5) (d := some 11) (v := ?_) rfl rfl (by kernel_rfl) (by kernel_rfl) (by kernel_rfl) (fun _ _ _ h => h) (by rfl) ?_ (by assumption) ?_
      rotate_left
      · intro w' hSw
        obtain ⟨c0, c1, c2, c3, c4, c5, c6, c7, c8, c9, c10, c11⟩ := blk12 hSw
        clear hSw
        go_simp
        try with_reducible rfl
      try simp only [Act.put, List.setIfInBounds_toArray, List.set_cons_zero, List.set_cons_succ]
      refine takeD (i := 6) (d := some 12) (v := .bool false) rfl rfl (by kernel_rfl) (by kernel_rfl) (by kernel_rfl) (fun _ _ _ h => h) (by rfl) ?_ (by assumption) ?_
      · intro w' hSw
        obtain ⟨c0, c1, c2, c3, c4, c5, c6, c7, c8, c9, c10, c11⟩ := blk12 hSw
        clear hSw
        go_simp
        first | done | rfl | omega
      try simp only [Act.put, List.setIfInBounds_toArray, List.set_cons_zero, List.set_cons_succ]
      refine takeD (i := 7) (d := some 13) (v := ?_) rfl rfl (by kernel_rfl) (by kernel_rfl) (by kernel_rfl) (fun _ _ _ h => h) (by rfl) ?_ (by assumption) ?_
      rotate_left
      · intro w' hSw
        obtain ⟨c0, c1, c2, c3, c4, c5, c6, c7, c8, c9, c10, c11⟩ := blk12 hSw
        clear hSw
        go_simp
        try with_reducible rfl
      try simp only [Act.put, List.setIfInBounds_toArray, List.set_cons_zero, List.set_cons_succ]
      refine takeD (i := 8) (d := some 14) (v := ?_) rfl rfl (by kernel_rfl) (by kernel_rfl) (by kernel_rfl) (fun _ _ _ h => h) (by rfl) ?_ (by assumption) ?_
      rotate_left
      · intro w' hSw
        obtain ⟨c0, c1, c2, c3, c4, c5, c6, c7, c8, c9, c10, c11⟩ := blk12 hSw
        clear hSw
        go_simp
        try with_reducible rfl
      try simp only [Act.put, List.setIfInBounds_toArray, List.set_cons_zero, List.set_cons_succ]
      refine takeD (i := 9) (d := some 15) (v := ?_) rfl rfl (by kernel_rfl) (by kernel_rfl) (by kernel_rfl) (fun _ _ _ h => h) (by rfl) ?_ (by assumption) ?_
      rotate_left
      · intro w' hSw
        obtain ⟨c0, c1, c2, c3, c4, c5, c6, c7, c8, c9, c10, c11⟩ := blk12 hSw
        clear hSw
        go_simp
        try with_reducible rfl
      try simp only [Act.put, List.setIfInBounds_toArray, List.set_cons_zero, List.set_cons_succ]
      refine takeD (i := 10) (d := some 16) (v := ?_) rfl rfl (by kernel_rfl) (by kernel_rfl) (by kernel_rfl) (fun _ _ _ h => h) (by rfl) ?_ (by assumption) ?_
      rotate_left
      · intro w' hSw
        obtain ⟨c0, c1, c2, c3, c4, c5, c6, c7, c8, c9, c10, c11⟩ := blk12 hSw
        clear hSw
        go_simp
        try with_reducible rfl
      try simp only [Act.put, List.setIfInBounds_toArray, List.set_cons_zero, List.set_cons_succ]
      refine oneD (i := 11) (by kernel_rfl) rfl (fun K hK => ?_)
      go_simp
      go_at_call 57
      refine (HPL.out _).mono ?_
      rintro e w2 ⟨rfl, hf2⟩
      have HF2 := hid (((Fr.refl No w1).drew).then hf2)
      clear hf2
      refine hK.out _ _ (HB.out w2 HF2.out) (fun hHeld => ?_)
      clear hK K
      try simp only [Act.put, List.setIfInBounds_toArray, List.set_cons_zero, List.set_cons_succ]
      refine oneD (i := 12) (by kernel_rfl) rfl (fun K hK => ?_)
      go_simp
      go_at_call 12
      refine (HSM.out _ HF2.out).mono ?_
      rintro e w3 ⟨rfl, hf3⟩
      have HF3 := hid (HF2.out.then hf3)
      clear hf3
      refine hK.out _ _ (HB.out w3 HF3.out) (fun hHeld => ?_)
      clear hK K
      try simp only [Act.put, List.setIfInBounds_toArray, List.set_cons_zero, List.set_cons_succ]
      refine takeD (i := 13) (d := some 19) (v := ?_) rfl rfl (by kernel_rfl) (by kernel_rfl) (by kernel_rfl) (fun _ _ _ h => h) (by rfl) ?_ (by assumption) ?_
      rotate_left
      · intro w' hSw
        obtain ⟨c0, c1, c2, c3, c4, c5, c6, c7, c8, c9, c10, c11⟩ := blk12 hSw
        clear hSw
        go_simp
        try with_reducible rfl
      try simp only [Act.put, List.setIfInBounds_toArray, List.set_cons_zero, List.set_cons_succ]
      refine takeD (i := 14) (d := some 20) (v := ?_) rfl rfl (by kernel_rfl) (by kernel_rfl) (by kernel_rfl) (fun _ _ _ h => h) (by rfl) ?_ (by assumption) ?_
      rotate_left
      · intro w' hSw
        obtain ⟨c0, c1, c2, c3, c4, c5, c6, c7, c8, c9, c10, c11⟩ := blk12 hSw
        clear hSw
        go_simp
        try with_reducible rfl
      try simp only [Act.put, List.setIfInBounds_toArray, List.set_cons_zero, List.set_cons_succ]
      refine wpAnyH_done (by kernel_rfl) ?_ _
      clear hHeld
      go_wp2_with fail
      go_meet
      exact ⟨rfl, HF3.out⟩
  case rest =>
    obtain ⟨rfl, hfc⟩ := hcut
    obtain ⟨w2, rfl⟩ : ∃ x : World, x = wc := ⟨_, rfl⟩
    obtain ⟨c0, c1, c2, c3, c4, c5, c6, c7, c8, c9, c10, c11⟩ := blk12 (HB.out _ hfc)
    have HF := hid hfc
    clear hfc
    cases N1 with
    | true =>
      go_wp2_with fail
      go_ret
      exact ⟨by rw [HMB.out]; rfl, HR.out.2.2.2.then HF.out⟩
    | false =>
      go_upto_region 3 with fail
      go_cut [80] (fun s80 wx => s80 = .bool N3 ∧ wx = w2)
      case first =>
        go_step
        refine wpList_val (v := .pointer (some ⟨g, 2, none⟩)) rfl (by go_simp; first | done | rfl | simp [bne]) ?_
        simp only [Act.put, List.setIfInBounds_toArray, List.set_cons_zero, List.set_cons_succ]
        refine wpList_val (v := .int .i64 F) rfl (by go_simp; first | done | rfl | simp [bne]) ?_
        simp only [Act.put, List.setIfInBounds_toArray, List.set_cons_zero, List.set_cons_succ]
        refine wpList_val (v := .bool (decide (F < 0))) rfl (by go_simp; first | done | rfl | simp [bne]) ?_
        simp only [Act.put, List.setIfInBounds_toArray, List.set_cons_zero, List.set_cons_succ]
        refine wpList_val (v := .bool (decide (F < 0))) rfl (by go_simp; first | done | rfl | simp [bne]) ?_
        simp only [Act.put, List.setIfInBounds_toArray, List.set_cons_zero, List.set_cons_succ]
        refine grp3 (b := decide (F < 0)) (t := decide (16 ≤ F)) (j := 3) (dj := 24) (d1 := 25) (d2 := 26) (d3 := 27) (v1 := .pointer (some ⟨g, 2, none⟩)) (v2 := .int .i64 F) rfl rfl ⟨rfl, rfl, by decide⟩ ⟨rfl, rfl, by decide⟩ ⟨rfl, rfl, by decide⟩ (fun _ => by (try simp only [Act.put, List.setIfInBounds_toArray, List.set_cons_zero, List.set_cons_succ]); go_simp; first | done | rfl | simp [bne]) (fun _ => by (try simp only [Act.put, List.setIfInBounds_toArray, List.set_cons_zero, List.set_cons_succ]); go_simp; first | done | rfl | simp [bne]) (fun _ => by (try simp only [Act.put, List.setIfInBounds_toArray, List.set_cons_zero, List.set_cons_succ]); go_simp; first | done | rfl | simp [bne]) ?_
        intro y25 y26 y27 hu
        simp only [Act.put, List.setIfInBounds_toArray, List.set_cons_zero, List.set_cons_succ]
        refine pick_or (x := .tmp 24) (y := .tmp 27) (b := decide (F < 0)) (t := decide (16 ≤ F)) rfl rfl rfl hu ?_
        clear hu
        simp only [Act.put, List.setIfInBounds_toArray, List.set_cons_zero, List.set_cons_succ]
        refine wpList_val (v := .bool ((decide (F < 0) || decide (16 ≤ F)))) rfl (by go_simp; first | done | rfl | simp [bne]) ?_
        simp only [Act.put, List.setIfInBounds_toArray, List.set_cons_zero, List.set_cons_succ]
        refine grp3 (b := (decide (F < 0) || decide (16 ≤ F))) (t := decide (P < 0)) (j := 8) (dj := 29) (d1 := 30) (d2 := 31) (d3 := 32) (v1 := .pointer (some ⟨g, 5, none⟩)) (v2 := .int .i64 P) rfl rfl ⟨rfl, rfl, by decide⟩ ⟨rfl, rfl, by decide⟩ ⟨rfl, rfl, by decide⟩ (fun _ => by (try simp only [Act.put, List.setIfInBounds_toArray, List.set_cons_zero, List.set_cons_succ]); go_simp; first | done | rfl | simp [bne]) (fun _ => by (try simp only [Act.put, List.setIfInBounds_toArray, List.set_cons_zero, List.set_cons_succ]); go_simp; first | done | rfl | simp [bne]) (fun _ => by (try simp only [Act.put, List.setIfInBounds_toArray, List.set_cons_zero, List.set_cons_succ]); go_simp; first | done | rfl | simp [bne]) ?_
        intro y30 y31 y32 hu
        simp only [Act.put, List.setIfInBounds_toArray, List.set_cons_zero, List.set_cons_succ]
        refine pick_or (x := .tmp 29) (y := .tmp 32) (b := (decide (F < 0) || decide (16 ≤ F))) (t := decide (P < 0)) rfl rfl rfl hu ?_
        clear hu
        simp only [Act.put, List.setIfInBounds_toArray, List.set_cons_zero, List.set_cons_succ]
        refine wpList_val (v := .bool (((decide (F < 0) || decide (16 ≤ F)) || decide (P < 0)))) rfl (by go_simp; first | done | rfl | simp [bne]) ?_
        simp only [Act.put, List.setIfInBounds_toArray, List.set_cons_zero, List.set_cons_succ]
        refine grp3 (b := ((decide (F < 0) || decide (16 ≤ F)) || decide (P < 0))) (t := decide (1048576 < P)) (j := 13) (dj := 34) (d1 := 35) (d2 := 36) (d3 := 37) (v1 := .pointer (some ⟨g, 5, none⟩)) (v2 := .int .i64 P) rfl rfl ⟨rfl, rfl, by decide⟩ ⟨rfl, rfl, by decide⟩ ⟨rfl, rfl, by decide⟩ (fun _ => by (try simp only [Act.put, List.setIfInBounds_toArray, List.set_cons_zero, List.set_cons_succ]); go_simp; first | done | rfl | simp [bne]) (fun _ => by (try simp only [Act.put, List.setIfInBounds_toArray, List.set_cons_zero, List.set_cons_succ]); go_simp; first | done | rfl | simp [bne]) (fun _ => by (try simp only [Act.put, List.setIfInBounds_toArray, List.set_cons_zero, List.set_cons_succ]); go_simp; first | done | rfl | simp [bne]) ?_
        intro y35 y36 y37 hu
        simp only [Act.put, List.setIfInBounds_toArray, List.set_cons_zero, List.set_cons_succ]
        refine pick_or (x := .tmp 34) (y := .tmp 37) (b := ((decide (F < 0) || decide (16 ≤ F)) || decide (P < 0))) (t := decide (1048576 < P)) rfl rfl rfl hu ?_
        clear hu
        simp only [Act.put, List.setIfInBounds_toArray, List.set_cons_zero, List.set_cons_succ]
        refine wpList_val (v := .bool ((((decide (F < 0) || decide (16 ≤ F)) || decide (P < 0)) || decide (1048576 < P)))) rfl (by go_simp; first | done | rfl | simp [bne]) ?_
        simp only [Act.put, List.setIfInBounds_toArray, List.set_cons_zero, List.set_cons_succ]
        refine grp3 (b := (((decide (F < 0) || decide (16 ≤ F)) || decide (P < 0)) || decide (1048576 < P))) (t := decide (X < 0)) (j := 18) (dj := 39) (d1 := 40) (d2 := 41) (d3 := 42) (v1 := .pointer (some ⟨g, 7, none⟩)) (v2 := .int .i64 X) rfl rfl ⟨rfl, rfl, by decide⟩ ⟨rfl, rfl, by decide⟩ ⟨rfl, rfl, by decide⟩ (fun _ => by (try simp only [Act.put, List.setIfInBounds_toArray, List.set_cons_zero, List.set_cons_succ]); go_simp; first | done | rfl | simp [bne]) (fun _ => by (try simp only [Act.put, List.setIfInBounds_toArray, List.set_cons_zero, List.set_cons_succ]); go_simp; first | done | rfl | simp [bne]) (fun _ => by (try simp only [Act.put, List.setIfInBounds_toArray, List.set_cons_zero, List.set_cons_succ]); go_simp; first | done | rfl | simp [bne]) ?_
        intro y40 y41 y42 hu
        simp only [Act.put, List.setIfInBounds_toArray, List.set_cons_zero, List.set_cons_succ]
        refine pick_or (x := .tmp 39) (y := .tmp 42) (b := (((decide (F < 0) || decide (16 ≤ F)) || decide (P < 0)) || decide (1048576 < P))) (t := decide (X < 0)) rfl rfl rfl hu ?_
        clear hu
        simp only [Act.put, List.setIfInBounds_toArray, List.set_cons_zero, List.set_cons_succ]
        refine wpList_val (v := .bool (((((decide (F < 0) || decide (16 ≤ F)) || decide (P < 0)) || decide (1048576 < P)) || decide (X < 0)))) rfl (by go_simp; first | done | rfl | simp [bne]) ?_
        simp only [Act.put, List.setIfInBounds_toArray, List.set_cons_zero, List.set_cons_succ]
        refine grp3 (b := ((((decide (F < 0) || decide (16 ≤ F)) || decide (P < 0)) || decide (1048576 < P)) || decide (X < 0))) (t := decide (2147483647 < X)) (j := 23) (dj := 44) (d1 := 45) (d2 := 46) (d3 := 47) (v1 := .pointer (some ⟨g, 7, none⟩)) (v2 := .int .i64 X) rfl rfl ⟨rfl, rfl, by decide⟩ ⟨rfl, rfl, by decide⟩ ⟨rfl, rfl, by decide⟩ (fun _ => by (try simp only [Act.put, List.setIfInBounds_toArray, List.set_cons_zero, List.set_cons_succ]); go_simp; first | done | rfl | simp [bne]) (fun _ => by (try simp only [Act.put, List.setIfInBounds_toArray, List.set_cons_zero, List.set_cons_succ]); go_simp; first | done | rfl | simp [bne]) (fun _ => by (try simp only [Act.put, List.setIfInBounds_toArray, List.set_cons_zero, List.set_cons_succ]); go_simp; first | done | rfl | simp [bne]) ?_
        intro y45 y46 y47 hu
        simp only [Act.put, List.setIfInBounds_toArray, List.set_cons_zero, List.set_cons_succ]
        refine pick_or (x := .tmp 44) (y := .tmp 47) (b := ((((decide (F < 0) || decide (16 ≤ F)) || decide (P < 0)) || decide (1048576 < P)) || decide (X < 0))) (t := decide (2147483647 < X)) rfl rfl rfl hu ?_
        clear hu
        simp only [Act.put, List.setIfInBounds_toArray, List.set_cons_zero, List.set_cons_succ]
        refine wpList_val (v := .bool ((((((decide (F < 0) || decide (16 ≤ F)) || decide (P < 0)) || decide (1048576 < P)) || decide (X < 0)) || decide (2147483647 < X)))) rfl (by go_simp; first | done | rfl | simp [bne]) ?_
        simp only [Act.put, List.setIfInBounds_toArray, List.set_cons_zero, List.set_cons_succ]
        refine grp3 (b := (((((decide (F < 0) || decide (16 ≤ F)) || decide (P < 0)) || decide (1048576 < P)) || decide (X < 0)) || decide (2147483647 < X))) (t := decide (Q < 0)) (j := 28) (dj := 49) (d1 := 50) (d2 := 51) (d3 := 52) (v1 := .pointer (some ⟨g, 8, none⟩)) (v2 := .int .i64 Q) rfl rfl ⟨rfl, rfl, by decide⟩ ⟨rfl, rfl, by decide⟩ ⟨rfl, rfl, by decide⟩ (fun _ => by (try simp only [Act.put, List.setIfInBounds_toArray, List.set_cons_zero, List.set_cons_succ]); go_simp; first | done | rfl | simp [bne]) (fun _ => by (try simp only [Act.put, List.setIfInBounds_toArray, List.set_cons_zero, List.set_cons_succ]); go_simp; first | done | rfl | simp [bne]) (fun _ => by (try simp only [Act.put, List.setIfInBounds_toArray, List.set_cons_zero, List.set_cons_succ]); go_simp; first | done | rfl | simp [bne]) ?_
        intro y50 y51 y52 hu
        simp only [Act.put, List.setIfInBounds_toArray, List.set_cons_zero, List.set_cons_succ]
        refine pick_or (x := .tmp 49) (y := .tmp 52) (b := (((((decide (F < 0) || decide (16 ≤ F)) || decide (P < 0)) || decide (1048576 < P)) || decide (X < 0)) || decide (2147483647 < X))) (t := decide (Q < 0)) rfl rfl rfl hu ?_
        clear hu
        simp only [Act.put, List.setIfInBounds_toArray, List.set_cons_zero, List.set_cons_succ]
        refine wpList_val (v := .bool (((((((decide (F < 0) || decide (16 ≤ F)) || decide (P < 0)) || decide (1048576 < P)) || decide (X < 0)) || decide (2147483647 < X)) || decide (Q < 0)))) rfl (by go_simp; first | done | rfl | simp [bne]) ?_
        simp only [Act.put, List.setIfInBounds_toArray, List.set_cons_zero, List.set_cons_succ]
        refine grp3 (b := ((((((decide (F < 0) || decide (16 ≤ F)) || decide (P < 0)) || decide (1048576 < P)) || decide (X < 0)) || decide (2147483647 < X)) || decide (Q < 0))) (t := decide (8 < Q)) (j := 33) (dj := 54) (d1 := 55) (d2 := 56) (d3 := 57) (v1 := .pointer (some ⟨g, 8, none⟩)) (v2 := .int .i64 Q) rfl rfl ⟨rfl, rfl, by decide⟩ ⟨rfl, rfl, by decide⟩ ⟨rfl, rfl, by decide⟩ (fun _ => by (try simp only [Act.put, List.setIfInBounds_toArray, List.set_cons_zero, List.set_cons_succ]); go_simp; first | done | rfl | simp [bne]) (fun _ => by (try simp only [Act.put, List.setIfInBounds_toArray, List.set_cons_zero, List.set_cons_succ]); go_simp; first | done | rfl | simp [bne]) (fun _ => by (try simp only [Act.put, List.setIfInBounds_toArray, List.set_cons_zero, List.set_cons_succ]); go_simp; first | done | rfl | simp [bne]) ?_
        intro y55 y56 y57 hu
        simp only [Act.put, List.setIfInBounds_toArray, List.set_cons_zero, List.set_cons_succ]
        refine pick_or (x := .tmp 54) (y := .tmp 57) (b := ((((((decide (F < 0) || decide (16 ≤ F)) || decide (P < 0)) || decide (1048576 < P)) || decide (X < 0)) || decide (2147483647 < X)) || decide (Q < 0))) (t := decide (8 < Q)) rfl rfl rfl hu ?_
        clear hu
        simp only [Act.put, List.setIfInBounds_toArray, List.set_cons_zero, List.set_cons_succ]
        refine wpList_val (v := .bool ((((((((decide (F < 0) || decide (16 ≤ F)) || decide (P < 0)) || decide (1048576 < P)) || decide (X < 0)) || decide (2147483647 < X)) || decide (Q < 0)) || decide (8 < Q)))) rfl (by go_simp; first | done | rfl | simp [bne]) ?_
        simp only [Act.put, List.setIfInBounds_toArray, List.set_cons_zero, List.set_cons_succ]
        refine grp3 (b := (((((((decide (F < 0) || decide (16 ≤ F)) || decide (P < 0)) || decide (1048576 < P)) || decide (X < 0)) || decide (2147483647 < X)) || decide (Q < 0)) || decide (8 < Q))) (t := decide (C < 0)) (j := 38) (dj := 59) (d1 := 60) (d2 := 61) (d3 := 62) (v1 := .pointer (some ⟨g, 9, none⟩)) (v2 := .int .i64 C) rfl rfl ⟨rfl, rfl, by decide⟩ ⟨rfl, rfl, by decide⟩ ⟨rfl, rfl, by decide⟩ (fun _ => by (try simp only [Act.put, List.setIfInBounds_toArray, List.set_cons_zero, List.set_cons_succ]); go_simp; first | done | rfl | simp [bne]) (fun _ => by (try simp only [Act.put, List.setIfInBounds_toArray, List.set_cons_zero, List.set_cons_succ]); go_simp; first | done | rfl | simp [bne]) (fun _ => by (try simp only [Act.put, List.setIfInBounds_toArray, List.set_cons_zero, List.set_cons_succ]); go_simp; first | done | rfl | simp [bne]) ?_
        intro y60 y61 y62 hu
        simp only [Act.put, List.setIfInBounds_toArray, List.set_cons_zero, List.set_cons_succ]
        refine pick_or (x := .tmp 59) (y := .tmp 62) (b := (((((((decide (F < 0) || decide (16 ≤ F)) || decide (P < 0)) || decide (1048576 < P)) || decide (X < 0)) || decide (2147483647 < X)) || decide (Q < 0)) || decide (8 < Q))) (t := decide (C < 0)) rfl rfl rfl hu ?_
        clear hu
        simp only [Act.put, List.setIfInBounds_toArray, List.set_cons_zero, List.set_cons_succ]
        refine wpList_val (v := .bool (((((((((decide (F < 0) || decide (16 ≤ F)) || decide (P < 0)) || decide (1048576 < P)) || decide (X < 0)) || decide (2147483647 < X)) || decide (Q < 0)) || decide (8 < Q)) || decide (C < 0)))) rfl (by go_simp; first | done | rfl | simp [bne]) ?_
        simp only [Act.put, List.setIfInBounds_toArray, List.set_cons_zero, List.set_cons_succ]
        refine grp3 (b := ((((((((decide (F < 0) || decide (16 ≤ F)) || decide (P < 0)) || decide (1048576 < P)) || decide (X < 0)) || decide (2147483647 < X)) || decide (Q < 0)) || decide (8 < Q)) || decide (C < 0))) (t := decide (255 < C)) (j := 43) (dj := 64) (d1 := 65) (d2 := 66) (d3 := 67) (v1 := .pointer (some ⟨g, 9, none⟩)) (v2 := .int .i64 C) rfl rfl ⟨rfl, rfl, by decide⟩ ⟨rfl, rfl, by decide⟩ ⟨rfl, rfl, by decide⟩ (fun _ => by (try simp only [Act.put, List.setIfInBounds_toArray, List.set_cons_zero, List.set_cons_succ]); go_simp; first | done | rfl | simp [bne]) (fun _ => by (try simp only [Act.put, List.setIfInBounds_toArray, List.set_cons_zero, List.set_cons_succ]); go_simp; first | done | rfl | simp [bne]) (fun _ => by (try simp only [Act.put, List.setIfInBounds_toArray, List.set_cons_zero, List.set_cons_succ]); go_simp; first | done | rfl | simp [bne]) ?_
        intro y65 y66 y67 hu
        simp only [Act.put, List.setIfInBounds_toArray, List.set_cons_zero, List.set_cons_succ]
        refine pick_or (x := .tmp 64) (y := .tmp 67) (b := ((((((((decide (F < 0) || decide (16 ≤ F)) || decide (P < 0)) || decide (1048576 < P)) || decide (X < 0)) || decide (2147483647 < X)) || decide (Q < 0)) || decide (8 < Q)) || decide (C < 0))) (t := decide (255 < C)) rfl rfl rfl hu ?_
        clear hu
        simp only [Act.put, List.setIfInBounds_toArray, List.set_cons_zero, List.set_cons_succ]
        refine wpList_val (v := .bool ((((((((((decide (F < 0) || decide (16 ≤ F)) || decide (P < 0)) || decide (1048576 < P)) || decide (X < 0)) || decide (2147483647 < X)) || decide (Q < 0)) || decide (8 < Q)) || decide (C < 0)) || decide (255 < C)))) rfl (by go_simp; first | done | rfl | simp [bne]) ?_
        simp only [Act.put, List.setIfInBounds_toArray, List.set_cons_zero, List.set_cons_succ]
        refine grp4 (b := (((((((((decide (F < 0) || decide (16 ≤ F)) || decide (P < 0)) || decide (1048576 < P)) || decide (X < 0)) || decide (2147483647 < X)) || decide (Q < 0)) || decide (8 < Q)) || decide (C < 0)) || decide (255 < C))) (t := decide ((4 : Int) < (rn : Int))) (j := 48) (dj := 69) (d1 := 70) (d2 := 71) (d3 := 72) (d4 := 73) (v1 := .pointer (some ⟨g, 10, none⟩)) (v2 := .slice rA rn rc) (v3 := .int .i64 (rn : Int)) rfl rfl ⟨rfl, rfl, by decide⟩ ⟨rfl, rfl, by decide⟩ ⟨rfl, rfl, by decide⟩ ⟨rfl, rfl, by decide⟩ (fun _ => by (try simp only [Act.put, List.setIfInBounds_toArray, List.set_cons_zero, List.set_cons_succ]); go_simp; first | done | rfl | simp [bne]) (fun _ => by (try simp only [Act.put, List.setIfInBounds_toArray, List.set_cons_zero, List.set_cons_succ]); go_simp; first | done | rfl | simp [bne]) (fun _ => by (try simp only [Act.put, List.setIfInBounds_toArray, List.set_cons_zero, List.set_cons_succ]); go_simp; first | done | rfl | simp [bne]) (fun _ => by (try simp only [Act.put, List.setIfInBounds_toArray, List.set_cons_zero, List.set_cons_succ]); go_simp; first | done | rfl | simp [bne]) ?_
        intro y70 y71 y72 y73 hu
        simp only [Act.put, List.setIfInBounds_toArray, List.set_cons_zero, List.set_cons_succ]
        refine pick_or (x := .tmp 69) (y := .tmp 73) (b := (((((((((decide (F < 0) || decide (16 ≤ F)) || decide (P < 0)) || decide (1048576 < P)) || decide (X < 0)) || decide (2147483647 < X)) || decide (Q < 0)) || decide (8 < Q)) || decide (C < 0)) || decide (255 < C))) (t := decide ((4 : Int) < (rn : Int))) rfl rfl rfl hu ?_
        clear hu
        simp only [Act.put, List.setIfInBounds_toArray, List.set_cons_zero, List.set_cons_succ]
        refine wpList_val (v := .bool (((((((((((decide (F < 0) || decide (16 ≤ F)) || decide (P < 0)) || decide (1048576 < P)) || decide (X < 0)) || decide (2147483647 < X)) || decide (Q < 0)) || decide (8 < Q)) || decide (C < 0)) || decide (255 < C)) || decide ((4 : Int) < (rn : Int))))) rfl (by go_simp; first | done | rfl | simp [bne]) ?_
        simp only [Act.put, List.setIfInBounds_toArray, List.set_cons_zero, List.set_cons_succ]
        refine grp4 (b := ((((((((((decide (F < 0) || decide (16 ≤ F)) || decide (P < 0)) || decide (1048576 < P)) || decide (X < 0)) || decide (2147483647 < X)) || decide (Q < 0)) || decide (8 < Q)) || decide (C < 0)) || decide (255 < C)) || decide ((4 : Int) < (rn : Int)))) (t := decide ((1024 : Int) < (dn : Int))) (j := 54) (dj := 75) (d1 := 76) (d2 := 77) (d3 := 78) (d4 := 79) (v1 := .pointer (some ⟨g, 11, none⟩)) (v2 := .slice dA dn dc) (v3 := .int .i64 (dn : Int)) rfl rfl ⟨rfl, rfl, by decide⟩ ⟨rfl, rfl, by decide⟩ ⟨rfl, rfl, by decide⟩ ⟨rfl, rfl, by decide⟩ (fun _ => by (try simp only [Act.put, List.setIfInBounds_toArray, List.set_cons_zero, List.set_cons_succ]); go_simp; first | done | rfl | simp [bne]) (fun _ => by (try simp only [Act.put, List.setIfInBounds_toArray, List.set_cons_zero, List.set_cons_succ]); go_simp; first | done | rfl | simp [bne]) (fun _ => by (try simp only [Act.put, List.setIfInBounds_toArray, List.set_cons_zero, List.set_cons_succ]); go_simp; first | done | rfl | simp [bne]) (fun _ => by (try simp only [Act.put, List.setIfInBounds_toArray, List.set_cons_zero, List.set_cons_succ]); go_simp; first | done | rfl | simp [bne]) ?_
        intro y76 y77 y78 y79 hu
        simp only [Act.put, List.setIfInBounds_toArray, List.set_cons_zero, List.set_cons_succ]
        refine pick_or (x := .tmp 75) (y := .tmp 79) (b := ((((((((((decide (F < 0) || decide (16 ≤ F)) || decide (P < 0)) || decide (1048576 < P)) || decide (X < 0)) || decide (2147483647 < X)) || decide (Q < 0)) || decide (8 < Q)) || decide (C < 0)) || decide (255 < C)) || decide ((4 : Int) < (rn : Int)))) (t := decide ((1024 : Int) < (dn : Int))) rfl rfl rfl hu ?_
        clear hu
        simp only [Act.put, List.setIfInBounds_toArray, List.set_cons_zero, List.set_cons_succ]
        go_wp2_with fail
        go_meet
        exact ⟨congrArg Value.bool HN3.out.symm, rfl⟩
      case rest =>
        obtain ⟨rfl, rfl⟩ := hcut
        cases N3 with
        | true =>
          go_wp2_with fail
          go_ret
          exact ⟨by rw [HMB.out]; rfl, HR.out.2.2.2.then HF.out⟩
        | false =>
          go_upto_region 5 with fail
          obtain ⟨w3, rfl⟩ : ∃ x : World, x = wc := ⟨_, rfl⟩
          go_cut [110] (fun s110 wx => s110 = .bool N5 ∧ wx = w3)
          case first =>
            by_cases k2 : K = 2
            · subst k2
              have HX := hid (show (((((decide (Z < 1) || decide (1048576 < Z)) || decide (Z < P)) || decide (Y < 1)) || decide (1024 < Y))) = N5 from by rw [HN5.out]; rfl)
              go_step
              refine wpList_val (v := .pointer (some ⟨g, 0, none⟩)) rfl (by go_simp; first | done | rfl | simp [bne]) ?_
              simp only [Act.put, List.setIfInBounds_toArray, List.set_cons_zero, List.set_cons_succ]
              refine wpList_val (v := .int .i64 2) rfl (by go_simp; first | done | rfl | simp [bne]) ?_
              simp only [Act.put, List.setIfInBounds_toArray, List.set_cons_zero, List.set_cons_succ]
              refine wpList_val (v := .bool true) rfl (by go_simp; first | done | rfl | simp [bne]) ?_
              simp only [Act.put, List.setIfInBounds_toArray, List.set_cons_zero, List.set_cons_succ]
              refine wpList_val (v := .bool true) rfl (by go_simp; first | done | rfl | simp [bne]) ?_
              simp only [Act.put, List.setIfInBounds_toArray, List.set_cons_zero, List.set_cons_succ]
              refine wpList_val (v := .pointer (some ⟨g, 4, none⟩)) rfl (by go_simp; first | done | rfl | simp [bne]) ?_
              simp only [Act.put, List.setIfInBounds_toArray, List.set_cons_zero, List.set_cons_succ]
              refine wpList_val (v := .int .i64 Z) rfl (by go_simp; first | done | rfl | simp [bne]) ?_
              simp only [Act.put, List.setIfInBounds_toArray, List.set_cons_zero, List.set_cons_succ]
              refine wpList_val (v := .bool (decide (Z < 1))) rfl (by go_simp; first | done | rfl | simp [bne]) ?_
              simp only [Act.put, List.setIfInBounds_toArray, List.set_cons_zero, List.set_cons_succ]
              refine wpList_val (v := .bool (decide (Z < 1))) rfl (by go_simp; first | done | rfl | simp [bne]) ?_
              simp only [Act.put, List.setIfInBounds_toArray, List.set_cons_zero, List.set_cons_succ]
              refine grp3 (b := decide (Z < 1)) (t := decide (1048576 < Z)) (j := 7) (dj := 88) (d1 := 89) (d2 := 90) (d3 := 91) (v1 := .pointer (some ⟨g, 4, none⟩)) (v2 := .int .i64 Z) rfl rfl ⟨rfl, rfl, by decide⟩ ⟨rfl, rfl, by decide⟩ ⟨rfl, rfl, by decide⟩ (fun _ => by (try simp only [Act.put, List.setIfInBounds_toArray, List.set_cons_zero, List.set_cons_succ]); go_simp; first | done | rfl | simp [bne]) (fun _ => by (try simp only [Act.put, List.setIfInBounds_toArray, List.set_cons_zero, List.set_cons_succ]); go_simp; first | done | rfl | simp [bne]) (fun _ => by (try simp only [Act.put, List.setIfInBounds_toArray, List.set_cons_zero, List.set_cons_succ]); go_simp; first | done | rfl | simp [bne]) ?_
              intro y89 y90 y91 hu
              simp only [Act.put, List.setIfInBounds_toArray, List.set_cons_zero, List.set_cons_succ]
              refine pick_or (x := .tmp 88) (y := .tmp 91) (b := decide (Z < 1)) (t := decide (1048576 < Z)) rfl rfl rfl hu ?_
              clear hu
              simp only [Act.put, List.setIfInBounds_toArray, List.set_cons_zero, List.set_cons_succ]
              refine wpList_val (v := .bool ((decide (Z < 1) || decide (1048576 < Z)))) rfl (by go_simp; first | done | rfl | simp [bne]) ?_
              simp only [Act.put, List.setIfInBounds_toArray, List.set_cons_zero, List.set_cons_succ]
              refine grp5 (b := (decide (Z < 1) || decide (1048576 < Z))) (t := decide (Z < P)) (j := 12) (dj := 93) (d1 := 94) (d2 := 95) (d3 := 96) (d4 := 97) (d5 := 98) (v1 := .pointer (some ⟨g, 5, none⟩)) (v2 := .int .i64 P) (v3 := .pointer (some ⟨g, 4, none⟩)) (v4 := .int .i64 Z) rfl rfl ⟨rfl, rfl, by decide⟩ ⟨rfl, rfl, by decide⟩ ⟨rfl, rfl, by decide⟩ ⟨rfl, rfl, by decide⟩ ⟨rfl, rfl, by decide⟩ (fun _ => by (try simp only [Act.put, List.setIfInBounds_toArray, List.set_cons_zero, List.set_cons_succ]); go_simp; first | done | rfl | simp [bne]) (fun _ => by (try simp only [Act.put, List.setIfInBounds_toArray, List.set_cons_zero, List.set_cons_succ]); go_simp; first | done | rfl | simp [bne]) (fun _ => by (try simp only [Act.put, List.setIfInBounds_toArray, List.set_cons_zero, List.set_cons_succ]); go_simp; first | done | rfl | simp [bne]) (fun _ => by (try simp only [Act.put, List.setIfInBounds_toArray, List.set_cons_zero, List.set_cons_succ]); go_simp; first | done | rfl | simp [bne]) (fun _ => by (try simp only [Act.put, List.setIfInBounds_toArray, List.set_cons_zero, List.set_cons_succ]); go_simp; first | done | rfl | simp [bne]) ?_
              intro y94 y95 y96 y97 y98 hu
              simp only [Act.put, List.setIfInBounds_toArray, List.set_cons_zero, List.set_cons_succ]
              refine pick_or (x := .tmp 93) (y := .tmp 98) (b := (decide (Z < 1) || decide (1048576 < Z))) (t := decide (Z < P)) rfl rfl rfl hu ?_
              clear hu
              simp only [Act.put, List.setIfInBounds_toArray, List.set_cons_zero, List.set_cons_succ]
              refine wpList_val (v := .bool (((decide (Z < 1) || decide (1048576 < Z)) || decide (Z < P)))) rfl (by go_simp; first | done | rfl | simp [bne]) ?_
              simp only [Act.put, List.setIfInBounds_toArray, List.set_cons_zero, List.set_cons_succ]
              refine grp3 (b := ((decide (Z < 1) || decide (1048576 < Z)) || decide (Z < P))) (t := decide (Y < 1)) (j := 19) (dj := 100) (d1 := 101) (d2 := 102) (d3 := 103) (v1 := .pointer (some ⟨g, 6, none⟩)) (v2 := .int .i64 Y) rfl rfl ⟨rfl, rfl, by decide⟩ ⟨rfl, rfl, by decide⟩ ⟨rfl, rfl, by decide⟩ (fun _ => by (try simp only [Act.put, List.setIfInBounds_toArray, List.set_cons_zero, List.set_cons_succ]); go_simp; first | done | rfl | simp [bne]) (fun _ => by (try simp only [Act.put, List.setIfInBounds_toArray, List.set_cons_zero, List.set_cons_succ]); go_simp; first | done | rfl | simp [bne]) (fun _ => by (try simp only [Act.put, List.setIfInBounds_toArray, List.set_cons_zero, List.set_cons_succ]); go_simp; first | done | rfl | simp [bne]) ?_
              intro y101 y102 y103 hu
              simp only [Act.put, List.setIfInBounds_toArray, List.set_cons_zero, List.set_cons_succ]
              refine pick_or (x := .tmp 100) (y := .tmp 103) (b := ((decide (Z < 1) || decide (1048576 < Z)) || decide (Z < P))) (t := decide (Y < 1)) rfl rfl rfl hu ?_
              clear hu
              simp only [Act.put, List.setIfInBounds_toArray, List.set_cons_zero, List.set_cons_succ]
              refine wpList_val (v := .bool ((((decide (Z < 1) || decide (1048576 < Z)) || decide (Z < P)) || decide (Y < 1)))) rfl (by go_simp; first | done | rfl | simp [bne]) ?_
              simp only [Act.put, List.setIfInBounds_toArray, List.set_cons_zero, List.set_cons_succ]
              refine grp3 (b := (((decide (Z < 1) || decide (1048576 < Z)) || decide (Z < P)) || decide (Y < 1))) (t := decide (1024 < Y)) (j := 24) (dj := 105) (d1 := 106) (d2 := 107) (d3 := 108) (v1 := .pointer (some ⟨g, 6, none⟩)) (v2 := .int .i64 Y) rfl rfl ⟨rfl, rfl, by decide⟩ ⟨rfl, rfl, by decide⟩ ⟨rfl, rfl, by decide⟩ (fun _ => by (try simp only [Act.put, List.setIfInBounds_toArray, List.set_cons_zero, List.set_cons_succ]); go_simp; first | done | rfl | simp [bne]) (fun _ => by (try simp only [Act.put, List.setIfInBounds_toArray, List.set_cons_zero, List.set_cons_succ]); go_simp; first | done | rfl | simp [bne]) (fun _ => by (try simp only [Act.put, List.setIfInBounds_toArray, List.set_cons_zero, List.set_cons_succ]); go_simp; first | done | rfl | simp [bne]) ?_
              intro y106 y107 y108 hu
              simp only [Act.put, List.setIfInBounds_toArray, List.set_cons_zero, List.set_cons_succ]
              refine pick_or (x := .tmp 105) (y := .tmp 108) (b := (((decide (Z < 1) || decide (1048576 < Z)) || decide (Z < P)) || decide (Y < 1))) (t := decide (1024 < Y)) rfl rfl rfl hu ?_
              clear hu
              simp only [Act.put, List.setIfInBounds_toArray, List.set_cons_zero, List.set_cons_succ]
              refine wpList_val (v := .bool (((((decide (Z < 1) || decide (1048576 < Z)) || decide (Z < P)) || decide (Y < 1)) || decide (1024 < Y)))) rfl (by go_simp; first | done | rfl | simp [bne]) ?_
              simp only [Act.put, List.setIfInBounds_toArray, List.set_cons_zero, List.set_cons_succ]
              go_wp2_with fail
              go_meet
              exact ⟨congrArg Value.bool HX.out, rfl⟩
            · have k2' : (K == 2) = false := by simpa using k2
              have HX := hid (show false = N5 from by rw [HN5.out, k2']; rfl)
              clear k2
              go_wp2_with fail
              go_meet
              exact ⟨congrArg Value.bool HX.out, rfl⟩
          case rest =>
            obtain ⟨rfl, rfl⟩ := hcut
            cases N5 with
            | true =>
              go_wp2_with fail
              go_ret
              exact ⟨by rw [HMB.out]; rfl, HR.out.2.2.2.then HF.out⟩
            | false =>
              go_upto_region 7 with fail
              obtain ⟨w4, rfl⟩ : ∃ x : World, x = wc := ⟨_, rfl⟩
              go_cut [119] (fun s119 wx => s119 = .bool N7 ∧ wx = w4)
              case first =>
                by_cases k3 : K = 3
                · subst k3
                  have HX := hid (show ((dn : Int) == 0) = N7 from by rw [HN7.out]; rfl)
                  go_wp2_with fail
                  go_meet
                  exact ⟨congrArg Value.bool HX.out, rfl⟩
                · have k3' : (K == 3) = false := by simpa using k3
                  have HX := hid (show false = N7 from by rw [HN7.out, k3']; rfl)
                  clear k3
                  go_wp2_with fail
                  go_meet
                  exact ⟨congrArg Value.bool HX.out, rfl⟩
              case rest =>
                obtain ⟨rfl, rfl⟩ := hcut
                cases N7 with
                | true =>
                  go_wp2_with fail
                  go_ret
                  exact ⟨by rw [HMB.out]; rfl, HR.out.2.2.2.then HF.out⟩
                | false =>
                  obtain ⟨w5, rfl⟩ : ∃ x : World, x = wc := ⟨_, rfl⟩
                  have HF5 := hid (HR.out.2.2.2.then HF.out)
                  have HC := hid (show MB = chainB X R from by rw [HMB.out]; simp)
                  go_wp2_with fail
                  clear c0 c1 c2 c3 c4 c5 c6 c7 c8 c9 c10 c11
                  go_loopw [3, 125] (fun ah i wr => ∃ k : Nat, k ≤ rn ∧ i = .int .i64 k ∧ ah = .int .i64 (lastA X (R.take k)) ∧ Hid (Fr No w wr ∧ chainB X (R.take k) = true)) (fun _ i _ => rn - (intOf i).toNat)
                  case atStart => exact ⟨0, by omega, rfl, by simp [lastA], ⟨HF5.out, by simp [chainB]⟩⟩
                  case round =>
                    obtain ⟨k, hk, rfl, rfl, HFr⟩ := hrel
                    obtain ⟨L, hL⟩ : ∃ L, L = lastA X (R.take k) := ⟨_, rfl⟩
                    by_cases hlt : k < rn
                    · have hkl : k < R.length := by rw [HR.out.1]; exact hlt
                      obtain ⟨ad, rfl, a0, a1⟩ := cells2 (HR.out.2.2.1.fr HFr.out.1 (fun _ _ h => h)) k hkl
                      obtain ⟨⟨a, b⟩, hab⟩ : ∃ r, r = R[k] := ⟨_, rfl⟩
                      have hN : chainB X (R.take (k + 1)) = (decide (L < a) && decide (a < b) && decide (b ≤ 2147483647)) ∧ lastA X (R.take (k + 1)) = b := by
                        rw [take_snocR R k hkl, chainB_snoc, lastA_snoc, hL, ← hab, HFr.out.2, Bool.true_and]
                        exact ⟨rfl, rfl⟩
                      rw [← hab] at a0 a1
                      rw [← hL]
                      clear hL hab hkl
                      have hcs : (a ≤ L ∧ Hid (MB = false)) ∨ (L < a ∧ b ≤ a ∧ Hid (MB = false)) ∨ (L < a ∧ a < b ∧ 2147483647 < b ∧ Hid (MB = false)) ∨ (L < a ∧ a < b ∧ b ≤ 2147483647 ∧ Hid (chainB X (R.take (k + 1)) = true)) := by
                        by_cases h1 : L < a
                        · by_cases h2 : a < b
                          · by_cases h3 : b ≤ 2147483647
                            · exact .inr (.inr (.inr ⟨h1, h2, h3, hN.1.trans (by simp [h1, h2, h3])⟩))
                            · exact .inr (.inr (.inl ⟨h1, h2, by omega, by rw [HC.out]; exact chain_no R (k + 1) X (hN.1.trans (by simp [h1, h2, h3]))⟩))
                          · exact .inr (.inl ⟨h1, by omega, by rw [HC.out]; exact chain_no R (k + 1) X (hN.1.trans (by simp [h1, h2]))⟩)
                        · exact .inl ⟨by omega, by rw [HC.out]; exact chain_no R (k + 1) X (hN.1.trans (by simp [h1]))⟩
                      have HL := hid hN.2
                      clear hN
                      rcases hcs with ⟨h1, HV⟩ | ⟨h1, h2, HV⟩ | ⟨h1, h2, h3, HV⟩ | ⟨h1, h2, h3, HV⟩
                      · go_wp2_with fail
                        go_ret
                        exact ⟨by rw [HV.out]; rfl, HFr.out.1.alloc _⟩
                      · go_wp2_with fail
                        go_ret
                        exact ⟨by rw [HV.out]; rfl, HFr.out.1.alloc _⟩
                      · go_wp2_with fail
                        go_ret
                        exact ⟨by rw [HV.out]; rfl, HFr.out.1.alloc _⟩
                      · go_wp2_with fail
                        go_roundw
                        case rel => exact ⟨k + 1, by omega, by go_num, by rw [HL.out], ⟨HFr.out.1.alloc _, HV.out⟩⟩
                        case measure => simp [intOf] <;> omega
                    · obtain rfl : k = rn := by omega
                      have hT : R.take k = R := List.take_of_length_le (by rw [HR.out.1]; exact Nat.le_refl _)
                      have HQ := hid (show MB = true from by rw [HC.out, ← HFr.out.2, hT])
                      clear hT hL hlt
                      go_wp2_with fail
                      go_ret
                      exact ⟨by rw [HQ.out]; rfl, HFr.out.1⟩
end Go.Proofs.Ytamkfjbdcjkchaa

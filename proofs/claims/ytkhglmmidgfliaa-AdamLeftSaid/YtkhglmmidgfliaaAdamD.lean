/- The document's At. -/
import Derived.Test.YtkhglmmidgfliaaAdamC
namespace Go.Proofs.Ytkhglmmidgfliaa
open Go.RowKit Go.Proofs.HK
set_option linter.unusedVariables false
set_option linter.unusedSimpArgs false
attribute [local go_sem] max2_int min2_int max_two min_two

theorem gX_le (p : Nat) : gX p ≤ 4 := by unfold gX; split <;> omega
theorem gY_le (p : Nat) : gY p ≤ 4 := by unfold gY; split <;> omega
theorem gDX_le (p : Nat) : 1 ≤ gDX p ∧ gDX p ≤ 8 := by unfold gDX; split <;> omega
theorem gDY_le (p : Nat) : 1 ≤ gDY p ∧ gDY p ≤ 8 := by unfold gDY; split <;> omega
theorem cnt_le (g d w : Nat) (hw : w ≤ 2048) (hd : d ≤ 8) : cnt g d w ≤ 3000 := Nat.le_trans (Nat.div_le_self _ _) (by omega)
theorem blk4 {W : World} {g : Nat} {v0 v1 v2 v3 : Value} {t : TypeId} (hb : W.heap[g]? = some (.cells #[v0, v1, v2, v3] t (0, 0))) :
    W.cell? ⟨g, 0, none⟩ = some v0 ∧ W.cell? ⟨g, 1, none⟩ = some v1 ∧ W.cell? ⟨g, 2, none⟩ = some v2 ∧ W.cell? ⟨g, 3, none⟩ = some v3 := by
  simp [World.cell?, hb]

set_option maxRecDepth 100000 in
set_option maxHeartbeats 3200000 in
theorem refAt_good (pn wn hn : Nat) (p1 : 1 ≤ pn) (p7 : pn ≤ 7) (w0 : 1 ≤ wn) (w1 : wn ≤ 2048) (h0 : 1 ≤ hn) (h1 : hn ≤ 2048) (w : World) :
    Calls Try.prog 16 #[.int .i64 pn, .int .i64 wn, .int .i64 hn] w fun e w' => e = .returned (passV (gX pn) (gY pn) (gDX pn) (gDY pn) (atW pn wn hn) (atH pn wn hn)) ∧ Fr No w w' := by
  obtain ⟨X, hX⟩ : ∃ X, X = gX pn := ⟨_, rfl⟩
  obtain ⟨Y, hY⟩ : ∃ Y, Y = gY pn := ⟨_, rfl⟩
  obtain ⟨DX, hDX⟩ : ∃ X, X = gDX pn := ⟨_, rfl⟩
  obtain ⟨DY, hDY⟩ : ∃ X, X = gDY pn := ⟨_, rfl⟩
  have x1 := gX_le pn
  have x2 := gY_le pn
  have x3 := gDX_le pn
  have x4 := gDY_le pn
  have hg := grid_calls pn p1 p7
  have hAW : atW pn wn hn = if cnt X DX wn = 0 ∨ cnt Y DY hn = 0 then 0 else cnt X DX wn := by rw [hX, hY, hDX, hDY]; rfl
  have hAH : atH pn wn hn = if cnt X DX wn = 0 ∨ cnt Y DY hn = 0 then 0 else cnt Y DY hn := by rw [hX, hY, hDX, hDY]; rfl
  rw [← hX, ← hY, ← hDX, ← hDY] at hg ⊢
  rw [← hX] at x1
  rw [← hY] at x2
  rw [← hDX] at x3
  rw [← hDY] at x4
  have HG := hid hg
  have HA := hid (And.intro hAW hAH)
  clear hX hY hDX hDY hg hAW hAH
  have i1 : ¬ ((pn : Int) < 1) := by omega
  have i2 : ¬ ((pn : Int) > 7) := by omega
  have i3 : ¬ ((wn : Int) < 1) := by omega
  have i4 : ¬ ((wn : Int) > 2048) := by omega
  have i5 : ¬ ((hn : Int) < 1) := by omega
  have i6 : ¬ ((hn : Int) > 2048) := by omega
  go_enter Try.func16, Try.ntmps16
  go_wp2_with fail
  obtain ⟨wA, hwA⟩ : ∃ wA, wA = w.alloc (.cells #[.int .i64 0, .int .i64 0, .int .i64 0, .int .i64 0, .int .i64 0, .int .i64 0] 24) := ⟨_, rfl⟩
  have hfA : Fr No w wA := by rw [hwA]; exact (Fr.refl _ _).alloc _
  have hbR : wA.heap[w.heap.size]? = some (.cells #[.int .i64 0, .int .i64 0, .int .i64 0, .int .i64 0, .int .i64 0, .int .i64 0] 24 (0, 0)) := by rw [hwA]; exact heap_new _ _
  have hsA : w.heap.size < wA.heap.size := (Array.getElem?_eq_some_iff.1 hbR).1
  rw [← hwA]
  refine (HG.out wA).mono ?_
  rintro e wB ⟨rfl, hfB⟩
  have hbRB := (hfB.block w.heap.size hsA (fun h => h)).trans hbR
  have HB := hid (And.intro (hfA.then hfB) hbRB)
  have hsB : w.heap.size < wB.heap.size := (Array.getElem?_eq_some_iff.1 hbRB).1
  clear hwA hfA hbR hsA hfB hbRB
  go_wp2_with fail
  obtain ⟨wC, hwC⟩ : ∃ wC, wC = (wB.alloc (.cells #[.int .i64 X, .int .i64 Y, .int .i64 DX, .int .i64 DY] 72)).alloc (.cells #[.int .i64 X, .int .i64 Y, .int .i64 DX, .int .i64 DY, .int .i64 0, .int .i64 0] 24) := ⟨_, rfl⟩
  have hfC : Fr No wB wC := by rw [hwC]; exact ((Fr.refl _ _).alloc _).alloc _
  have hb7 : wC.heap[wB.heap.size]? = some (.cells #[.int .i64 X, .int .i64 Y, .int .i64 DX, .int .i64 DY] 72 (0, 0)) := by
    rw [hwC, ((Fr.refl No (wB.alloc _)).alloc _).block wB.heap.size (by rw [World.size_alloc]; omega) (fun h => h)]; exact heap_new _ _
  have hb8 : wC.heap[wB.heap.size + 1]? = some (.cells #[.int .i64 X, .int .i64 Y, .int .i64 DX, .int .i64 DY, .int .i64 0, .int .i64 0] 24 (0, 0)) := by
    have := heap_new (wB.alloc (.cells #[.int .i64 X, .int .i64 Y, .int .i64 DX, .int .i64 DY] 72)) (.cells #[.int .i64 X, .int .i64 Y, .int .i64 DX, .int .i64 DY, .int .i64 0, .int .i64 0] 24)
    rw [World.size_alloc] at this
    rw [hwC]; exact this
  rw [← hwC]
  obtain ⟨g8, hg8⟩ : ∃ g8, g8 = wB.heap.size + 1 := ⟨_, rfl⟩
  obtain ⟨g7, hg7⟩ : ∃ g7, g7 = wB.heap.size := ⟨_, rfl⟩
  have hne : g7 ≠ g8 := by omega
  have hw8 : w.heap.size ≠ g8 := by omega
  have hw8' : w.heap.size < g8 := by omega
  rw [← hg8] at hb8
  rw [← hg7] at hb7
  rw [← hg8, ← hg7]
  have HC := hid (And.intro hb7 (And.intro (HB.out.1.then hfC) ((hfC.block w.heap.size hsB (fun h => h)).trans HB.out.2)))
  have c7 := cnt_le X DX wn w1 x3.2
  have c8 := cnt_le Y DY hn h1 x4.2
  clear hwC hfC hb7 hg8 hg7 HB hsB i1 i2 i3 i4 i5 i6
  have hk7 : ∀ W, Fr (One g8) wC W → W.cell? ⟨g7, 0, none⟩ = some (.int .i64 X) ∧ W.cell? ⟨g7, 1, none⟩ = some (.int .i64 Y) ∧ W.cell? ⟨g7, 2, none⟩ = some (.int .i64 DX) ∧ W.cell? ⟨g7, 3, none⟩ = some (.int .i64 DY) := fun W hf =>
    blk4 ((hf.block g7 (Array.getElem?_eq_some_iff.1 HC.out.1).1 hne).trans HC.out.1)
  have HK := hid hk7
  clear hk7
  go_loopw [9] (fun x wr => ∃ j xx : Nat, x = .int .i64 xx ∧ Hid (xx = X + DX * j ∧ j ≤ cnt X DX wn ∧ wr.heap[g8]? = some (.cells #[.int .i64 X, .int .i64 Y, .int .i64 DX, .int .i64 DY, .int .i64 j, .int .i64 0] 24 (0, 0)) ∧ Fr (One g8) wC wr)) (fun x _ => wn - (intOf x).toNat)
  case atStart => exact ⟨0, X, rfl, by simp, Nat.zero_le _, hb8, Fr.refl _ _⟩
  case round =>
    obtain ⟨j, xx, rfl, HR⟩ := hrel
    have hj3 : j ≤ 3000 := Nat.le_trans HR.out.2.1 c7
    obtain ⟨⟨p0, p1', p2, p3, p4, p5⟩, q0, q1, q2, q3, q4, q5⟩ := blk6 HR.out.2.2.1
    obtain ⟨k0, k1, k2, k3⟩ := HK.out wr HR.out.2.2.2
    by_cases hlt : xx < wn
    · have hlt' : (xx : Int) < (wn : Int) := by omega
      have hjc : j < cnt X DX wn := (cnt_lt X DX wn j x3.1).2 (by rw [← HR.out.1]; exact hlt)
      go_wp2_with fail
      go_roundw
      case rel =>
        refine ⟨j + 1, xx + DX, by go_num, ?_, by omega, ?_, HR.out.2.2.2.then (Fr.set1 _ _ _ _)⟩
        · rw [HR.out.1, Nat.mul_succ]; omega
        · rw [heap_set _ _ _ _ _ _ HR.out.2.2.1]; rfl
      case measure => simp [intOf] <;> omega
    · have hge : ¬ ((xx : Int) < (wn : Int)) := by omega
      have hje : j = cnt X DX wn := by
        have h1 : ¬ j < cnt X DX wn := fun h => hlt (by have := (cnt_lt X DX wn j x3.1).1 h; rw [HR.out.1]; exact this)
        have := HR.out.2.1
        omega
      have HJ := hid hje
      have HR1 := hid (And.intro HR.out.2.2.1 HR.out.2.2.2)
      clear hlt hje HR hb8 x3 c7
      go_wp2_with fail
      go_loopw [10] (fun x wr2 => ∃ i xx : Nat, x = .int .i64 xx ∧ Hid (xx = Y + DY * i ∧ i ≤ cnt Y DY hn ∧ wr2.heap[g8]? = some (.cells #[.int .i64 X, .int .i64 Y, .int .i64 DX, .int .i64 DY, .int .i64 j, .int .i64 i] 24 (0, 0)) ∧ Fr (One g8) wC wr2)) (fun x _ => hn - (intOf x).toNat)
      case atStart => exact ⟨0, Y, rfl, by simp, Nat.zero_le _, HR1.out.1, HR1.out.2⟩
      case round =>
        clear p0 p1' p2 p3 p4 p5 q0 q1 q2 q3 q4 q5 k0 k1 k2 k3
        obtain ⟨i, yy, rfl, HS⟩ := hrel
        have hi3 : i ≤ 3000 := Nat.le_trans HS.out.2.1 c8
        obtain ⟨⟨p0, p1', p2, p3, p4, p5⟩, q0, q1, q2, q3, q4, q5⟩ := blk6 HS.out.2.2.1
        obtain ⟨k0, k1, k2, k3⟩ := HK.out _ HS.out.2.2.2
        by_cases hlt2 : yy < hn
        · have hlt2' : (yy : Int) < (hn : Int) := by omega
          have hic : i < cnt Y DY hn := (cnt_lt Y DY hn i x4.1).2 (by rw [← HS.out.1]; exact hlt2)
          go_wp2_with fail
          go_roundw
          case rel =>
            refine ⟨i + 1, yy + DY, by go_num, ?_, by omega, ?_, HS.out.2.2.2.then (Fr.set1 _ _ _ _)⟩
            · rw [HS.out.1, Nat.mul_succ]; omega
            · rw [heap_set _ _ _ _ _ _ HS.out.2.2.1]; rfl
          case measure => simp [intOf] <;> omega
        · have hge2 : ¬ ((yy : Int) < (hn : Int)) := by omega
          have hie : i = cnt Y DY hn := by
            have h1 : ¬ i < cnt Y DY hn := fun h => hlt2 (by have := (cnt_lt Y DY hn i x4.1).1 h; rw [HS.out.1]; exact this)
            have := HS.out.2.1
            omega
          have HI := hid hie
          have HS1 := hid (And.intro HS.out.2.2.1 HS.out.2.2.2)
          clear hlt2 hie HS c8 x4
          have hrz := (HS1.out.2.block w.heap.size (Array.getElem?_eq_some_iff.1 HC.out.2.2).1 hw8).trans HC.out.2.2
          obtain ⟨⟨r0, r1, r2, r3, r4, r5⟩, s0, s1, s2, s3, s4, s5⟩ := blk6 hrz
          have hFW := HC.out.2.1.trans HS1.out.2 (S' := One g8) (fun k hk (e : k = g8) => by omega)
          have HZ0 := hid (And.intro hrz hFW)
          have hAW := HA.out.1
          have hAH := HA.out.2
          rw [← HJ.out, ← HI.out] at hAW hAH
          have HW := hid (And.intro hAW hAH)
          clear hrz hFW hAW hAH
          have fin : ∀ (W' : World) (a b c d e f : Value), Fr (One g8) w W' → Fr No w ((((((W'.setCell ⟨w.heap.size, 0, none⟩ a).setCell ⟨w.heap.size, 1, none⟩ b).setCell ⟨w.heap.size, 2, none⟩ c).setCell ⟨w.heap.size, 3, none⟩ d).setCell ⟨w.heap.size, 4, none⟩ e).setCell ⟨w.heap.size, 5, none⟩ f) := fun W' a b c d e f hf => by
            have hs : ∀ k, k < w.heap.size → One w.heap.size k → No k := fun k hk e => by have e : k = w.heap.size := e; omega
            exact ((((((hf.mono (S' := No) (fun k hk (e : k = g8) => by omega)).trans (Fr.set1 _ _ _ _) hs).trans (Fr.set1 _ _ _ _) hs).trans (Fr.set1 _ _ _ _) hs).trans (Fr.set1 _ _ _ _) hs).trans (Fr.set1 _ _ _ _) hs).trans (Fr.set1 _ _ _ _) hs
          have HFIN := hid fin
          clear fin
          by_cases hz : j = 0 ∨ i = 0
          · have hb : ((j : Int) == 0) = true ∨ ((j : Int) == 0) = false ∧ ((i : Int) == 0) = true := by
              by_cases hj0 : j = 0
              · exact .inl (by rw [hj0]; rfl)
              · exact .inr ⟨by rw [beq_eq_false_iff_ne]; omega, by rw [beq_iff_eq]; omega⟩
            have HZ := hid hz
            clear hz
            have HZr : Hid (∀ a b, _) := fun a b => ((((Fr.set1 _ g8 4 a).then (Fr.set1 _ g8 5 b)).block w.heap.size (Array.getElem?_eq_some_iff.1 HZ0.out.1).1 hw8)).trans HZ0.out.1
            rcases hb with hb | ⟨hb, hb'⟩
            all_goals
              go_wp2_with fail
              refine ret_pass rfl (x := X) (y := Y) (z := DX) (u := DY) (v := 0) (t := 0) ?_ rfl rfl ?_
              · rw [heap_set _ _ _ _ _ _ (heap_set _ _ _ _ _ _ (heap_set _ _ _ _ _ _ (heap_set _ _ _ _ _ _ (heap_set _ _ _ _ _ _ (heap_set _ _ _ _ _ _ (HZr.out _ _))))))]; rfl
              · rw [HW.out.1, HW.out.2, if_pos HZ.out, if_pos HZ.out]
                exact ⟨rfl, HFIN.out _ _ _ _ _ _ _ ((HZ0.out.2.any.then (Fr.set1 _ _ _ _)).then (Fr.set1 _ _ _ _))⟩
          · have hb : ((j : Int) == 0) = false := by rw [beq_eq_false_iff_ne]; omega
            have hb' : ((i : Int) == 0) = false := by rw [beq_eq_false_iff_ne]; omega
            have HZ := hid hz
            clear hz
            go_wp2_with fail
            refine ret_pass rfl (x := X) (y := Y) (z := DX) (u := DY) (v := j) (t := i) ?_ rfl rfl ?_
            · rw [heap_set _ _ _ _ _ _ (heap_set _ _ _ _ _ _ (heap_set _ _ _ _ _ _ (heap_set _ _ _ _ _ _ (heap_set _ _ _ _ _ _ (heap_set _ _ _ _ _ _ HZ0.out.1)))))]; rfl
            · rw [HW.out.1, HW.out.2, if_neg HZ.out, if_neg HZ.out]
              exact ⟨rfl, HFIN.out _ _ _ _ _ _ _ HZ0.out.2.any⟩
set_option maxRecDepth 100000 in
set_option maxHeartbeats 1600000 in
theorem refAt_calls (p W H : Int) (w : World) : Calls Try.prog 16 #[.int .i64 p, .int .i64 W, .int .i64 H] w fun e w' => e = .returned (atV p W H) ∧ Fr No w w' := by
  by_cases hok : atOk p W H
  · have hok' := hok
    obtain ⟨h1, h2, h3, h4, h5, h6⟩ := hok
    rw [atV_good hok']
    obtain ⟨pn, rfl⟩ : ∃ n : Nat, p = n := ⟨p.toNat, by omega⟩
    obtain ⟨wn, rfl⟩ : ∃ n : Nat, W = n := ⟨W.toNat, by omega⟩
    obtain ⟨hn, rfl⟩ : ∃ n : Nat, H = n := ⟨H.toNat, by omega⟩
    rw [Int.toNat_natCast, Int.toNat_natCast, Int.toNat_natCast]
    exact refAt_good pn wn hn (by omega) (by omega) (by omega) (by omega) (by omega) (by omega) w
  · have HBAD := hid (atV_bad hok)
    unfold atOk at hok
    have hb : p < 1 ∨ ¬ p < 1 ∧ p > 7 ∨ ¬ p < 1 ∧ ¬ p > 7 ∧ W < 1 ∨ ¬ p < 1 ∧ ¬ p > 7 ∧ ¬ W < 1 ∧ W > 2048 ∨ ¬ p < 1 ∧ ¬ p > 7 ∧ ¬ W < 1 ∧ ¬ W > 2048 ∧ H < 1 ∨ ¬ p < 1 ∧ ¬ p > 7 ∧ ¬ W < 1 ∧ ¬ W > 2048 ∧ ¬ H < 1 ∧ H > 2048 := by omega
    clear hok
    rcases hb with hb | ⟨hb1, hb2⟩ | ⟨hb1, hb2, hb3⟩ | ⟨hb1, hb2, hb3, hb4⟩ | ⟨hb1, hb2, hb3, hb4, hb5⟩ | ⟨hb1, hb2, hb3, hb4, hb5, hb6⟩
    all_goals
      go_enter Try.func16, Try.ntmps16
      go_wp2_with fail
      refine ret_pass rfl (x := 0) (y := 0) (z := 0) (u := 0) (v := 0) (t := 0) (heap_new _ _) rfl rfl ?_
      rw [HBAD.out]
      exact ⟨rfl, (Fr.refl No w).alloc _⟩
end Go.Proofs.Ytkhglmmidgfliaa

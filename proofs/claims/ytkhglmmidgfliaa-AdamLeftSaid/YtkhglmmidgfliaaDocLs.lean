/- The contracts of the document's Sized, Lines and Woven. -/
import Derived.Test.YtkhglmmidgfliaaRefRow
namespace Go.Proofs.Ytkhglmmidgfliaa
open Go.RowKit Go.Proofs.HK
set_option linter.unusedVariables false
set_option linter.unusedSimpArgs false
attribute [local go_sem] max2_int min2_int max_two min_two

set_option maxRecDepth 100000 in
set_option maxHeartbeats 800000 in
theorem refSized_calls (W H : Int) (w : World) : Calls Try.prog 49 #[.int .i64 W, .int .i64 H] w fun e w' => e = .returned (.bool (sizS W H)) ∧ w' = w := by
  by_cases h : 0 < W ∧ 0 < H ∧ W ≤ 2048 ∧ H ≤ 2048
  · obtain ⟨h1, h2, h3, h4⟩ := h
    obtain ⟨hw, hp0, hp1⟩ := mul_wrap W H h1 h2 h3 h4
    have i1 : W ≥ 1 := by omega
    have i2 : H ≥ 1 := by omega
    by_cases hp : W * H ≤ 65536
    · have HR := hid (show sizS W H = true from decide_eq_true ⟨h1, h2, h3, h4, hp⟩)
      obtain ⟨P, hP⟩ : ∃ P, P = W * H := ⟨_, rfl⟩
      go_enter Try.func49, Try.ntmps49
      go_wp2
      go_ret
      exact ⟨by rw [HR.out]; rfl, rfl⟩
    · have HR := hid (show sizS W H = false from decide_eq_false (fun h => hp h.2.2.2.2))
      have hp' : decide (W * H ≤ 65536) = false := decide_eq_false hp
      clear hp
      go_enter Try.func49, Try.ntmps49
      go_wp2
      go_ret
      exact ⟨by rw [HR.out]; rfl, rfl⟩
  · have HR := hid (show sizS W H = false from decide_eq_false (fun h' => h ⟨h'.1, h'.2.1, h'.2.2.1, h'.2.2.2.1⟩))
    have hb : ¬ W ≥ 1 ∨ W ≥ 1 ∧ ¬ W ≤ 2048 ∨ W ≥ 1 ∧ W ≤ 2048 ∧ ¬ H ≥ 1 ∨ W ≥ 1 ∧ W ≤ 2048 ∧ H ≥ 1 ∧ ¬ H ≤ 2048 := by omega
    clear h
    rcases hb with hb | ⟨hb1, hb2⟩ | ⟨hb1, hb2, hb3⟩ | ⟨hb1, hb2, hb3, hb4⟩
    all_goals
      go_enter Try.func49, Try.ntmps49
      go_wp2
      go_ret
      exact ⟨by rw [HR.out]; rfl, rfl⟩

/-- e tells a slice of lines, just made. -/
def RetLs (w : World) (its : List (Nat × List (Nat × Nat))) (e : Ending) (w' : World) : Prop :=
  ∃ A k c ob xs, e = .returned (.slice A k c) ∧ NewL w' w.heap.size its A k c ob xs ∧ Fr No w w'
theorem NewL.len {w : World} {lo : Nat} {its : List (Nat × List (Nat × Nat))} {A : Option Addr} {k c : Nat} {ob : Option Nat} {xs : List LN} (h : NewL w lo its A k c ob xs) : its.length = k := by
  have h1 := h.1.1
  rw [lnsC_length] at h1
  rw [← h.2.1, List.length_map]
  omega
/-- A row, and its line is appended. -/
theorem NewL.add {wr w2 w3 : World} {lo : Nat} {its : List (Nat × List (Nat × Nat))} {A A' : Option Addr} {k c c' : Nat} {ob ob' : Option Nat} {xs : List LN} (h : NewL wr lo its A k c ob xs) (hlo : lo ≤ wr.heap.size) (x : LN)
    (hf : Fr No wr w2) (hx : Cells w2 x.A (spotC x.s)) (hA : ∀ ad, x.A = some ad → wr.heap.size ≤ ad.block ∧ ad.block < w2.heap.size)
    (hrow : Row w3 2 (.slice A' (k + 1) c') ob' (k + 1) (lnsC xs ++ lnC x)) (hfr : Fr (Opt ob) w2 w3) (hob : ob' = ob ∨ ∃ j, ob' = some j ∧ w2.heap.size ≤ j) : NewL w3 lo (its ++ [x.it]) A' (k + 1) c' ob' (xs ++ [x]) :=
  (h.fr0 hf).push x ⟨hx, fun ad e => ⟨by have := hA ad e; omega, (hA ad e).2, fun e2 => by have := h.1.lt e2; have := hA ad e; omega⟩⟩ hrow hfr hob (Nat.le_trans hlo hf.size)

set_option maxRecDepth 100000 in
set_option maxHeartbeats 3200000 in
theorem refLines_calls (W H : Int) (laced : Bool) (w : World) : Calls Try.prog 17 #[.int .i64 W, .int .i64 H, .bool laced] w (RetLs w (itsOf W H laced)) := by
  cases hs : sizS W H with
  | false =>
    have HP := hid (show itsOf W H laced = [] by unfold itsOf psOf; rw [hs]; rfl)
    go_enter Try.func17, Try.ntmps17
    go_wp2_with fail
    refine (refSized_calls W H _).mono ?_
    rw [hs]
    rintro e w1 ⟨rfl, hw1⟩
    rw [hw1]
    clear hw1 w1
    go_wp2_with fail
    go_ret
    rw [HP.out]
    exact ⟨none, 0, 0, none, [], rfl, NewL.nil _ _, Fr.refl _ _⟩
  | true =>
    obtain ⟨h1, h2, h3, h4⟩ := siz_facts hs
    obtain ⟨wn, rfl⟩ : ∃ n : Nat, W = n := ⟨W.toNat, by omega⟩
    obtain ⟨hn, rfl⟩ : ∃ n : Nat, H = n := ⟨H.toNat, by omega⟩
    have HSZ := hid hs
    cases laced with
    | false =>
      have HP := hid (show itsOf wn hn false = linesUpto 1 ⟨0, 0, 1, 1, wn, hn⟩ hn by unfold itsOf psOf; rw [hs]; simp [itemsF, linesOf, linesUpto])
      clear hs
      go_enter Try.func17, Try.ntmps17
      go_wp2_with fail
      refine (refSized_calls wn hn _).mono ?_
      rw [HSZ.out]
      rintro e w1 ⟨rfl, hw1⟩
      rw [hw1]
      clear hw1 w1
      go_wp2_with fail
      go_loopw [7, 8] (fun v y wr => ∃ (k : Nat) (A : Option Addr) (c : Nat) (ob : Option Nat) (xs : List LN), y = .int .i64 k ∧ v = .slice A k c ∧ Hid (k ≤ hn ∧ NewL wr w.heap.size (linesUpto 1 ⟨0, 0, 1, 1, wn, hn⟩ k) A k c ob xs ∧ Fr No w wr)) (fun _ y _ => hn - (intOf y).toNat)
      case atStart => exact ⟨0, none, 0, none, [], rfl, rfl, Nat.zero_le _, NewL.nil _ _, Fr.refl _ _⟩
      case round =>
        obtain ⟨k, A, c, ob, xs, rfl, rfl, HR⟩ := hrel
        by_cases hlt : k < hn
        · have hlt' : (k : Int) < (hn : Int) := by omega
          go_wp2_with fail
          refine (refRow_calls 1 0 k 1 wn (by omega) (by omega) (by omega) (by omega) (by omega) (by omega) _).mono ?_
          rintro e w2 ⟨x, rfl, hxp, hxs, hxc, hxA, hf2⟩
          have HX := hid (And.intro hxp (And.intro hxs (And.intro hxc (And.intro hxA hf2))))
          clear hxp hxs hxc hxA hf2
          go_wp2_with (at_builtin; refine wpList_app1 slLine rfl (.tmp 23) (.tmp 27) rfl rfl (HR.out.2.1.1.fr HX.out.2.2.2.2 (fun _ _ h => h)) rfl (m := 1) (c := 1) (ys := lnC x) rfl (by simp [lnC, Value.oneCell']) (by omega) (by omega) ?_; intro A2 c2 w3 ob2 hrow2 hfr2 hob2)
          go_roundw
          case rel =>
            refine ⟨k + 1, A2, c2, ob2, xs ++ [x], by go_num, rfl, by omega, ?_, (HR.out.2.2.then HX.out.2.2.2.2).fresh hfr2 HR.out.2.1.2.2.2⟩
            rw [linesUpto_succ]
            have hx : x.it = (1, spotRow 0 0 1 1 wn k) := by
              unfold LN.it
              rw [HX.out.1, HX.out.2.1]
              have := refRow_spot 0 0 1 1 wn k
              have e : cnt 0 1 wn = wn := by unfold cnt; simp
              rw [e, Nat.zero_add, Nat.mul_one] at this
              rw [this]
            rw [← hx]
            exact HR.out.2.1.add HR.out.2.2.size x HX.out.2.2.2.2 HX.out.2.2.1 HX.out.2.2.2.1 hrow2 hfr2 hob2
          case measure => simp [intOf] <;> omega
        · have hge : ¬ ((k : Int) < (hn : Int)) := by omega
          have hke := hid (show k = hn by have := HR.out.1; omega)
          clear hlt
          go_wp2_with fail
          go_ret
          rw [HP.out]
          refine ⟨A, k, c, ob, xs, rfl, ?_, HR.out.2.2⟩
          have := HR.out.2.1
          rwa [hke.out] at this ⊢
    | true =>
      have HP := hid (show itsOf wn hn true = itemsF 0 (psR wn hn 7) by rw [items_ref]; unfold itsOf psOf; rw [hs]; simp)
      clear hs
      go_enter Try.func17, Try.ntmps17
      go_wp2_with fail
      refine (refSized_calls wn hn _).mono ?_
      rw [HSZ.out]
      rintro e w1 ⟨rfl, hw1⟩
      rw [hw1]
      clear hw1 w1
      go_wp2_with fail
      go_loopw [7, 9] (fun v y wr => ∃ (pn q k : Nat) (A : Option Addr) (c : Nat) (ob : Option Nat) (xs : List LN), y = .int .i64 pn ∧ v = .slice A k c ∧ Hid (pn = q + 1 ∧ q ≤ 7 ∧ k ≤ q * 3000 ∧ NewL wr w.heap.size (itemsF 0 (psR wn hn q)) A k c ob xs ∧ Fr No w wr)) (fun _ y _ => 8 - (intOf y).toNat)
      case atStart => exact ⟨1, 0, 0, none, 0, none, [], rfl, rfl, rfl, by omega, by omega, NewL.nil _ _, Fr.refl _ _⟩
      case round =>
        obtain ⟨pn, q, k, A, c, ob, xs, rfl, rfl, HR⟩ := hrel
        have hpn1 : 1 ≤ pn := by have := HR.out.1; omega
        by_cases hlt : pn ≤ 7
        · have hlt' : (pn : Int) ≤ 7 := by omega
          obtain ⟨X, hX⟩ : ∃ X, X = gX pn := ⟨_, rfl⟩
          obtain ⟨Y, hY⟩ : ∃ Y, Y = gY pn := ⟨_, rfl⟩
          obtain ⟨DX, hDX⟩ : ∃ X, X = gDX pn := ⟨_, rfl⟩
          obtain ⟨DY, hDY⟩ : ∃ X, X = gDY pn := ⟨_, rfl⟩
          obtain ⟨P, hP⟩ : ∃ P, P = refP pn wn hn := ⟨_, rfl⟩
          have x1 := gX_le pn
          have x2 := gY_le pn
          have x3 := gDX_le pn
          have x4 := gDY_le pn
          have hg := grid_calls pn hpn1 hlt
          have hPP : P = ⟨X, Y, DX, DY, cnt X DX wn, if X < wn then cnt Y DY hn else 0⟩ := by rw [hP, hX, hY, hDX, hDY]; rfl
          rw [← hX, ← hY, ← hDX, ← hDY] at hg
          rw [← hX] at x1
          rw [← hY] at x2
          rw [← hDX] at x3
          rw [← hDY] at x4
          have hPH : P.H ≤ 3000 := by
            have := cnt_le Y DY hn (by omega) x4.2
            rw [hPP]; show (if X < wn then cnt Y DY hn else 0) ≤ 3000
            split <;> omega
          have HG := hid hg
          have HPP := hid hPP
          have HPQ := hid hP
          clear hX hY hDX hDY hg hP hPP
          go_wp2_with fail
          refine (HG.out _).mono ?_
          rintro e wB ⟨rfl, hfB⟩
          go_wp2_with fail
          obtain ⟨g, hgb⟩ : ∃ g, g = wB.heap.size := ⟨_, rfl⟩
          obtain ⟨wC, hwC⟩ : ∃ wC, wC = wB.alloc (.cells #[.int .i64 X, .int .i64 Y, .int .i64 DX, .int .i64 DY] 72) := ⟨_, rfl⟩
          have hbC : wC.heap[g]? = some (.cells #[.int .i64 X, .int .i64 Y, .int .i64 DX, .int .i64 DY] 72 (0, 0)) := by rw [hwC, hgb]; exact heap_new _ _
          have hfC : Fr No wr wC := by rw [hwC]; exact hfB.alloc _
          have hgr : ob ≠ some g := fun e => by have := HR.out.2.2.2.1.1.lt e; have := hfB.size; omega
          rw [← hwC, ← hgb]
          have HC := hid (And.intro hbC (And.intro (HR.out.2.2.2.2.then hfC) hgr))
          have HN0 := hid (HR.out.2.2.2.1.fr0 hfC)
          clear hwC hgb hfB hbC hfC hgr
          have hk4 := blk4 HC.out.1
          obtain ⟨k0, k1, k2, k3⟩ := hk4
          go_loopw [7, 11] (fun v y wr2 => ∃ (r yy k2 : Nat) (A : Option Addr) (c : Nat) (ob : Option Nat) (xs : List LN), y = .int .i64 yy ∧ v = .slice A k2 c ∧ Hid (yy = Y + r * DY ∧ r ≤ P.H ∧ k2 = k + r ∧ NewL wr2 w.heap.size (itemsF 0 (psR wn hn q) ++ linesUpto pn P r) A k2 c ob xs ∧
              wr2.heap[g]? = some (.cells #[.int .i64 X, .int .i64 Y, .int .i64 DX, .int .i64 DY] 72 (0, 0)) ∧ Fr No w wr2 ∧ ob ≠ some g)) (fun _ y _ => hn - (intOf y).toNat)
          case atStart => exact ⟨0, Y, k, A, c, ob, xs, rfl, rfl, by simp, Nat.zero_le _, by simp, by simpa [linesUpto] using HN0.out, HC.out⟩
          case round =>
            clear k0 k1 k2 k3
            obtain ⟨r, yy, k2, A1, c1, ob1, xs1, rfl, rfl, HS⟩ := hrel
            obtain ⟨k0, k1, k2', k3⟩ := blk4 HS.out.2.2.2.2.1
            have hPHe : P.H = if X < wn then cnt Y DY hn else 0 := by rw [HPP.out]
            have hyy : yy ≤ 30000 := by
              have h1 := HS.out.1
              have h2 : r * DY ≤ 3000 * 8 := Nat.mul_le_mul (Nat.le_trans HS.out.2.1 hPH) x4.2
              omega
            by_cases hgo : yy < hn ∧ X < wn
            · obtain ⟨hy2, hx2⟩ := hgo
              have hy2' : (yy : Int) < (hn : Int) := by omega
              have hx2' : (X : Int) < (wn : Int) := by omega
              rw [if_pos hx2] at hPHe
              have hrl : r < P.H := by rw [hPHe]; exact (cnt_lt Y DY hn r x4.1).2 (by rw [Nat.mul_comm, ← HS.out.1]; exact hy2)
              have hk2 : k2 ≤ 24000 := by
                have := HS.out.2.2.1
                have := HR.out.2.2.1
                have := HR.out.2.1
                have := HR.out.1
                omega
              clear hPHe
              go_wp2_with fail
              refine (refRow_calls pn X yy DX wn (by omega) (by omega) (by omega) (by omega) (by omega) (by omega) _).mono ?_
              rintro e w2 ⟨x, rfl, hxp, hxs, hxc, hxA, hf2⟩
              have hg2 := (hf2.block g (Array.getElem?_eq_some_iff.1 HS.out.2.2.2.2.1).1 (fun h => h)).trans HS.out.2.2.2.2.1
              have HX := hid (And.intro hxp (And.intro hxs (And.intro hxc (And.intro hxA (And.intro hf2 hg2)))))
              clear hxp hxs hxc hxA hf2 hg2 k0 k1 k2' k3
              go_wp2_with (at_builtin; refine wpList_app1 slLine rfl (.tmp 51) (.tmp 60) rfl rfl (HS.out.2.2.2.1.1.fr HX.out.2.2.2.2.1 (fun _ _ h => h)) rfl (m := 1) (c := 1) (ys := lnC x) rfl (by simp [lnC, Value.oneCell']) (by omega) (by omega) ?_; intro A2 c2 w3 ob2 hrow2 hfr2 hob2; have HF := hid (And.intro hrow2 (And.intro hfr2 hob2)); have hg3 := (hfr2.block g (Array.getElem?_eq_some_iff.1 HX.out.2.2.2.2.2).1 (fun e => HS.out.2.2.2.2.2.2 e.symm)).trans HX.out.2.2.2.2.2; have HG3 := hid hg3; obtain ⟨l0, l1, l2, l3⟩ := blk4 hg3; clear hg3 hrow2 hfr2 hob2)
              go_roundw
              case rel =>
                refine ⟨r + 1, yy + DY, k2 + 1, A2, c2, ob2, xs1 ++ [x], by go_num, rfl, by rw [HS.out.1, Nat.succ_mul]; omega, hrl, by have := HS.out.2.2.1; omega, ?_, HG3.out, (HS.out.2.2.2.2.2.1.then HX.out.2.2.2.2.1).fresh HF.out.2.1 HS.out.2.2.2.1.2.2.2, ?_⟩
                · have hx : x.it = (pn, spotRow P.X P.Y P.DX P.DY P.W r) := by
                    unfold LN.it
                    rw [HX.out.1, HX.out.2.1, HS.out.1, refRow_spot, HPP.out]
                  rw [linesUpto_succ, ← List.append_assoc, ← hx]
                  exact HS.out.2.2.2.1.add HS.out.2.2.2.2.2.1.size x HX.out.2.2.2.2.1 HX.out.2.2.1 HX.out.2.2.2.1 HF.out.1 HF.out.2.1 HF.out.2.2
                · rcases HF.out.2.2 with e | ⟨j, e, hj⟩
                  · rw [e]; exact HS.out.2.2.2.2.2.2
                  · rw [e]; intro e2; injection e2 with e2
                    have := (Array.getElem?_eq_some_iff.1 HX.out.2.2.2.2.2).1; omega
              case measure => simp [intOf] <;> omega
            · have hre := hid (show r = P.H by
                have h1 := HS.out.2.1
                by_cases hx2 : X < wn
                · rw [if_pos hx2] at hPHe
                  have : ¬ r < P.H := fun h => hgo ⟨by have := (cnt_lt Y DY hn r x4.1).1 (by rw [← hPHe]; exact h); rw [HS.out.1, Nat.mul_comm]; exact this, hx2⟩
                  omega
                · rw [if_neg hx2] at hPHe; omega)
              clear hPHe
              have hk2 := HS.out.2.2.1
              have hnl := HS.out.2.2.2.1
              have hpq := hid (show itemsF 0 (psR wn hn (q + 1)) = itemsF 0 (psR wn hn q) ++ linesUpto pn P P.H by
                rw [psR_succ, itemsF_snoc, psR_length, linesUpto_all, HPQ.out, HR.out.1, Nat.zero_add])
              rw [hre.out, ← hpq.out] at hnl
              have HE := hid (And.intro hk2 (And.intro hnl HS.out.2.2.2.2.2.1))
              clear hk2 hnl
              by_cases hy2 : yy < hn
              · have hy2' : (yy : Int) < (hn : Int) := by omega
                have hx2' : ¬ (X : Int) < (wn : Int) := fun h => hgo ⟨hy2, by omega⟩
                clear hgo
                go_wp2_with fail
                go_roundw
                case rel => exact ⟨pn + 1, q + 1, k2, A1, c1, ob1, xs1, by go_num, rfl, by have := HR.out.1; omega, by have := HR.out.1; omega, by have := HE.out.1; have := HR.out.2.2.1; have := HS.out.2.1; omega, HE.out.2.1, HE.out.2.2⟩
                case measure => simp [intOf] <;> omega
              · have hy2' : ¬ (yy : Int) < (hn : Int) := by omega
                clear hgo
                go_wp2_with fail
                go_roundw
                case rel => exact ⟨pn + 1, q + 1, k2, A1, c1, ob1, xs1, by go_num, rfl, by have := HR.out.1; omega, by have := HR.out.1; omega, by have := HE.out.1; have := HR.out.2.2.1; have := HS.out.2.1; omega, HE.out.2.1, HE.out.2.2⟩
                case measure => simp [intOf] <;> omega
        · have hge : ¬ ((pn : Int) ≤ 7) := by omega
          have hq := hid (show q = 7 by have := HR.out.1; have := HR.out.2.1; omega)
          clear hlt
          go_wp2_with fail
          go_ret
          rw [HP.out]
          refine ⟨A, k, c, ob, xs, rfl, ?_, HR.out.2.2.2.2⟩
          have := HR.out.2.2.2.1
          rwa [hq.out] at this
end Go.Proofs.Ytkhglmmidgfliaa

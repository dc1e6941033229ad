/- The contract of the document's Woven. -/
import Derived.Test.YtkhglmmidgfliaaDocLs
namespace Go.Proofs.Ytkhglmmidgfliaa
open Go.RowKit Go.Proofs.HK
set_option linter.unusedVariables false
set_option linter.unusedSimpArgs false
attribute [local go_sem] max2_int min2_int max_two min_two

def itsWov (W H : Int) (laced : Bool) : List (Nat × List (Nat × Nat)) := itemsF 0 (psWov W H laced)
def gtab : List Value := [.int .i64 0, .int .i64 8, .int .i64 4, .int .i64 8, .int .i64 2, .int .i64 4, .int .i64 1, .int .i64 2]
theorem cells2 {w : World} {ad : Addr} {l : List Value} {i : Nat} {a b : Value} (h : Cells w (some ad) l) (h1 : l[i * 2]? = some a) (h2 : l[i * 2 + 1]? = some b) :
    w.cell? (ad.add (i * 2)) = some a ∧ w.cell? ⟨(ad.add (i * 2)).block, (ad.add (i * 2)).off + 1, none⟩ = some b := by
  obtain ⟨ad', e, hc⟩ := h (by have := (List.getElem?_eq_some_iff.1 h1).1; omega)
  injection e with e
  subst e
  exact ⟨hc _ _ h1, cellAt (j := 0) (hc _ _ h2)⟩
theorem gtab_get (k : Nat) (h : k < 4) : gtab[k * 2]? = some (.int .i64 (wY k)) ∧ gtab[k * 2 + 1]? = some (.int .i64 (wDY k)) := by
  have : k = 0 ∨ k = 1 ∨ k = 2 ∨ k = 3 := by omega
  rcases this with rfl | rfl | rfl | rfl <;> exact ⟨rfl, rfl⟩
set_option maxRecDepth 100000 in
set_option maxHeartbeats 3200000 in
theorem refWoven_calls (W H : Int) (laced : Bool) (w : World) : Calls Try.prog 21 #[.int .i64 W, .int .i64 H, .bool laced] w (RetLs w (itsWov W H laced)) := by
  cases laced with
  | false =>
    have HP := hid (show itsWov W H false = itsOf W H false by unfold itsWov itsOf psWov; rw [if_neg (by simp)])
    go_enter Try.func21, Try.ntmps21
    go_wp2_with fail
    refine (refLines_calls W H false _).mono ?_
    rintro e w2 ⟨A, k, c, ob, xs, rfl, hN, hf2⟩
    go_wp2_with fail
    go_ret
    rw [HP.out]
    exact ⟨A, k, c, ob, xs, rfl, hN, hf2⟩
  | true =>
    cases hs : sizS W H with
    | false =>
      have HP := hid (show itsWov W H true = [] by unfold itsWov psWov psOf; rw [hs]; simp [itemsF])
      go_enter Try.func21, Try.ntmps21
      go_wp2_with fail
      refine (refSized_calls W H _).mono ?_
      rw [hs]
      rintro e w1 ⟨rfl, hw1⟩
      rw [hw1]
      clear hw1 w1
      go_wp2_with fail
      go_ret
      rw [HP.out]
      exact ⟨none, 0, 0, none, [], rfl, NewL.nil _ _, Fr.refl _ _⟩
    | true =>
      obtain ⟨h1, h2, h3, h4⟩ := siz_facts hs
      obtain ⟨wn, rfl⟩ : ∃ n : Nat, W = n := ⟨W.toNat, by omega⟩
      obtain ⟨hn, rfl⟩ : ∃ n : Nat, H = n := ⟨H.toNat, by omega⟩
      have HSZ := hid hs
      have HP := hid (show itsWov wn hn true = itemsF 0 (psW wn hn 4) by unfold itsWov psWov; rw [hs]; simp)
      clear hs
      go_enter Try.func21, Try.ntmps21
      go_wp2_with fail
      refine (refSized_calls wn hn _).mono ?_
      rw [HSZ.out]
      rintro e w1 ⟨rfl, hw1⟩
      rw [hw1]
      clear hw1 w1
      go_wp2_with fail
      obtain ⟨w1, hw1⟩ : ∃ w1, w1 = w.alloc (.cells gtab.toArray 76) := ⟨_, rfl⟩
      have hw1' : w.alloc (.cells #[.int .i64 0, .int .i64 8, .int .i64 4, .int .i64 8, .int .i64 2, .int .i64 4, .int .i64 1, .int .i64 2] 76) = w1 := hw1.symm
      obtain ⟨ad, had⟩ : ∃ ad : Addr, ad = ⟨w.heap.size, 0, none⟩ := ⟨_, rfl⟩
      have hcell : Cells w1 (some ad) gtab := by rw [hw1, had]; exact cells_new _ _ _
      have hf1 : Fr No w w1 := by rw [hw1]; exact (Fr.refl _ _).alloc _
      rw [hw1', ← had]
      have HC := hid (And.intro hcell hf1)
      clear hw1 hw1' had hcell hf1
      go_loopw [7, 26] (fun v i wr => ∃ (q k : Nat) (A : Option Addr) (c : Nat) (ob : Option Nat) (xs : List LN), i = .int .i64 q ∧ v = .slice A k c ∧ Hid (q ≤ 4 ∧ k ≤ q * 3000 ∧ NewL wr w1.heap.size (itemsF 0 (psW wn hn q)) A k c ob xs ∧ Fr No w1 wr)) (fun _ i _ => 4 - (intOf i).toNat)
      case atStart => exact ⟨0, 0, none, 0, none, [], rfl, rfl, by omega, by omega, NewL.nil _ _, Fr.refl _ _⟩
      case round =>
        obtain ⟨q, k, A, c, ob, xs, rfl, rfl, HR⟩ := hrel
        by_cases hlt : q < 4
        · have hlt' : (q : Int) < 4 := by omega
          obtain ⟨y1, y2, y3, y4⟩ := wY_lt q
          have hgt := gtab_get q hlt
          obtain ⟨P, hP⟩ : ∃ P, P = wPN wn hn q := ⟨_, rfl⟩
          obtain ⟨Y, hY⟩ : ∃ Y, Y = wY q := ⟨_, rfl⟩
          obtain ⟨DY, hD⟩ : ∃ D, D = wDY q := ⟨_, rfl⟩
          rw [← hY] at hgt y1 y2
          rw [← hD] at hgt y2 y3 y4
          have hPP : P = ⟨0, Y, 1, DY, wn, cnt Y DY hn⟩ := by rw [hP, hY, hD]; rfl
          have hPH : P.H ≤ 3000 := by rw [hPP]; exact cnt_le Y DY hn (by omega) y3
          have HPP := hid hPP
          have HPQ := hid hP
          obtain ⟨q0, q1⟩ := cells2 (HC.out.1.fr HR.out.2.2.2 (fun _ _ h => h)) hgt.1 hgt.2
          clear hP hY hD hPP hgt
          go_wp2_with fail
          obtain ⟨g, hgb⟩ : ∃ g, g = wr.heap.size := ⟨_, rfl⟩
          obtain ⟨wC, hwC⟩ : ∃ wC, wC = wr.alloc (.cells #[.int .i64 Y, .int .i64 DY] 76) := ⟨_, rfl⟩
          have hbC : wC.heap[g]? = some (.cells #[.int .i64 Y, .int .i64 DY] 76 (0, 0)) := by rw [hwC, hgb]; exact heap_new _ _
          have hfC : Fr No wr wC := by rw [hwC]; exact (Fr.refl _ _).alloc _
          have hgr : ob ≠ some g := fun e => by have := HR.out.2.2.1.1.lt e; omega
          rw [← hwC, ← hgb]
          have HC2 := hid (And.intro hbC (And.intro (HR.out.2.2.2.then hfC) hgr))
          have HN0 := hid (HR.out.2.2.1.fr0 hfC)
          clear hwC hgb hbC hfC hgr q0 q1
          obtain ⟨k0, k1, _, _⟩ := blk2 HC2.out.1
          go_loopw [7, 10] (fun v y wr2 => ∃ (r yy k2 : Nat) (A : Option Addr) (c : Nat) (ob : Option Nat) (xs : List LN), y = .int .i64 yy ∧ v = .slice A k2 c ∧ Hid (yy = Y + r * DY ∧ r ≤ P.H ∧ k2 = k + r ∧ NewL wr2 w1.heap.size (itemsF 0 (psW wn hn q) ++ linesUpto (q + 1) P r) A k2 c ob xs ∧
              wr2.heap[g]? = some (.cells #[.int .i64 Y, .int .i64 DY] 76 (0, 0)) ∧ Fr No w1 wr2 ∧ ob ≠ some g)) (fun _ y _ => hn - (intOf y).toNat)
          case atStart => exact ⟨0, Y, k, A, c, ob, xs, rfl, rfl, by simp, Nat.zero_le _, by simp, by simpa [linesUpto] using HN0.out, HC2.out⟩
          case round =>
            clear k0 k1
            obtain ⟨r, yy, k2, A1, c1, ob1, xs1, rfl, rfl, HS⟩ := hrel
            obtain ⟨k0, k1, _, _⟩ := blk2 HS.out.2.2.2.2.1
            have hPHe : P.H = cnt Y DY hn := by rw [HPP.out]
            have hyy : yy ≤ 30000 := by
              have h1 := HS.out.1
              have h2 : r * DY ≤ 3000 * 8 := Nat.mul_le_mul (Nat.le_trans HS.out.2.1 hPH) y3
              omega
            by_cases hy2 : yy < hn
            · have hy2' : (yy : Int) < (hn : Int) := by omega
              have hrl : r < P.H := by rw [hPHe]; exact (cnt_lt Y DY hn r (by omega)).2 (by rw [Nat.mul_comm, ← HS.out.1]; exact hy2)
              have hk2 : k2 ≤ 24000 := by
                have := HS.out.2.2.1
                have := HR.out.2.1
                omega
              clear hPHe
              go_wp2_with fail
              refine (refRow_calls (q + 1) 0 yy 1 wn (by omega) (by omega) (by omega) (by omega) (by omega) (by omega) _).mono ?_
              rintro e w2 ⟨x, rfl, hxp, hxs, hxc, hxA, hf2⟩
              have hg2 := (hf2.block g (Array.getElem?_eq_some_iff.1 HS.out.2.2.2.2.1).1 (fun h => h)).trans HS.out.2.2.2.2.1
              have HX := hid (And.intro hxp (And.intro hxs (And.intro hxc (And.intro hxA (And.intro hf2 hg2)))))
              clear hxp hxs hxc hxA hf2 hg2 k0 k1
              go_wp2_with (at_builtin; refine wpList_app1 slLine rfl (.tmp 40) (.tmp 46) rfl rfl (HS.out.2.2.2.1.1.fr HX.out.2.2.2.2.1 (fun _ _ h => h)) rfl (m := 1) (c := 1) (ys := lnC x) rfl (by simp [lnC, Value.oneCell']) (by omega) (by omega) ?_; intro A2 c2 w3 ob2 hrow2 hfr2 hob2; have HF := hid (And.intro hrow2 (And.intro hfr2 hob2)); have hg3 := (hfr2.block g (Array.getElem?_eq_some_iff.1 HX.out.2.2.2.2.2).1 (fun e => HS.out.2.2.2.2.2.2 e.symm)).trans HX.out.2.2.2.2.2; have HG3 := hid hg3; obtain ⟨l0, l1, _, _⟩ := blk2 hg3; clear hg3 hrow2 hfr2 hob2)
              go_roundw
              case rel =>
                refine ⟨r + 1, yy + DY, k2 + 1, A2, c2, ob2, xs1 ++ [x], by go_num, rfl, by rw [HS.out.1, Nat.succ_mul]; omega, hrl, by have := HS.out.2.2.1; omega, ?_, HG3.out, (HS.out.2.2.2.2.2.1.then HX.out.2.2.2.2.1).fresh HF.out.2.1 HS.out.2.2.2.1.2.2.2, ?_⟩
                · have hx : x.it = (q + 1, spotRow P.X P.Y P.DX P.DY P.W r) := by
                    unfold LN.it
                    have e : cnt 0 1 wn = wn := by unfold cnt; simp
                    rw [HX.out.1, HX.out.2.1, HS.out.1, refRow_spot, HPP.out, e]
                  rw [linesUpto_succ, ← List.append_assoc, ← hx]
                  exact HS.out.2.2.2.1.add HS.out.2.2.2.2.2.1.size x HX.out.2.2.2.2.1 HX.out.2.2.1 HX.out.2.2.2.1 HF.out.1 HF.out.2.1 HF.out.2.2
                · rcases HF.out.2.2 with e | ⟨j, e, hj⟩
                  · rw [e]; exact HS.out.2.2.2.2.2.2
                  · rw [e]; intro e2; injection e2 with e2
                    have := (Array.getElem?_eq_some_iff.1 HX.out.2.2.2.2.2).1; omega
              case measure => simp [intOf] <;> omega
            · have hy2' : ¬ (yy : Int) < (hn : Int) := by omega
              have hre := hid (show r = P.H by
                have h1 := HS.out.2.1
                have : ¬ r < P.H := fun h => hy2 (by have := (cnt_lt Y DY hn r (by omega)).1 (by rw [← hPHe]; exact h); rw [HS.out.1, Nat.mul_comm]; exact this)
                omega)
              clear hPHe
              have hk2 := HS.out.2.2.1
              have hnl := HS.out.2.2.2.1
              have hpq := hid (show itemsF 0 (psW wn hn (q + 1)) = itemsF 0 (psW wn hn q) ++ linesUpto (q + 1) P P.H by
                rw [psW_succ, itemsF_snoc, psW_length, linesUpto_all, HPQ.out, Nat.zero_add])
              rw [hre.out, ← hpq.out] at hnl
              have HE := hid (And.intro hk2 (And.intro hnl HS.out.2.2.2.2.2.1))
              clear hk2 hnl hy2
              go_wp2_with fail
              go_roundw
              case rel => exact ⟨q + 1, k2, A1, c1, ob1, xs1, by go_num, rfl, by omega, by have := HE.out.1; have := HR.out.2.1; have := HS.out.2.1; omega, HE.out.2.1, HE.out.2.2⟩
              case measure => simp [intOf] <;> omega
        · have hge : ¬ ((q : Int) < 4) := by omega
          have hq := hid (show q = 4 by have := HR.out.1; omega)
          clear hlt
          go_wp2_with fail
          go_ret
          rw [HP.out]
          have hN := HR.out.2.2.1
          rw [hq.out] at hN
          have hsz := HC.out.2.size
          exact ⟨A, k, c, ob, xs, rfl, ⟨hN.1, hN.2.1, fun x hx => ⟨(hN.2.2.1 x hx).1, fun ad e => ⟨Nat.le_trans hsz ((hN.2.2.1 x hx).2 ad e).1, ((hN.2.2.1 x hx).2 ad e).2⟩⟩, fun b hb => Nat.le_trans hsz (hN.2.2.2 b hb)⟩, HC.out.2.then HR.out.2.2.2⟩
end Go.Proofs.Ytkhglmmidgfliaa

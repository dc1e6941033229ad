/- The contract of adam.Woven. -/
import Derived.Test.YtkhglmmidgfliaaCount
namespace Go.Proofs.Ytkhglmmidgfliaa
open Go.RowKit Go.Proofs.HK
set_option linter.unusedVariables false
set_option linter.unusedSimpArgs false
attribute [local go_sem] max2_int min2_int max_two min_two

def wY : Nat → Nat | 0 => 0 | 1 => 4 | 2 => 2 | _ => 1
def wDY : Nat → Nat | 0 => 8 | 1 => 8 | 2 => 4 | _ => 2
theorem wY_lt (k : Nat) : wY k ≤ 4 ∧ wY k < wDY k ∧ wDY k ≤ 8 ∧ 2 ≤ wDY k := by
  unfold wY wDY; split <;> simp
def wPN (w h k : Nat) : PN := ⟨0, wY k, 1, wDY k, w, cnt (wY k) (wDY k) h⟩
def psW (w h n : Nat) : List PN := (List.range n).map fun k => wPN w h k
theorem psW_succ (w h n : Nat) : psW w h (n + 1) = psW w h n ++ [wPN w h n] := by simp [psW, List.range_succ]
def ps0 : List PN := [⟨0, 0, 0, 8, 0, 0⟩, ⟨0, 4, 0, 8, 0, 0⟩, ⟨0, 2, 0, 4, 0, 0⟩, ⟨0, 1, 0, 2, 0, 0⟩]
theorem ps0_get (k : Nat) (h : k < ps0.length) : ps0[k] = ⟨0, wY k, 0, wDY k, 0, 0⟩ := by
  have h : k < 4 := h
  have : k = 0 ∨ k = 1 ∨ k = 2 ∨ k = 3 := by omega
  rcases this with rfl | rfl | rfl | rfl <;> rfl
def psWov (W H : Int) (laced : Bool) : List PN := if laced = true ∧ sizS W H = true then psW W.toNat H.toNat 4 else psOf W H false
theorem psWov_ok (W H : Int) (laced : Bool) : (∀ p ∈ psWov W H laced, p.ok) ∧ (psWov W H laced).length ≤ 100 := by
  unfold psWov
  by_cases h : laced = true ∧ sizS W H = true
  · rw [if_pos h]
    obtain ⟨h1, h2, h3, h4⟩ := siz_facts h.2
    refine ⟨fun p hp => ?_, by simp [psW]⟩
    obtain ⟨k, _, rfl⟩ := List.mem_map.1 hp
    have := wY_lt k
    have := cnt_le (wY k) (wDY k) H.toNat (by omega) (by omega)
    refine ⟨?_, ?_, ?_, ?_, ?_, ?_⟩ <;> simp only [wPN] <;> omega
  · rw [if_neg h]; exact psOf_ok _ _ _

theorem keepYD {w : World} {g i : Nat} {u : Value} {a b : Option Value} (h1 : i ≠ 1) (h3 : i ≠ 3) (h : w.cell? ⟨g, 1, none⟩ = a ∧ w.cell? ⟨g, 3, none⟩ = b) :
    (w.setCell ⟨g, i, none⟩ u).cell? ⟨g, 1, none⟩ = a ∧ (w.setCell ⟨g, i, none⟩ u).cell? ⟨g, 3, none⟩ = b := by
  rw [World.cell?_setCell_other _ _ _ _ (by intro e; injection e; omega), World.cell?_setCell_other _ _ _ _ (by intro e; injection e; omega)]; exact h
set_option maxRecDepth 100000 in
set_option maxHeartbeats 3200000 in
theorem woven_calls (W H : Int) (laced : Bool) (w : World) : Calls Try.prog 47 #[.int .i64 W, .int .i64 H, .bool laced] w fun e w' => ∃ v, e = .returned v ∧ IterV w' v (psWov W H laced) w.heap.size w'.heap.size ∧ Fr No w w' := by
  cases laced with
  | false =>
    have HP := hid (show psWov W H false = psOf W H false by unfold psWov; rw [if_neg (by simp)])
    go_enter Try.func47, Try.ntmps47
    go_wp2_with fail
    refine (lines_calls W H false _).mono ?_
    rintro e w2 ⟨v, rfl, hI, hf2⟩
    go_wp2_with fail
    go_ret
    rw [HP.out]
    exact ⟨v, rfl, hI, hf2⟩
  | true =>
    cases hs : sizS W H with
    | false =>
      have HP := hid (show psWov W H true = psOf W H false by unfold psWov; rw [hs, if_neg (by simp)])
      go_enter Try.func47, Try.ntmps47
      go_wp2_with fail
      refine (sized_calls W H _).mono ?_
      rw [hs]
      rintro e w1 ⟨rfl, hw1⟩
      rw [hw1]
      clear hw1 w1
      go_wp2_with fail
      refine (lines_calls W H false _).mono ?_
      rintro e w2 ⟨v, rfl, hI, hf2⟩
      go_wp2_with fail
      go_ret
      rw [HP.out]
      exact ⟨v, rfl, hI, hf2⟩
    | true =>
      obtain ⟨h1, h2, h3, h4⟩ := siz_facts hs
      obtain ⟨wn, rfl⟩ : ∃ n : Nat, W = n := ⟨W.toNat, by omega⟩
      obtain ⟨hn, rfl⟩ : ∃ n : Nat, H = n := ⟨H.toNat, by omega⟩
      have HSZ := hid hs
      have HP := hid (show psWov wn hn true = psW wn hn 4 by unfold psWov; rw [hs]; simp)
      clear hs
      go_enter Try.func47, Try.ntmps47
      go_wp2_with fail
      refine (sized_calls wn hn _).mono ?_
      rw [HSZ.out]
      rintro e w1 ⟨rfl, hw1⟩
      rw [hw1]
      clear hw1 w1
      go_wp2_with fail
      obtain ⟨w1, hw1⟩ : ∃ w1, w1 = w.alloc (.cells (passesC ps0).toArray 24) := ⟨_, rfl⟩
      have hw1' : w.alloc (.cells #[.int .i64 0, .int .i64 0, .int .i64 0, .int .i64 8, .int .i64 0, .int .i64 0, .int .i64 0, .int .i64 4, .int .i64 0, .int .i64 8, .int .i64 0, .int .i64 0, .int .i64 0, .int .i64 2, .int .i64 0, .int .i64 4, .int .i64 0, .int .i64 0, .int .i64 0, .int .i64 1, .int .i64 0, .int .i64 2, .int .i64 0, .int .i64 0] 24) = w1 := hw1.symm
      obtain ⟨ad, had⟩ : ∃ ad : Addr, ad = ⟨w.heap.size, 0, none⟩ := ⟨_, rfl⟩
      have hcell : Cells w1 (some ad) (passesC ps0) := by rw [hw1, had]; exact cells_new _ _ _
      have hf1 : Fr No w w1 := by rw [hw1]; exact (Fr.refl _ _).alloc _
      rw [hw1', ← had]
      have HC := hid (And.intro hcell hf1)
      clear hw1 hw1' had hcell hf1
      go_loopw [7, 27] (fun v i wr => ∃ (k : Nat) (A1 : Option Addr) (c1 : Nat) (ob1 : Option Nat), k ≤ 4 ∧ i = .int .i64 k ∧ v = .slice A1 k c1 ∧
          Row wr 6 (.slice A1 k c1) ob1 k (passesC (psW wn hn k)) ∧ (∀ q, ob1 = some q → w1.heap.size ≤ q) ∧ Fr No w1 wr)
        (fun _ i _ => 4 - (intOf i).toNat)
      case atStart => exact ⟨0, none, 0, none, by omega, rfl, rfl, Row.nil _ _, fun _ h => (by cases h), (Fr.refl _ _)⟩
      case round =>
        obtain ⟨k, A1, c1, ob1, hk, rfl, rfl, g1, g2, g3⟩ := hrel
        have HREL := hid (And.intro g1 (And.intro g2 g3))
        clear g1 g2 g3
        by_cases hlt : k < 4
        · have hw : IntKind.i64.wrap ((k : Int) + 1) = (k : Int) + 1 := w64 _ (by omega) (by omega)
          have HS := hid (show passesC (psW wn hn (k + 1)) = passesC (psW wn hn k) ++ passC (wPN wn hn k) by rw [psW_succ, passesC_append]; simp [passesC])
          obtain ⟨q0, q1, q2, q3, q4, q5⟩ := cells6 (HC.out.1.fr HREL.out.2.2 (fun _ _ h => h)) k hlt
          rw [ps0_get k hlt] at q0 q1 q2 q3 q4 q5
          obtain ⟨y1, y2, y3, y4⟩ := wY_lt k
          obtain ⟨Y, hY⟩ : ∃ Y, Y = wY k := ⟨_, rfl⟩
          obtain ⟨D, hD⟩ : ∃ D, D = wDY k := ⟨_, rfl⟩
          have hPN : passC (wPN wn hn k) = [.int .i64 (0 : Nat), .int .i64 Y, .int .i64 (1 : Nat), .int .i64 D, .int .i64 wn, .int .i64 (cnt Y D hn)] := by rw [hY, hD]; rfl
          rw [hPN] at HS
          rw [← hY] at q0 q1 q2 q3 q4 q5 y1 y2
          rw [← hD] at q0 q1 q2 q3 q4 q5 y2 y3 y4
          clear hPN hY hD
          go_wp2_with fail
          obtain ⟨wB, hwB⟩ : ∃ wB, wB = wr.alloc (.cells #[.int .i64 (0 : Nat), .int .i64 Y, .int .i64 (0 : Nat), .int .i64 D, .int .i64 (0 : Nat), .int .i64 (0 : Nat)] 24) := ⟨_, rfl⟩
          obtain ⟨g, hg⟩ : ∃ g, g = wr.heap.size := ⟨_, rfl⟩
          have hbP : wB.heap[g]? = some (.cells #[.int .i64 (0 : Nat), .int .i64 Y, .int .i64 (0 : Nat), .int .i64 D, .int .i64 (0 : Nat), .int .i64 (0 : Nat)] 24 (0, 0)) := by rw [hwB, hg]; exact heap_new _ _
          have hfB : Fr No wr wB := by rw [hwB]; exact (Fr.refl _ _).alloc _
          have hwB' : wr.alloc (.cells #[.int .i64 0, .int .i64 Y, .int .i64 0, .int .i64 D, .int .i64 0, .int .i64 0] 24) = wB := hwB.symm
          rw [hwB', ← hg]
          have HA := hid (And.intro hfB (And.intro hg hbP))
          obtain ⟨⟨c0, c1', c2, c3, c4, c5⟩, f0, f1, f2, f3, f4, f5⟩ := blk6 hbP
          clear hwB hwB' hbP hfB hg q0 q1 q2 q3 q4 q5
          have hD0 : ¬ (D = 0) := by omega
          have hD1 : ((D : Int) == 0) = false := by rw [beq_eq_false_iff_ne]; omega
          go_region_held3 (fun w' => w'.cell? ⟨g, 1, none⟩ = some (.int .i64 Y) ∧ w'.cell? ⟨g, 3, none⟩ = some (.int .i64 D))
            (first | assumption | exact ⟨c1', c3⟩ | exact keepYD (by decide) (by decide) ⟨c1', c3⟩ | exact keepYD (by decide) (by decide) (keepYD (by decide) (by decide) ⟨c1', c3⟩) | exact keepYD (by decide) (by decide) (keepYD (by decide) (by decide) (keepYD (by decide) (by decide) ⟨c1', c3⟩)))
            (first | fail)
          all_goals
            rename_i hHeldX
            clear hHeldX
            have eH : IntKind.i64.wrap ((IntKind.i64.wrap (IntKind.i64.wrap (IntKind.i64.wrap ((hn : Int) - (Y : Int)) + (D : Int)) - 1)).tdiv (D : Int)) = ((cnt Y D hn : Nat) : Int) := num_a Y D hn y1 y2 y3 (by omega)
            rw [eH]
            clear eH
            generalize cnt Y D hn = ch at HS ⊢
            rw [show mx 0 (ch : Int) = (ch : Int) by unfold mx; split <;> omega]
            obtain ⟨wC, hwC⟩ : ∃ wC, wC = (((wB.setCell ⟨g, 2, none⟩ (.int .i64 1)).setCell ⟨g, 4, none⟩ (.int .i64 (wn : Int))).setCell ⟨g, 5, none⟩ (.int .i64 (ch : Int))).drew := ⟨_, rfl⟩
            rw [← hwC]
            have hbC : wC.heap[g]? = some (.cells #[.int .i64 0, .int .i64 Y, .int .i64 1, .int .i64 D, .int .i64 wn, .int .i64 ch] 24 (0, 0)) := by
              rw [hwC]; exact heap_set _ _ _ _ _ _ (heap_set _ _ _ _ _ _ (heap_set _ _ _ _ _ _ HA.out.2.2))
            have hfC : Fr (HK.One g) wB wC := by rw [hwC]; exact (((Fr.set1 _ _ _ _).then (Fr.set1 _ _ _ _)).then (Fr.set1 _ _ _ _)).drew
            have hgw : g = wr.heap.size := HA.out.2.1
            have hfD : Fr No wr wC := HA.out.1.trans hfC (fun j hj (e : j = g) => by omega)
            have hrC : Row wC 6 (.slice A1 k c1) ob1 k (passesC (psW wn hn k)) := (HREL.out.1.fr HA.out.1 (fun _ _ h => h)).fr hfC (fun j hj (e : j = g) => by have := HREL.out.1.lt hj; omega)
            have HD := hid (And.intro hfD hrC)
            obtain ⟨⟨p0, p1, p2, p3, p4, p5⟩, _⟩ := blk6 hbC
            clear hwC hbC hfC hgw hfD hrC c0 c1' c2 c3 c4 c5 f0 f1 f2 f3 f4 f5 HA hD0 hD1
            go_wp2_with (at_builtin; refine wpList_app1 slPass rfl (.tmp 47) (.tmp 49) rfl rfl HD.out.2 rfl (m := 1) (c := 1) (ys := [.int .i64 0, .int .i64 Y, .int .i64 1, .int .i64 D, .int .i64 wn, .int .i64 ch]) rfl (by simp [Value.oneCell']) (by omega) (by omega) ?_; intro A2 c2 w3 ob2 hrow2 hfr2 hob2)
            go_roundw
            case rel =>
              have hS := HS.out
              have hfw := HREL.out.2.2.then HD.out.1
              have hsz := hfw.size
              refine ⟨k + 1, A2, c2, ob2, by omega, by go_num, rfl, ?_, fun q hq => ?_, hfw.fresh hfr2 HREL.out.2.1⟩
              · rw [hS]; exact hrow2
              · rcases hob2 with h | ⟨j, h, hj⟩
                · exact HREL.out.2.1 q (by rw [← h]; exact hq)
                · rw [h] at hq; injection hq with hq; omega
            case measure => simp [intOf] <;> omega
        · obtain rfl : 4 = k := by omega
          clear hlt
          have hO := HREL.out
          have HO := hid hO
          clear hO
          go_wp2_with fail
          refine (over_calls _ _ _ _).mono ?_
          rintro e w2 ⟨rfl, rfl⟩
          go_wp2_with fail
          go_ret
          rw [HP.out, World.size_alloc]
          exact ⟨_, rfl, iter_of (ps := psW wn hn 4) (HC.out.2.then HO.out.2.2) HO.out.1 (fun q hq => Nat.le_trans HC.out.2.size (HO.out.2.1 q hq))⟩
end Go.Proofs.Ytkhglmmidgfliaa

/- The contract of adam.Lines: a value that goes over the lines. -/
import Derived.Test.YtkhglmmidgfliaaOver
namespace Go.Proofs.Ytkhglmmidgfliaa
open Go.RowKit Go.Proofs.HK
set_option linter.unusedVariables false
set_option linter.unusedSimpArgs false
attribute [local go_sem] max2_int min2_int max_two min_two

theorem slPass : SlT Try.prog 79 24 6 48 := SlT.of (z := .agg #[.int .i64 0, .int .i64 0, .int .i64 0, .int .i64 0, .int .i64 0, .int .i64 0]) Try.underlying79 (by kernel_rfl) rfl (by decide)
def atP (k w h : Nat) : PN := ⟨gX k, gY k, gDX k, gDY k, atW k w h, atH k w h⟩
def psL (w h n : Nat) : List PN := (List.range n).map fun k => atP (k + 1) w h
def psOf (W H : Int) (laced : Bool) : List PN := if sizS W H = false then [] else if laced then psL W.toNat H.toNat 7 else [⟨0, 0, 1, 1, W.toNat, H.toNat⟩]
theorem psL_succ (w h n : Nat) : psL w h (n + 1) = psL w h n ++ [atP (n + 1) w h] := by simp [psL, List.range_succ]
theorem psL_length (w h n : Nat) : (psL w h n).length = n := by simp [psL]
theorem passesC_append (l m : List PN) : passesC (l ++ m) = passesC l ++ passesC m := by simp [passesC]
theorem atP_ok (k w h : Nat) (hw : w ≤ 2048) (hh : h ≤ 2048) : (atP k w h).ok := by
  have x1 := gX_le k
  have x2 := gY_le k
  have x3 := gDX_le k
  have x4 := gDY_le k
  have c1 := cnt_le (gX k) (gDX k) w hw x3.2
  have c2 := cnt_le (gY k) (gDY k) h hh x4.2
  have e1 : atW k w h ≤ 3000 := by unfold atW; split <;> omega
  have e2 : atH k w h ≤ 3000 := by unfold atH; split <;> omega
  refine ⟨?_, ?_, ?_, ?_, ?_, ?_⟩ <;> simp only [atP] <;> omega
theorem siz_facts {W H : Int} (h : sizS W H = true) : 0 < W ∧ 0 < H ∧ W ≤ 2048 ∧ H ≤ 2048 := by
  have := of_decide_eq_true h; exact ⟨this.1, this.2.1, this.2.2.1, this.2.2.2.1⟩
theorem psOf_ok (W H : Int) (laced : Bool) : (∀ p ∈ psOf W H laced, p.ok) ∧ (psOf W H laced).length ≤ 100 := by
  unfold psOf
  cases hs : sizS W H with
  | false => simp
  | true =>
    obtain ⟨h1, h2, h3, h4⟩ := siz_facts hs
    cases laced with
    | false =>
      refine ⟨fun p hp => ?_, by simp⟩
      simp at hp
      subst hp
      refine ⟨?_, ?_, ?_, ?_, ?_, ?_⟩ <;> simp only [] <;> omega
    | true =>
      refine ⟨fun p hp => ?_, by simp [psL]⟩
      simp only [Bool.true_eq_false, if_false, if_true, psL] at hp
      obtain ⟨k, _, rfl⟩ := List.mem_map.1 hp
      exact atP_ok _ _ _ (by omega) (by omega)
/-- v goes over the lines of the passes ps; what it leans on lies from L to U. -/
def IterV (w : World) (v : Value) (ps : List PN) (L U : Nat) : Prop :=
  ∃ g A c, v = .func (.func 65) #[] #[.pointer (some ⟨g, 0, none⟩)] ∧ L ≤ g ∧ g < U ∧ (∀ ad, A = some ad → L ≤ ad.block ∧ ad.block < U) ∧ w.cell? ⟨g, 0, none⟩ = some (.slice A ps.length c) ∧ Cells w A (passesC ps) ∧ U ≤ w.heap.size
theorem over_calls (A : Option Addr) (n c : Nat) (w : World) : Calls Try.prog 52 #[.slice A n c] w fun e w' =>
    e = .returned (.func (.func 65) #[] #[.pointer (some ⟨w.heap.size, 0, none⟩)]) ∧ w' = w.alloc (.cells #[.slice A n c] 79) := by
  go_enter Try.func52, Try.ntmps52
  go_wp2
  go_ret
  exact ⟨rfl, rfl⟩
/-- The end of Lines: the row of passes is boxed. -/
theorem iter_of {w w1 : World} {A : Option Addr} {c : Nat} {ob : Option Nat} {ps : List PN} (hf : Fr No w w1) (hr : Row w1 6 (.slice A ps.length c) ob ps.length (passesC ps)) (hob : ∀ k, ob = some k → w.heap.size ≤ k) :
    IterV (w1.alloc (.cells #[.slice A ps.length c] 79)) (.func (.func 65) #[] #[.pointer (some ⟨w1.heap.size, 0, none⟩)]) ps w.heap.size (w1.heap.size + 1) ∧ Fr No w (w1.alloc (.cells #[.slice A ps.length c] 79)) := by
  obtain ⟨A', c', e, _, hc, hA⟩ := hr.cells
  injection e with e1 _ e2
  subst e1
  refine ⟨⟨w1.heap.size, A, c, rfl, hf.size, by omega, fun ad h => ?_, cell_new1 _ _ _ 0 _ rfl, hc.fr (S := No) ((Fr.refl _ _).alloc _) (fun _ _ h => h), by rw [World.size_alloc]; exact Nat.le_refl _⟩, hf.alloc _⟩
  have h1 := hA ad h
  have h2 := hr.lt h1
  exact ⟨hob _ h1, by omega⟩

set_option maxRecDepth 100000 in
set_option maxHeartbeats 1600000 in
theorem lines_calls (W H : Int) (laced : Bool) (w : World) : Calls Try.prog 26 #[.int .i64 W, .int .i64 H, .bool laced] w fun e w' => ∃ v, e = .returned v ∧ IterV w' v (psOf W H laced) w.heap.size w'.heap.size ∧ Fr No w w' := by
  cases hs : sizS W H with
  | false =>
    have HP := hid (show psOf W H laced = [] by unfold psOf; rw [hs]; rfl)
    go_enter Try.func26, Try.ntmps26
    go_wp2_with fail
    refine (sized_calls W H _).mono ?_
    rw [hs]
    rintro e w1 ⟨rfl, hw1⟩
    rw [hw1]
    clear hw1 w1
    go_wp2_with fail
    refine (over_calls none 0 0 _).mono ?_
    rintro e w2 ⟨rfl, rfl⟩
    go_wp2_with fail
    go_ret
    rw [HP.out, World.size_alloc]
    exact ⟨_, rfl, iter_of (ps := []) (Fr.refl No w) (Row.nil _ _) (fun _ h => by cases h)⟩
  | true =>
    obtain ⟨h1, h2, h3, h4⟩ := siz_facts hs
    obtain ⟨wn, rfl⟩ : ∃ n : Nat, W = n := ⟨W.toNat, by omega⟩
    obtain ⟨hn, rfl⟩ : ∃ n : Nat, H = n := ⟨H.toNat, by omega⟩
    have HSZ := hid hs
    cases laced with
    | false =>
      have HP := hid (show psOf wn hn false = [⟨0, 0, 1, 1, wn, hn⟩] by unfold psOf; rw [hs]; simp)
      clear hs
      go_enter Try.func26, Try.ntmps26
      go_wp2_with fail
      refine (sized_calls wn hn _).mono ?_
      rw [HSZ.out]
      rintro e w1 ⟨rfl, hw1⟩
      rw [hw1]
      clear hw1 w1
      go_wp2_with (at_builtin; refine wpList_app1 slPass rfl (.tmp 29) (.tmp 33) rfl rfl (Row.nil _ _) rfl (m := 1) (c := 1) (ys := [.int .i64 0, .int .i64 0, .int .i64 1, .int .i64 1, .int .i64 wn, .int .i64 hn]) rfl (by simp [Value.oneCell']) (by omega) (by omega) ?_; intro A1 c1 w1 ob1 hrow1 hfr1 hob1)
      refine (over_calls _ _ _ _).mono ?_
      rintro e w2 ⟨rfl, rfl⟩
      go_wp2_with fail
      go_ret
      rw [HP.out, World.size_alloc]
      exact ⟨_, rfl, iter_of (ps := [⟨0, 0, 1, 1, wn, hn⟩]) (hfr1.mono (fun _ _ h => by cases h)) hrow1 (fun k hk => by
        rcases hob1 with h | ⟨j, h, hj⟩
        · rw [h] at hk; cases hk
        · rw [h] at hk; injection hk with hk; omega)⟩
    | true =>
      have HP := hid (show psOf wn hn true = psL wn hn 7 by unfold psOf; rw [hs]; simp)
      clear hs
      go_enter Try.func26, Try.ntmps26
      go_wp2_with fail
      refine (sized_calls wn hn _).mono ?_
      rw [HSZ.out]
      rintro e w1 ⟨rfl, hw1⟩
      rw [hw1]
      clear hw1 w1
      go_wp2_with fail
      go_loopw [7, 9] (fun v i wr => ∃ (k : Nat) (A1 : Option Addr) (c1 : Nat) (ob1 : Option Nat), k ≤ 7 ∧ i = .int .i64 k ∧ v = .slice A1 k c1 ∧
          Row wr 6 (.slice A1 k c1) ob1 k (passesC (psL wn hn k)) ∧ (∀ q, ob1 = some q → w.heap.size ≤ q) ∧ Fr No w wr)
        (fun _ i _ => 7 - (intOf i).toNat)
      case atStart => exact ⟨0, none, 0, none, by omega, rfl, rfl, Row.nil _ _, fun _ h => (by cases h), (Fr.refl _ _)⟩
      case round =>
        obtain ⟨k, A1, c1, ob1, hk, rfl, rfl, g1, g2, g3⟩ := hrel
        have HREL := hid (And.intro g1 (And.intro g2 g3))
        clear g1 g2 g3
        by_cases hlt : k < 7
        · have hw : IntKind.i64.wrap ((k : Int) + 1) = (k : Int) + 1 := w64 _ (by omega) (by omega)
          have HS := hid (show passesC (psL wn hn (k + 1)) = passesC (psL wn hn k) ++ passC (atP (k + 1) wn hn) by rw [psL_succ, passesC_append]; simp [passesC])
          have HV := hid (show atV ((k : Int) + 1) wn hn = passV (gX (k + 1)) (gY (k + 1)) (gDX (k + 1)) (gDY (k + 1)) (atW (k + 1) wn hn) (atH (k + 1) wn hn) from by
            rw [atV_good (by unfold atOk; omega), Int.toNat_natCast, Int.toNat_natCast, show ((k : Int) + 1).toNat = k + 1 by omega])
          go_wp2_with fail
          refine (at_calls _ _ _ _).mono ?_
          rintro e w2 ⟨rfl, hf2⟩
          rw [HV.out]
          have HF2 := hid hf2
          clear hf2
          unfold passV
          go_wp2_with (at_builtin; refine wpList_app1 slPass rfl (.tmp 12) (.tmp 18) rfl rfl (HREL.out.1.fr HF2.out (fun _ _ h => h)) rfl (m := 1) (c := 1) (ys := [.int .i64 (gX (k + 1)), .int .i64 (gY (k + 1)), .int .i64 (gDX (k + 1)), .int .i64 (gDY (k + 1)), .int .i64 (atW (k + 1) wn hn), .int .i64 (atH (k + 1) wn hn)]) rfl (by simp [Value.oneCell']) (by omega) (by omega) ?_; intro A2 c2 w3 ob2 hrow2 hfr2 hob2)
          go_roundw
          case rel =>
            have hS := HS.out
            have hfw := HREL.out.2.2.then HF2.out
            have hsz := hfw.size
            refine ⟨k + 1, A2, c2, ob2, by omega, by go_num, rfl, ?_, fun q hq => ?_, hfw.fresh hfr2 HREL.out.2.1⟩
            · rw [hS]; exact hrow2
            · rcases hob2 with h | ⟨j, h, hj⟩
              · exact HREL.out.2.1 q (by rw [← h]; exact hq)
              · rw [h] at hq; injection hq with hq; omega
          case measure => simp [intOf] <;> omega
        · obtain rfl : 7 = k := by omega
          clear hlt
          have hO := HREL.out
          have HO := hid hO
          clear hO
          go_wp2_with fail
          refine (over_calls _ _ _ _).mono ?_
          rintro e w2 ⟨rfl, rfl⟩
          go_wp2_with fail
          go_ret
          rw [HP.out, World.size_alloc]
          exact ⟨_, rfl, iter_of (ps := psL wn hn 7) HO.out.2.2 HO.out.1 HO.out.2.1⟩
end Go.Proofs.Ytkhglmmidgfliaa

/- adam.At, the first passes. -/
import Derived.Test.YtkhglmmidgfliaaAdam
namespace Go.Proofs.Ytkhglmmidgfliaa
open Go.RowKit Go.Proofs.HK
set_option linter.unusedVariables false
set_option linter.unusedSimpArgs false
attribute [local go_sem] max2_int min2_int max_two min_two

set_option maxRecDepth 100000 in
set_option maxHeartbeats 1600000 in
theorem at_1 (wn hn : Nat) (w0 : 1 ≤ wn) (w1 : wn ≤ 2048) (h0 : 1 ≤ hn) (h1 : hn ≤ 2048) (w : World) :
    Calls Try.prog 15 #[.int .i64 1, .int .i64 wn, .int .i64 hn] w fun e w' => e = .returned (passV 0 0 8 8 (atW 1 wn hn) (atH 1 wn hn)) ∧ Fr No w w' := by
  have hmn : mn (wn : Int) (hn : Int) ≥ 1 := by unfold mn; split <;> omega
  have hmx : mx (wn : Int) (hn : Int) ≤ 2048 := by unfold mx; split <;> omega
  have hm2 : mx 1 2 = 2 := by decide
  go_enter Try.func15, Try.ntmps15
  go_wp2_with fail
  obtain ⟨wA, hwA⟩ : ∃ wA, wA = w.alloc (.cells #[.int .i64 0, .int .i64 0, .int .i64 0, .int .i64 0, .int .i64 0, .int .i64 0] 24) := ⟨_, rfl⟩
  have hfA : Fr No w wA := by rw [hwA]; exact (Fr.refl _ _).alloc _
  have hbR : wA.heap[w.heap.size]? = some (.cells #[.int .i64 0, .int .i64 0, .int .i64 0, .int .i64 0, .int .i64 0, .int .i64 0] 24 (0, 0)) := by rw [hwA]; exact heap_new _ _
  have hsA : wA.heap.size = w.heap.size + 1 := by rw [hwA, World.size_alloc]
  obtain ⟨wB, hwB⟩ : ∃ wB, wB = wA.alloc (.cells #[.int .i64 0, .int .i64 0, .int .i64 8, .int .i64 8, .int .i64 0, .int .i64 0] 24) := ⟨_, rfl⟩
  have hfB : Fr No wA wB := by rw [hwB]; exact (Fr.refl _ _).alloc _
  have hbP : wB.heap[w.heap.size + 1]? = some (.cells #[.int .i64 0, .int .i64 0, .int .i64 8, .int .i64 8, .int .i64 0, .int .i64 0] 24 (0, 0)) := by rw [hwB, ← hsA]; exact heap_new _ _
  rw [← hwA, ← hwB]
  obtain ⟨g, hg⟩ : ∃ g, g = w.heap.size + 1 := ⟨_, rfl⟩
  have hgw : w.heap.size < g := by omega
  rw [← hg] at hbP ⊢
  have hbR' := (hfB.block w.heap.size (by omega) (fun h => h)).trans hbR
  have HA := hid (And.intro (hfA.then hfB) (And.intro hbR' hbP))
  obtain ⟨⟨c0, c1, c2, c3, c4, c5⟩, f0, f1, f2, f3, f4, f5⟩ := blk6 hbP
  clear hwA hwB hfA hbR hsA hfB hbP hg hbR'
  go_region_held3 (fun w' => w'.cell? ⟨g, 0, none⟩ = some (.int .i64 0) ∧ w'.cell? ⟨g, 1, none⟩ = some (.int .i64 0) ∧ w'.cell? ⟨g, 2, none⟩ = some (.int .i64 8) ∧ w'.cell? ⟨g, 3, none⟩ = some (.int .i64 8))
    (first | assumption | exact ⟨c0, c1, c2, c3⟩ | exact keep4s (by decide) ⟨c0, c1, c2, c3⟩ | exact keep4s (by decide) (keep4s (by decide) ⟨c0, c1, c2, c3⟩))
    (first | fail)
  have eW : IntKind.i64.wrap ((IntKind.i64.wrap (IntKind.i64.wrap (IntKind.i64.wrap ((wn : Nat) : Int) + 8) - 1)).tdiv 8) = ((cnt 0 8 wn : Nat) : Int) := num_b 8 wn (by decide) (by decide) w1
  have eH : IntKind.i64.wrap ((IntKind.i64.wrap (IntKind.i64.wrap (IntKind.i64.wrap ((hn : Nat) : Int) + 8) - 1)).tdiv 8) = ((cnt 0 8 hn : Nat) : Int) := num_b 8 hn (by decide) (by decide) h1
  rw [eW, eH]
  clear eW eH
  have hAW : atW 1 wn hn = if cnt 0 8 wn = 0 ∨ cnt 0 8 hn = 0 then 0 else cnt 0 8 wn := rfl
  have hAH : atH 1 wn hn = if cnt 0 8 wn = 0 ∨ cnt 0 8 hn = 0 then 0 else cnt 0 8 hn := rfl
  generalize cnt 0 8 wn = cw at hAW hAH ⊢
  generalize cnt 0 8 hn = ch at hAW hAH ⊢
  have HW := hid (And.intro hAW hAH)
  clear hAW hAH
  obtain ⟨wC, hwC⟩ : ∃ wC, wC = ((wB.setCell ⟨g, 4, none⟩ (.int .i64 (cw : Int))).setCell ⟨g, 5, none⟩ (.int .i64 (ch : Int))).drew := ⟨_, rfl⟩
  have hbC : wC.heap[g]? = some (.cells #[.int .i64 0, .int .i64 0, .int .i64 8, .int .i64 8, .int .i64 cw, .int .i64 ch] 24 (0, 0)) := by
    rw [hwC]; exact heap_set _ _ _ _ _ _ (heap_set _ _ _ _ _ _ HA.out.2.2)
  have hfC : Fr (One g) wB wC := by rw [hwC]; exact ((Fr.set1 _ _ _ _).then (Fr.set1 _ _ _ _)).drew
  have hbRC := (hfC.block w.heap.size (Array.getElem?_eq_some_iff.1 HA.out.2.1).1 (fun (e : w.heap.size = g) => by omega)).trans HA.out.2.1
  have HC := hid (And.intro (HA.out.1.trans hfC (fun j hj (e : j = g) => by omega)) (And.intro hbC hbRC))
  rw [← hwC]
  obtain ⟨⟨p0, p1, p2, p3, p4, p5⟩, q0, q1, q2, q3, q4, q5⟩ := blk6 hbC
  obtain ⟨⟨r0, r1, r2, r3, r4, r5⟩, s0, s1, s2, s3, s4, s5⟩ := blk6 hbRC
  clear hwC hbC hfC hbRC c0 c1 c2 c3 c4 c5 f0 f1 f2 f3 f4 f5 HA hmn hmx hm2
  have fin : ∀ (W' : World) (a b c d e f : Value), Fr (One g) w W' → Fr No w ((((((W'.setCell ⟨w.heap.size, 0, none⟩ a).setCell ⟨w.heap.size, 1, none⟩ b).setCell ⟨w.heap.size, 2, none⟩ c).setCell ⟨w.heap.size, 3, none⟩ d).setCell ⟨w.heap.size, 4, none⟩ e).setCell ⟨w.heap.size, 5, none⟩ f) := fun W' a b c d e f hf => by
    have hs : ∀ k, k < w.heap.size → One w.heap.size k → No k := fun k hk e => by have e : k = w.heap.size := e; omega
    exact ((((((hf.mono (S' := No) (fun k hk (e : k = g) => by omega)).trans (Fr.set1 _ _ _ _) hs).trans (Fr.set1 _ _ _ _) hs).trans (Fr.set1 _ _ _ _) hs).trans (Fr.set1 _ _ _ _) hs).trans (Fr.set1 _ _ _ _) hs).trans (Fr.set1 _ _ _ _) hs
  have HFIN := hid fin
  clear fin
  by_cases hz : cw = 0 ∨ ch = 0
  · have hb : (cw : Int) ≤ 0 ∨ ¬ ((cw : Int) ≤ 0) ∧ (ch : Int) ≤ 0 := by omega
    have HZ := hid hz
    clear hz
    rcases hb with hb | ⟨hb, hb'⟩
    all_goals
      have hZr : ∀ a b, ((wC.setCell ⟨g, 4, none⟩ a).setCell ⟨g, 5, none⟩ b).heap[w.heap.size]? = some (.cells #[.int .i64 0, .int .i64 0, .int .i64 0, .int .i64 0, .int .i64 0, .int .i64 0] 24 (0, 0)) := fun a b =>
        ((((Fr.set1 wC g 4 a).then (Fr.set1 _ g 5 b)).block w.heap.size (Array.getElem?_eq_some_iff.1 HC.out.2.2).1 (fun (e : w.heap.size = g) => by omega))).trans HC.out.2.2
      have HZr := hid hZr
      clear hZr
      go_wp2_with fail
      refine ret_pass rfl (x := 0) (y := 0) (z := 8) (u := 8) (v := 0) (t := 0) ?_ rfl rfl ?_
      · rw [heap_set _ _ _ _ _ _ (heap_set _ _ _ _ _ _ (heap_set _ _ _ _ _ _ (heap_set _ _ _ _ _ _ (heap_set _ _ _ _ _ _ (heap_set _ _ _ _ _ _ (HZr.out _ _))))))]; rfl
      · rw [HW.out.1, HW.out.2, if_pos HZ.out, if_pos HZ.out]
        exact ⟨rfl, HFIN.out _ _ _ _ _ _ _ ((HC.out.1.any.then (Fr.set1 _ _ _ _)).then (Fr.set1 _ _ _ _))⟩
  · have hb : ¬ ((cw : Int) ≤ 0) := by omega
    have hb' : ¬ ((ch : Int) ≤ 0) := by omega
    have HZ := hid hz
    clear hz
    go_wp2_with fail
    refine ret_pass rfl (x := 0) (y := 0) (z := 8) (u := 8) (v := cw) (t := ch) ?_ rfl rfl ?_
    · rw [heap_set _ _ _ _ _ _ (heap_set _ _ _ _ _ _ (heap_set _ _ _ _ _ _ (heap_set _ _ _ _ _ _ (heap_set _ _ _ _ _ _ (heap_set _ _ _ _ _ _ HC.out.2.2)))))]; rfl
    · rw [HW.out.1, HW.out.2, if_neg HZ.out, if_neg HZ.out]
      exact ⟨rfl, HFIN.out _ _ _ _ _ _ _ HC.out.1.any⟩
set_option maxRecDepth 100000 in
set_option maxHeartbeats 1600000 in
theorem at_2 (wn hn : Nat) (w0 : 1 ≤ wn) (w1 : wn ≤ 2048) (h0 : 1 ≤ hn) (h1 : hn ≤ 2048) (w : World) :
    Calls Try.prog 15 #[.int .i64 2, .int .i64 wn, .int .i64 hn] w fun e w' => e = .returned (passV 4 0 8 8 (atW 2 wn hn) (atH 2 wn hn)) ∧ Fr No w w' := by
  have hmn : mn (wn : Int) (hn : Int) ≥ 1 := by unfold mn; split <;> omega
  have hmx : mx (wn : Int) (hn : Int) ≤ 2048 := by unfold mx; split <;> omega
  have hm2 : mx 2 2 = 2 := by decide
  go_enter Try.func15, Try.ntmps15
  go_wp2_with fail
  obtain ⟨wA, hwA⟩ : ∃ wA, wA = w.alloc (.cells #[.int .i64 0, .int .i64 0, .int .i64 0, .int .i64 0, .int .i64 0, .int .i64 0] 24) := ⟨_, rfl⟩
  have hfA : Fr No w wA := by rw [hwA]; exact (Fr.refl _ _).alloc _
  have hbR : wA.heap[w.heap.size]? = some (.cells #[.int .i64 0, .int .i64 0, .int .i64 0, .int .i64 0, .int .i64 0, .int .i64 0] 24 (0, 0)) := by rw [hwA]; exact heap_new _ _
  have hsA : wA.heap.size = w.heap.size + 1 := by rw [hwA, World.size_alloc]
  obtain ⟨wB, hwB⟩ : ∃ wB, wB = wA.alloc (.cells #[.int .i64 4, .int .i64 0, .int .i64 8, .int .i64 8, .int .i64 0, .int .i64 0] 24) := ⟨_, rfl⟩
  have hfB : Fr No wA wB := by rw [hwB]; exact (Fr.refl _ _).alloc _
  have hbP : wB.heap[w.heap.size + 1]? = some (.cells #[.int .i64 4, .int .i64 0, .int .i64 8, .int .i64 8, .int .i64 0, .int .i64 0] 24 (0, 0)) := by rw [hwB, ← hsA]; exact heap_new _ _
  rw [← hwA, ← hwB]
  obtain ⟨g, hg⟩ : ∃ g, g = w.heap.size + 1 := ⟨_, rfl⟩
  have hgw : w.heap.size < g := by omega
  rw [← hg] at hbP ⊢
  have hbR' := (hfB.block w.heap.size (by omega) (fun h => h)).trans hbR
  have HA := hid (And.intro (hfA.then hfB) (And.intro hbR' hbP))
  obtain ⟨⟨c0, c1, c2, c3, c4, c5⟩, f0, f1, f2, f3, f4, f5⟩ := blk6 hbP
  clear hwA hwB hfA hbR hsA hfB hbP hg hbR'
  go_region_held3 (fun w' => w'.cell? ⟨g, 0, none⟩ = some (.int .i64 4) ∧ w'.cell? ⟨g, 1, none⟩ = some (.int .i64 0) ∧ w'.cell? ⟨g, 2, none⟩ = some (.int .i64 8) ∧ w'.cell? ⟨g, 3, none⟩ = some (.int .i64 8))
    (first | assumption | exact ⟨c0, c1, c2, c3⟩ | exact keep4s (by decide) ⟨c0, c1, c2, c3⟩ | exact keep4s (by decide) (keep4s (by decide) ⟨c0, c1, c2, c3⟩))
    (first | fail)
  have eW : IntKind.i64.wrap ((IntKind.i64.wrap (IntKind.i64.wrap (IntKind.i64.wrap (((wn : Nat) : Int) - 4) + 8) - 1)).tdiv 8) = ((cnt 4 8 wn : Nat) : Int) := num_a 4 8 wn (by decide) (by decide) (by decide) w1
  have eH : IntKind.i64.wrap ((IntKind.i64.wrap (IntKind.i64.wrap (IntKind.i64.wrap ((hn : Nat) : Int) + 8) - 1)).tdiv 8) = ((cnt 0 8 hn : Nat) : Int) := num_b 8 hn (by decide) (by decide) h1
  rw [eW, eH]
  clear eW eH
  have hAW : atW 2 wn hn = if cnt 4 8 wn = 0 ∨ cnt 0 8 hn = 0 then 0 else cnt 4 8 wn := rfl
  have hAH : atH 2 wn hn = if cnt 4 8 wn = 0 ∨ cnt 0 8 hn = 0 then 0 else cnt 0 8 hn := rfl
  generalize cnt 4 8 wn = cw at hAW hAH ⊢
  generalize cnt 0 8 hn = ch at hAW hAH ⊢
  have HW := hid (And.intro hAW hAH)
  clear hAW hAH
  obtain ⟨wC, hwC⟩ : ∃ wC, wC = ((wB.setCell ⟨g, 4, none⟩ (.int .i64 (cw : Int))).setCell ⟨g, 5, none⟩ (.int .i64 (ch : Int))).drew := ⟨_, rfl⟩
  have hbC : wC.heap[g]? = some (.cells #[.int .i64 4, .int .i64 0, .int .i64 8, .int .i64 8, .int .i64 cw, .int .i64 ch] 24 (0, 0)) := by
    rw [hwC]; exact heap_set _ _ _ _ _ _ (heap_set _ _ _ _ _ _ HA.out.2.2)
  have hfC : Fr (One g) wB wC := by rw [hwC]; exact ((Fr.set1 _ _ _ _).then (Fr.set1 _ _ _ _)).drew
  have hbRC := (hfC.block w.heap.size (Array.getElem?_eq_some_iff.1 HA.out.2.1).1 (fun (e : w.heap.size = g) => by omega)).trans HA.out.2.1
  have HC := hid (And.intro (HA.out.1.trans hfC (fun j hj (e : j = g) => by omega)) (And.intro hbC hbRC))
  rw [← hwC]
  obtain ⟨⟨p0, p1, p2, p3, p4, p5⟩, q0, q1, q2, q3, q4, q5⟩ := blk6 hbC
  obtain ⟨⟨r0, r1, r2, r3, r4, r5⟩, s0, s1, s2, s3, s4, s5⟩ := blk6 hbRC
  clear hwC hbC hfC hbRC c0 c1 c2 c3 c4 c5 f0 f1 f2 f3 f4 f5 HA hmn hmx hm2
  have fin : ∀ (W' : World) (a b c d e f : Value), Fr (One g) w W' → Fr No w ((((((W'.setCell ⟨w.heap.size, 0, none⟩ a).setCell ⟨w.heap.size, 1, none⟩ b).setCell ⟨w.heap.size, 2, none⟩ c).setCell ⟨w.heap.size, 3, none⟩ d).setCell ⟨w.heap.size, 4, none⟩ e).setCell ⟨w.heap.size, 5, none⟩ f) := fun W' a b c d e f hf => by
    have hs : ∀ k, k < w.heap.size → One w.heap.size k → No k := fun k hk e => by have e : k = w.heap.size := e; omega
    exact ((((((hf.mono (S' := No) (fun k hk (e : k = g) => by omega)).trans (Fr.set1 _ _ _ _) hs).trans (Fr.set1 _ _ _ _) hs).trans (Fr.set1 _ _ _ _) hs).trans (Fr.set1 _ _ _ _) hs).trans (Fr.set1 _ _ _ _) hs).trans (Fr.set1 _ _ _ _) hs
  have HFIN := hid fin
  clear fin
  by_cases hz : cw = 0 ∨ ch = 0
  · have hb : (cw : Int) ≤ 0 ∨ ¬ ((cw : Int) ≤ 0) ∧ (ch : Int) ≤ 0 := by omega
    have HZ := hid hz
    clear hz
    rcases hb with hb | ⟨hb, hb'⟩
    all_goals
      have hZr : ∀ a b, ((wC.setCell ⟨g, 4, none⟩ a).setCell ⟨g, 5, none⟩ b).heap[w.heap.size]? = some (.cells #[.int .i64 0, .int .i64 0, .int .i64 0, .int .i64 0, .int .i64 0, .int .i64 0] 24 (0, 0)) := fun a b =>
        ((((Fr.set1 wC g 4 a).then (Fr.set1 _ g 5 b)).block w.heap.size (Array.getElem?_eq_some_iff.1 HC.out.2.2).1 (fun (e : w.heap.size = g) => by omega))).trans HC.out.2.2
      have HZr := hid hZr
      clear hZr
      go_wp2_with fail
      refine ret_pass rfl (x := 4) (y := 0) (z := 8) (u := 8) (v := 0) (t := 0) ?_ rfl rfl ?_
      · rw [heap_set _ _ _ _ _ _ (heap_set _ _ _ _ _ _ (heap_set _ _ _ _ _ _ (heap_set _ _ _ _ _ _ (heap_set _ _ _ _ _ _ (heap_set _ _ _ _ _ _ (HZr.out _ _))))))]; rfl
      · rw [HW.out.1, HW.out.2, if_pos HZ.out, if_pos HZ.out]
        exact ⟨rfl, HFIN.out _ _ _ _ _ _ _ ((HC.out.1.any.then (Fr.set1 _ _ _ _)).then (Fr.set1 _ _ _ _))⟩
  · have hb : ¬ ((cw : Int) ≤ 0) := by omega
    have hb' : ¬ ((ch : Int) ≤ 0) := by omega
    have HZ := hid hz
    clear hz
    go_wp2_with fail
    refine ret_pass rfl (x := 4) (y := 0) (z := 8) (u := 8) (v := cw) (t := ch) ?_ rfl rfl ?_
    · rw [heap_set _ _ _ _ _ _ (heap_set _ _ _ _ _ _ (heap_set _ _ _ _ _ _ (heap_set _ _ _ _ _ _ (heap_set _ _ _ _ _ _ (heap_set _ _ _ _ _ _ HC.out.2.2)))))]; rfl
    · rw [HW.out.1, HW.out.2, if_neg HZ.out, if_neg HZ.out]
      exact ⟨rfl, HFIN.out _ _ _ _ _ _ _ HC.out.1.any⟩
set_option maxRecDepth 100000 in
set_option maxHeartbeats 1600000 in
theorem at_3 (wn hn : Nat) (w0 : 1 ≤ wn) (w1 : wn ≤ 2048) (h0 : 1 ≤ hn) (h1 : hn ≤ 2048) (w : World) :
    Calls Try.prog 15 #[.int .i64 3, .int .i64 wn, .int .i64 hn] w fun e w' => e = .returned (passV 0 4 4 8 (atW 3 wn hn) (atH 3 wn hn)) ∧ Fr No w w' := by
  have hmn : mn (wn : Int) (hn : Int) ≥ 1 := by unfold mn; split <;> omega
  have hmx : mx (wn : Int) (hn : Int) ≤ 2048 := by unfold mx; split <;> omega
  have hm2 : mx 3 2 = 3 := by decide
  go_enter Try.func15, Try.ntmps15
  go_wp2_with fail
  obtain ⟨wA, hwA⟩ : ∃ wA, wA = w.alloc (.cells #[.int .i64 0, .int .i64 0, .int .i64 0, .int .i64 0, .int .i64 0, .int .i64 0] 24) := ⟨_, rfl⟩
  have hfA : Fr No w wA := by rw [hwA]; exact (Fr.refl _ _).alloc _
  have hbR : wA.heap[w.heap.size]? = some (.cells #[.int .i64 0, .int .i64 0, .int .i64 0, .int .i64 0, .int .i64 0, .int .i64 0] 24 (0, 0)) := by rw [hwA]; exact heap_new _ _
  have hsA : wA.heap.size = w.heap.size + 1 := by rw [hwA, World.size_alloc]
  obtain ⟨wB, hwB⟩ : ∃ wB, wB = wA.alloc (.cells #[.int .i64 0, .int .i64 4, .int .i64 4, .int .i64 8, .int .i64 0, .int .i64 0] 24) := ⟨_, rfl⟩
  have hfB : Fr No wA wB := by rw [hwB]; exact (Fr.refl _ _).alloc _
  have hbP : wB.heap[w.heap.size + 1]? = some (.cells #[.int .i64 0, .int .i64 4, .int .i64 4, .int .i64 8, .int .i64 0, .int .i64 0] 24 (0, 0)) := by rw [hwB, ← hsA]; exact heap_new _ _
  rw [← hwA, ← hwB]
  obtain ⟨g, hg⟩ : ∃ g, g = w.heap.size + 1 := ⟨_, rfl⟩
  have hgw : w.heap.size < g := by omega
  rw [← hg] at hbP ⊢
  have hbR' := (hfB.block w.heap.size (by omega) (fun h => h)).trans hbR
  have HA := hid (And.intro (hfA.then hfB) (And.intro hbR' hbP))
  obtain ⟨⟨c0, c1, c2, c3, c4, c5⟩, f0, f1, f2, f3, f4, f5⟩ := blk6 hbP
  clear hwA hwB hfA hbR hsA hfB hbP hg hbR'
  go_region_held3 (fun w' => w'.cell? ⟨g, 0, none⟩ = some (.int .i64 0) ∧ w'.cell? ⟨g, 1, none⟩ = some (.int .i64 4) ∧ w'.cell? ⟨g, 2, none⟩ = some (.int .i64 4) ∧ w'.cell? ⟨g, 3, none⟩ = some (.int .i64 8))
    (first | assumption | exact ⟨c0, c1, c2, c3⟩ | exact keep4s (by decide) ⟨c0, c1, c2, c3⟩ | exact keep4s (by decide) (keep4s (by decide) ⟨c0, c1, c2, c3⟩))
    (first | fail)
  have eW : IntKind.i64.wrap ((IntKind.i64.wrap (IntKind.i64.wrap (IntKind.i64.wrap ((wn : Nat) : Int) + 4) - 1)).tdiv 4) = ((cnt 0 4 wn : Nat) : Int) := num_b 4 wn (by decide) (by decide) w1
  have eH : IntKind.i64.wrap ((IntKind.i64.wrap (IntKind.i64.wrap (IntKind.i64.wrap (((hn : Nat) : Int) - 4) + 8) - 1)).tdiv 8) = ((cnt 4 8 hn : Nat) : Int) := num_a 4 8 hn (by decide) (by decide) (by decide) h1
  rw [eW, eH]
  clear eW eH
  have hAW : atW 3 wn hn = if cnt 0 4 wn = 0 ∨ cnt 4 8 hn = 0 then 0 else cnt 0 4 wn := rfl
  have hAH : atH 3 wn hn = if cnt 0 4 wn = 0 ∨ cnt 4 8 hn = 0 then 0 else cnt 4 8 hn := rfl
  generalize cnt 0 4 wn = cw at hAW hAH ⊢
  generalize cnt 4 8 hn = ch at hAW hAH ⊢
  have HW := hid (And.intro hAW hAH)
  clear hAW hAH
  obtain ⟨wC, hwC⟩ : ∃ wC, wC = ((wB.setCell ⟨g, 4, none⟩ (.int .i64 (cw : Int))).setCell ⟨g, 5, none⟩ (.int .i64 (ch : Int))).drew := ⟨_, rfl⟩
  have hbC : wC.heap[g]? = some (.cells #[.int .i64 0, .int .i64 4, .int .i64 4, .int .i64 8, .int .i64 cw, .int .i64 ch] 24 (0, 0)) := by
    rw [hwC]; exact heap_set _ _ _ _ _ _ (heap_set _ _ _ _ _ _ HA.out.2.2)
  have hfC : Fr (One g) wB wC := by rw [hwC]; exact ((Fr.set1 _ _ _ _).then (Fr.set1 _ _ _ _)).drew
  have hbRC := (hfC.block w.heap.size (Array.getElem?_eq_some_iff.1 HA.out.2.1).1 (fun (e : w.heap.size = g) => by omega)).trans HA.out.2.1
  have HC := hid (And.intro (HA.out.1.trans hfC (fun j hj (e : j = g) => by omega)) (And.intro hbC hbRC))
  rw [← hwC]
  obtain ⟨⟨p0, p1, p2, p3, p4, p5⟩, q0, q1, q2, q3, q4, q5⟩ := blk6 hbC
  obtain ⟨⟨r0, r1, r2, r3, r4, r5⟩, s0, s1, s2, s3, s4, s5⟩ := blk6 hbRC
  clear hwC hbC hfC hbRC c0 c1 c2 c3 c4 c5 f0 f1 f2 f3 f4 f5 HA hmn hmx hm2
  have fin : ∀ (W' : World) (a b c d e f : Value), Fr (One g) w W' → Fr No w ((((((W'.setCell ⟨w.heap.size, 0, none⟩ a).setCell ⟨w.heap.size, 1, none⟩ b).setCell ⟨w.heap.size, 2, none⟩ c).setCell ⟨w.heap.size, 3, none⟩ d).setCell ⟨w.heap.size, 4, none⟩ e).setCell ⟨w.heap.size, 5, none⟩ f) := fun W' a b c d e f hf => by
    have hs : ∀ k, k < w.heap.size → One w.heap.size k → No k := fun k hk e => by have e : k = w.heap.size := e; omega
    exact ((((((hf.mono (S' := No) (fun k hk (e : k = g) => by omega)).trans (Fr.set1 _ _ _ _) hs).trans (Fr.set1 _ _ _ _) hs).trans (Fr.set1 _ _ _ _) hs).trans (Fr.set1 _ _ _ _) hs).trans (Fr.set1 _ _ _ _) hs).trans (Fr.set1 _ _ _ _) hs
  have HFIN := hid fin
  clear fin
  by_cases hz : cw = 0 ∨ ch = 0
  · have hb : (cw : Int) ≤ 0 ∨ ¬ ((cw : Int) ≤ 0) ∧ (ch : Int) ≤ 0 := by omega
    have HZ := hid hz
    clear hz
    rcases hb with hb | ⟨hb, hb'⟩
    all_goals
      have hZr : ∀ a b, ((wC.setCell ⟨g, 4, none⟩ a).setCell ⟨g, 5, none⟩ b).heap[w.heap.size]? = some (.cells #[.int .i64 0, .int .i64 0, .int .i64 0, .int .i64 0, .int .i64 0, .int .i64 0] 24 (0, 0)) := fun a b =>
        ((((Fr.set1 wC g 4 a).then (Fr.set1 _ g 5 b)).block w.heap.size (Array.getElem?_eq_some_iff.1 HC.out.2.2).1 (fun (e : w.heap.size = g) => by omega))).trans HC.out.2.2
      have HZr := hid hZr
      clear hZr
      go_wp2_with fail
      refine ret_pass rfl (x := 0) (y := 4) (z := 4) (u := 8) (v := 0) (t := 0) ?_ rfl rfl ?_
      · rw [heap_set _ _ _ _ _ _ (heap_set _ _ _ _ _ _ (heap_set _ _ _ _ _ _ (heap_set _ _ _ _ _ _ (heap_set _ _ _ _ _ _ (heap_set _ _ _ _ _ _ (HZr.out _ _))))))]; rfl
      · rw [HW.out.1, HW.out.2, if_pos HZ.out, if_pos HZ.out]
        exact ⟨rfl, HFIN.out _ _ _ _ _ _ _ ((HC.out.1.any.then (Fr.set1 _ _ _ _)).then (Fr.set1 _ _ _ _))⟩
  · have hb : ¬ ((cw : Int) ≤ 0) := by omega
    have hb' : ¬ ((ch : Int) ≤ 0) := by omega
    have HZ := hid hz
    clear hz
    go_wp2_with fail
    refine ret_pass rfl (x := 0) (y := 4) (z := 4) (u := 8) (v := cw) (t := ch) ?_ rfl rfl ?_
    · rw [heap_set _ _ _ _ _ _ (heap_set _ _ _ _ _ _ (heap_set _ _ _ _ _ _ (heap_set _ _ _ _ _ _ (heap_set _ _ _ _ _ _ (heap_set _ _ _ _ _ _ HC.out.2.2)))))]; rfl
    · rw [HW.out.1, HW.out.2, if_neg HZ.out, if_neg HZ.out]
      exact ⟨rfl, HFIN.out _ _ _ _ _ _ _ HC.out.1.any⟩
set_option maxRecDepth 100000 in
set_option maxHeartbeats 1600000 in
theorem at_4 (wn hn : Nat) (w0 : 1 ≤ wn) (w1 : wn ≤ 2048) (h0 : 1 ≤ hn) (h1 : hn ≤ 2048) (w : World) :
    Calls Try.prog 15 #[.int .i64 4, .int .i64 wn, .int .i64 hn] w fun e w' => e = .returned (passV 2 0 4 4 (atW 4 wn hn) (atH 4 wn hn)) ∧ Fr No w w' := by
  have hmn : mn (wn : Int) (hn : Int) ≥ 1 := by unfold mn; split <;> omega
  have hmx : mx (wn : Int) (hn : Int) ≤ 2048 := by unfold mx; split <;> omega
  have hm2 : mx 4 2 = 4 := by decide
  go_enter Try.func15, Try.ntmps15
  go_wp2_with fail
  obtain ⟨wA, hwA⟩ : ∃ wA, wA = w.alloc (.cells #[.int .i64 0, .int .i64 0, .int .i64 0, .int .i64 0, .int .i64 0, .int .i64 0] 24) := ⟨_, rfl⟩
  have hfA : Fr No w wA := by rw [hwA]; exact (Fr.refl _ _).alloc _
  have hbR : wA.heap[w.heap.size]? = some (.cells #[.int .i64 0, .int .i64 0, .int .i64 0, .int .i64 0, .int .i64 0, .int .i64 0] 24 (0, 0)) := by rw [hwA]; exact heap_new _ _
  have hsA : wA.heap.size = w.heap.size + 1 := by rw [hwA, World.size_alloc]
  obtain ⟨wB, hwB⟩ : ∃ wB, wB = wA.alloc (.cells #[.int .i64 2, .int .i64 0, .int .i64 4, .int .i64 4, .int .i64 0, .int .i64 0] 24) := ⟨_, rfl⟩
  have hfB : Fr No wA wB := by rw [hwB]; exact (Fr.refl _ _).alloc _
  have hbP : wB.heap[w.heap.size + 1]? = some (.cells #[.int .i64 2, .int .i64 0, .int .i64 4, .int .i64 4, .int .i64 0, .int .i64 0] 24 (0, 0)) := by rw [hwB, ← hsA]; exact heap_new _ _
  rw [← hwA, ← hwB]
  obtain ⟨g, hg⟩ : ∃ g, g = w.heap.size + 1 := ⟨_, rfl⟩
  have hgw : w.heap.size < g := by omega
  rw [← hg] at hbP ⊢
  have hbR' := (hfB.block w.heap.size (by omega) (fun h => h)).trans hbR
  have HA := hid (And.intro (hfA.then hfB) (And.intro hbR' hbP))
  obtain ⟨⟨c0, c1, c2, c3, c4, c5⟩, f0, f1, f2, f3, f4, f5⟩ := blk6 hbP
  clear hwA hwB hfA hbR hsA hfB hbP hg hbR'
  go_region_held3 (fun w' => w'.cell? ⟨g, 0, none⟩ = some (.int .i64 2) ∧ w'.cell? ⟨g, 1, none⟩ = some (.int .i64 0) ∧ w'.cell? ⟨g, 2, none⟩ = some (.int .i64 4) ∧ w'.cell? ⟨g, 3, none⟩ = some (.int .i64 4))
    (first | assumption | exact ⟨c0, c1, c2, c3⟩ | exact keep4s (by decide) ⟨c0, c1, c2, c3⟩ | exact keep4s (by decide) (keep4s (by decide) ⟨c0, c1, c2, c3⟩))
    (first | fail)
  have eW : IntKind.i64.wrap ((IntKind.i64.wrap (IntKind.i64.wrap (IntKind.i64.wrap (((wn : Nat) : Int) - 2) + 4) - 1)).tdiv 4) = ((cnt 2 4 wn : Nat) : Int) := num_a 2 4 wn (by decide) (by decide) (by decide) w1
  have eH : IntKind.i64.wrap ((IntKind.i64.wrap (IntKind.i64.wrap (IntKind.i64.wrap ((hn : Nat) : Int) + 4) - 1)).tdiv 4) = ((cnt 0 4 hn : Nat) : Int) := num_b 4 hn (by decide) (by decide) h1
  rw [eW, eH]
  clear eW eH
  have hAW : atW 4 wn hn = if cnt 2 4 wn = 0 ∨ cnt 0 4 hn = 0 then 0 else cnt 2 4 wn := rfl
  have hAH : atH 4 wn hn = if cnt 2 4 wn = 0 ∨ cnt 0 4 hn = 0 then 0 else cnt 0 4 hn := rfl
  generalize cnt 2 4 wn = cw at hAW hAH ⊢
  generalize cnt 0 4 hn = ch at hAW hAH ⊢
  have HW := hid (And.intro hAW hAH)
  clear hAW hAH
  obtain ⟨wC, hwC⟩ : ∃ wC, wC = ((wB.setCell ⟨g, 4, none⟩ (.int .i64 (cw : Int))).setCell ⟨g, 5, none⟩ (.int .i64 (ch : Int))).drew := ⟨_, rfl⟩
  have hbC : wC.heap[g]? = some (.cells #[.int .i64 2, .int .i64 0, .int .i64 4, .int .i64 4, .int .i64 cw, .int .i64 ch] 24 (0, 0)) := by
    rw [hwC]; exact heap_set _ _ _ _ _ _ (heap_set _ _ _ _ _ _ HA.out.2.2)
  have hfC : Fr (One g) wB wC := by rw [hwC]; exact ((Fr.set1 _ _ _ _).then (Fr.set1 _ _ _ _)).drew
  have hbRC := (hfC.block w.heap.size (Array.getElem?_eq_some_iff.1 HA.out.2.1).1 (fun (e : w.heap.size = g) => by omega)).trans HA.out.2.1
  have HC := hid (And.intro (HA.out.1.trans hfC (fun j hj (e : j = g) => by omega)) (And.intro hbC hbRC))
  rw [← hwC]
  obtain ⟨⟨p0, p1, p2, p3, p4, p5⟩, q0, q1, q2, q3, q4, q5⟩ := blk6 hbC
  obtain ⟨⟨r0, r1, r2, r3, r4, r5⟩, s0, s1, s2, s3, s4, s5⟩ := blk6 hbRC
  clear hwC hbC hfC hbRC c0 c1 c2 c3 c4 c5 f0 f1 f2 f3 f4 f5 HA hmn hmx hm2
  have fin : ∀ (W' : World) (a b c d e f : Value), Fr (One g) w W' → Fr No w ((((((W'.setCell ⟨w.heap.size, 0, none⟩ a).setCell ⟨w.heap.size, 1, none⟩ b).setCell ⟨w.heap.size, 2, none⟩ c).setCell ⟨w.heap.size, 3, none⟩ d).setCell ⟨w.heap.size, 4, none⟩ e).setCell ⟨w.heap.size, 5, none⟩ f) := fun W' a b c d e f hf => by
    have hs : ∀ k, k < w.heap.size → One w.heap.size k → No k := fun k hk e => by have e : k = w.heap.size := e; omega
    exact ((((((hf.mono (S' := No) (fun k hk (e : k = g) => by omega)).trans (Fr.set1 _ _ _ _) hs).trans (Fr.set1 _ _ _ _) hs).trans (Fr.set1 _ _ _ _) hs).trans (Fr.set1 _ _ _ _) hs).trans (Fr.set1 _ _ _ _) hs).trans (Fr.set1 _ _ _ _) hs
  have HFIN := hid fin
  clear fin
  by_cases hz : cw = 0 ∨ ch = 0
  · have hb : (cw : Int) ≤ 0 ∨ ¬ ((cw : Int) ≤ 0) ∧ (ch : Int) ≤ 0 := by omega
    have HZ := hid hz
    clear hz
    rcases hb with hb | ⟨hb, hb'⟩
    all_goals
      have hZr : ∀ a b, ((wC.setCell ⟨g, 4, none⟩ a).setCell ⟨g, 5, none⟩ b).heap[w.heap.size]? = some (.cells #[.int .i64 0, .int .i64 0, .int .i64 0, .int .i64 0, .int .i64 0, .int .i64 0] 24 (0, 0)) := fun a b =>
        ((((Fr.set1 wC g 4 a).then (Fr.set1 _ g 5 b)).block w.heap.size (Array.getElem?_eq_some_iff.1 HC.out.2.2).1 (fun (e : w.heap.size = g) => by omega))).trans HC.out.2.2
      have HZr := hid hZr
      clear hZr
      go_wp2_with fail
      refine ret_pass rfl (x := 2) (y := 0) (z := 4) (u := 4) (v := 0) (t := 0) ?_ rfl rfl ?_
      · rw [heap_set _ _ _ _ _ _ (heap_set _ _ _ _ _ _ (heap_set _ _ _ _ _ _ (heap_set _ _ _ _ _ _ (heap_set _ _ _ _ _ _ (heap_set _ _ _ _ _ _ (HZr.out _ _))))))]; rfl
      · rw [HW.out.1, HW.out.2, if_pos HZ.out, if_pos HZ.out]
        exact ⟨rfl, HFIN.out _ _ _ _ _ _ _ ((HC.out.1.any.then (Fr.set1 _ _ _ _)).then (Fr.set1 _ _ _ _))⟩
  · have hb : ¬ ((cw : Int) ≤ 0) := by omega
    have hb' : ¬ ((ch : Int) ≤ 0) := by omega
    have HZ := hid hz
    clear hz
    go_wp2_with fail
    refine ret_pass rfl (x := 2) (y := 0) (z := 4) (u := 4) (v := cw) (t := ch) ?_ rfl rfl ?_
    · rw [heap_set _ _ _ _ _ _ (heap_set _ _ _ _ _ _ (heap_set _ _ _ _ _ _ (heap_set _ _ _ _ _ _ (heap_set _ _ _ _ _ _ (heap_set _ _ _ _ _ _ HC.out.2.2)))))]; rfl
    · rw [HW.out.1, HW.out.2, if_neg HZ.out, if_neg HZ.out]
      exact ⟨rfl, HFIN.out _ _ _ _ _ _ _ HC.out.1.any⟩
end Go.Proofs.Ytkhglmmidgfliaa

/- Each place stands in just one line, once. No memory in sight. -/
import Derived.Test.YtkhglmmidgfliaaDocL
namespace Go.Proofs.Ytkhglmmidgfliaa
open Go.RowKit Go.Proofs.HK
set_option linter.unusedVariables false

/-- The places of all lines. -/
def spots (its : List (Nat × List (Nat × Nat))) : List (Nat × Nat) := its.flatMap (·.2)
theorem spots_append (a b : List (Nat × List (Nat × Nat))) : spots (a ++ b) = spots a ++ spots b := by simp [spots]
theorem mem_linesOf {i : Nat} {p : PN} {it : Nat × List (Nat × Nat)} : it ∈ linesOf i p ↔ ∃ r, r < p.H ∧ it = (i, spotRow p.X p.Y p.DX p.DY p.W r) := by
  unfold linesOf
  simp only [List.mem_map, List.mem_range]
  exact ⟨fun ⟨r, h, e⟩ => ⟨r, h, e.symm⟩, fun ⟨r, h, e⟩ => ⟨r, h, e.symm⟩⟩
theorem mem_spotRow {X Y DX DY W r : Nat} {s : Nat × Nat} : s ∈ spotRow X Y DX DY W r ↔ ∃ i, i < W ∧ s = (X + i * DX, Y + r * DY) := by
  unfold spotRow
  simp only [List.mem_map, List.mem_range]
  exact ⟨fun ⟨r, h, e⟩ => ⟨r, h, e.symm⟩, fun ⟨r, h, e⟩ => ⟨r, h, e.symm⟩⟩
theorem mem_itemsF (ps : List PN) : ∀ (j : Nat) (it : Nat × List (Nat × Nat)), it ∈ itemsF j ps ↔ ∃ (k : Nat) (p : PN), ps[k]? = some p ∧ it ∈ linesOf (j + k + 1) p := by
  induction ps with
  | nil => intro j it; simp [itemsF]
  | cons p ps ih =>
    intro j it
    rw [itemsF, List.mem_append, ih]
    constructor
    · rintro (h | ⟨k, q, h1, h2⟩)
      · exact ⟨0, p, rfl, h⟩
      · exact ⟨k + 1, q, by simpa using h1, by rw [show j + (k + 1) + 1 = j + 1 + k + 1 by omega]; exact h2⟩
    · rintro ⟨k, q, h1, h2⟩
      cases k with
      | zero => left; simp at h1; subst h1; exact h2
      | succ k => right; exact ⟨k, q, by simpa using h1, by rw [show j + 1 + k + 1 = j + (k + 1) + 1 by omega]; exact h2⟩
/-- The places of each pass differ, if it steps. -/
theorem nodup_linesOf (i : Nat) (p : PN) (hx : 1 ≤ p.DX) (hy : 1 ≤ p.DY) : (spots (linesOf i p)).Nodup := by
  unfold spots linesOf List.Nodup
  rw [List.flatMap_map, List.pairwise_flatMap]
  refine ⟨fun r _ => ?_, ?_⟩
  · unfold spotRow
    rw [List.pairwise_map]
    refine List.Pairwise.imp ?_ List.nodup_range
    intro a b hab h
    injection h with h _
    exact hab (Nat.eq_of_mul_eq_mul_right (by omega) (Nat.add_left_cancel h))
  · refine List.Pairwise.imp ?_ List.nodup_range
    intro a b hab s hs t ht hst
    obtain ⟨k, _, e1⟩ := mem_spotRow.1 hs
    obtain ⟨k', _, e2⟩ := mem_spotRow.1 ht
    rw [e1, e2] at hst
    injection hst with _ h
    exact hab (Nat.eq_of_mul_eq_mul_right (by omega) (Nat.add_left_cancel h))
/-- Passes whose places are told apart by a number: all places differ. -/
theorem nodup_items (key : Nat × Nat → Nat) : ∀ (ps : List PN) (j : Nat), (∀ (k : Nat) (p : PN), ps[k]? = some p → 1 ≤ p.DX ∧ 1 ≤ p.DY ∧ ∀ s ∈ spots (linesOf (j + k + 1) p), key s = j + k + 1) → (spots (itemsF j ps)).Nodup ∧ ∀ s ∈ spots (itemsF j ps), j + 1 ≤ key s
  | [], j, _ => ⟨List.Pairwise.nil, fun s h => by cases h⟩
  | p :: ps, j, h => by
    have h0 := h 0 p rfl
    have ih := nodup_items key ps (j + 1) (fun k q hq => by
      have := h (k + 1) q (by simpa using hq)
      rw [show j + 1 + k + 1 = j + (k + 1) + 1 by omega]; exact this)
    rw [itemsF, spots_append]
    refine ⟨?_, fun s hs => ?_⟩
    · refine List.pairwise_append.2 ⟨nodup_linesOf _ _ h0.1 h0.2.1, ih.1, fun a ha b hb e => ?_⟩
      have h1 := h0.2.2 a ha
      have h2 := ih.2 b hb
      rw [e] at h1
      omega
    · rcases List.mem_append.1 hs with hs | hs
      · have := h0.2.2 s hs; omega
      · have := ih.2 s hs; omega
/-- Passes rise. -/
theorem rise_items : ∀ (ps : List PN) (j : Nat), ((itemsF j ps).map (·.1)).Pairwise (· ≤ ·) ∧ ∀ it ∈ itemsF j ps, j + 1 ≤ it.1 ∧ it.1 ≤ j + ps.length
  | [], j => ⟨List.Pairwise.nil, fun s h => by cases h⟩
  | p :: ps, j => by
    have ih := rise_items ps (j + 1)
    have hl : ∀ it ∈ linesOf (j + 1) p, it.1 = j + 1 := fun it h => by obtain ⟨r, _, rfl⟩ := mem_linesOf.1 h; rfl
    rw [itemsF, List.map_append]
    refine ⟨List.pairwise_append.2 ⟨?_, ih.1, ?_⟩, fun it h => ?_⟩
    · rw [List.pairwise_map]
      exact List.pairwise_iff_getElem.2 (fun i j hi hj _ => by rw [hl _ (List.getElem_mem hi), hl _ (List.getElem_mem hj)]; exact Nat.le_refl _)
    · intro a ha b hb
      obtain ⟨x, hx, rfl⟩ := List.mem_map.1 ha
      obtain ⟨y, hy, rfl⟩ := List.mem_map.1 hb
      have := hl x hx
      have := (ih.2 y hy).1
      omega
    · rw [List.length_cons]
      rcases List.mem_append.1 h with h | h
      · have := hl it h; omega
      · have := ih.2 it h; omega
/-- Different things, all of them among m: there are at most so many. -/
theorem nodup_le {α : Type} [DecidableEq α] : ∀ (l m : List α), l.Nodup → (∀ x ∈ l, x ∈ m) → l.length ≤ m.length
  | [], m, _, _ => Nat.zero_le _
  | a :: l, m, h, hs => by
    have h' := List.nodup_cons.1 h
    have := nodup_le l (m.erase a) h'.2 (fun x hx => (List.mem_erase_of_ne (by rintro rfl; exact h'.1 hx)).2 (hs x (List.mem_cons_of_mem _ hx)))
    have hm := hs a (List.mem_cons_self ..)
    rw [List.length_erase_of_mem hm] at this
    have := List.length_pos_of_mem hm
    rw [List.length_cons]
    omega
def allSpots (w h : Nat) : List (Nat × Nat) := (List.range h).flatMap fun y => (List.range w).map fun x => (x, y)
theorem allSpots_length (w h : Nat) : (allSpots w h).length = w * h := by
  unfold allSpots
  rw [List.length_flatMap]
  simp only [List.length_map, List.length_range]
  induction h with
  | zero => simp
  | succ h ih => rw [List.range_succ, List.map_append, List.sum_append, ih, Nat.mul_succ]; simp
theorem mem_allSpots {w h : Nat} {s : Nat × Nat} : s ∈ allSpots w h ↔ s.1 < w ∧ s.2 < h := by
  unfold allSpots
  simp only [List.mem_flatMap, List.mem_map, List.mem_range]
  constructor
  · rintro ⟨y, hy, x, hx, rfl⟩; exact ⟨hx, hy⟩
  · rintro ⟨h1, h2⟩; exact ⟨s.2, h2, s.1, h1, rfl⟩
theorem allSpots_nodup (w h : Nat) : (allSpots w h).Nodup := by
  unfold allSpots List.Nodup
  rw [List.pairwise_flatMap]
  refine ⟨fun y _ => ?_, ?_⟩
  · rw [List.pairwise_map]
    refine List.Pairwise.imp ?_ List.nodup_range
    intro a b hab h
    injection h with h _
    exact hab h
  · refine List.Pairwise.imp ?_ List.nodup_range
    intro a b hab s hs t ht hst
    obtain ⟨x, _, rfl⟩ := List.mem_map.1 hs
    obtain ⟨x', _, rfl⟩ := List.mem_map.1 ht
    injection hst with _ h
    exact hab h
/-- What once asks of lines. -/
structure OnceL (its : List (Nat × List (Nat × Nat))) (w h passes : Nat) : Prop where
  rise : (its.map (·.1)).Pairwise (· ≤ ·)
  pass : ∀ it ∈ its, 1 ≤ it.1 ∧ it.1 ≤ passes
  full : ∀ it ∈ its, it.2 ≠ []
  inside : ∀ s ∈ spots its, s.1 < w ∧ s.2 < h
  nodup : (spots its).Nodup
  all : (spots its).length = w * h
theorem OnceL.of {ps : List PN} {w h passes : Nat} (key : Nat × Nat → Nat) (hlen : ps.length ≤ passes)
    (hp : ∀ (k : Nat) (p : PN), ps[k]? = some p → 1 ≤ p.DX ∧ 1 ≤ p.DY ∧ (0 < p.H → 0 < p.W) ∧ ∀ i r, i < p.W → r < p.H → key (p.X + i * p.DX, p.Y + r * p.DY) = k + 1 ∧ p.X + i * p.DX < w ∧ p.Y + r * p.DY < h)
    (hall : ∀ x y, x < w → y < h → ∃ (k : Nat) (p : PN) (i r : Nat), ps[k]? = some p ∧ i < p.W ∧ r < p.H ∧ x = p.X + i * p.DX ∧ y = p.Y + r * p.DY) : OnceL (itemsF 0 ps) w h passes := by
  have hin : ∀ (k : Nat) (p : PN), ps[k]? = some p → ∀ s ∈ spots (linesOf (0 + k + 1) p), key s = 0 + k + 1 ∧ s.1 < w ∧ s.2 < h := fun k p hk s hs => by
    obtain ⟨it, hit, hs⟩ := List.mem_flatMap.1 hs
    obtain ⟨r, hr, rfl⟩ := mem_linesOf.1 hit
    obtain ⟨i, hi, rfl⟩ := mem_spotRow.1 hs
    have := (hp k p hk).2.2.2 i r hi hr
    exact ⟨by rw [this.1]; omega, this.2⟩
  have hnd := nodup_items key ps 0 (fun k p hk => ⟨(hp k p hk).1, (hp k p hk).2.1, fun s hs => (hin k p hk s hs).1⟩)
  have hri := rise_items ps 0
  have hins : ∀ s ∈ spots (itemsF 0 ps), s.1 < w ∧ s.2 < h := fun s hs => by
    obtain ⟨it, hit, hs⟩ := List.mem_flatMap.1 hs
    obtain ⟨k, p, hk, hl⟩ := (mem_itemsF ps 0 it).1 hit
    exact (hin k p hk s (List.mem_flatMap.2 ⟨it, hl, hs⟩)).2
  refine ⟨hri.1, fun it hit => ?_, fun it hit => ?_, hins, hnd.1, ?_⟩
  · have := hri.2 it hit; omega
  · obtain ⟨k, p, hk, hl⟩ := (mem_itemsF ps 0 it).1 hit
    obtain ⟨r, hr, rfl⟩ := mem_linesOf.1 hl
    have := (hp k p hk).2.2.1 (by omega)
    intro e
    have e := congrArg List.length e
    rw [spotRow_length] at e
    simp at e
    omega
  · rw [← allSpots_length]
    refine Nat.le_antisymm (nodup_le _ _ hnd.1 (fun s hs => mem_allSpots.2 (hins s hs))) (nodup_le _ _ (allSpots_nodup w h) (fun s hs => ?_))
    have hs := mem_allSpots.1 hs
    obtain ⟨k, p, i, r, hk, hi, hr, e1, e2⟩ := hall s.1 s.2 hs.1 hs.2
    refine List.mem_flatMap.2 ⟨(0 + k + 1, spotRow p.X p.Y p.DX p.DY p.W r), (mem_itemsF ps 0 _).2 ⟨k, p, hk, mem_linesOf.2 ⟨r, hr, rfl⟩⟩, mem_spotRow.2 ⟨i, hi, ?_⟩⟩
    rw [← e1, ← e2]
/-- Which of PNG's passes a place is in. -/
def pngKey (s : Nat × Nat) : Nat :=
  if s.2 % 2 = 1 then 7 else if s.1 % 2 = 1 then 6 else if s.2 % 4 = 2 then 5 else if s.1 % 4 = 2 then 4 else if s.2 % 8 = 4 then 3 else if s.1 % 8 = 4 then 2 else 1
def gifKey (s : Nat × Nat) : Nat := if s.2 % 2 = 1 then 4 else if s.2 % 4 = 2 then 3 else if s.2 % 8 = 4 then 2 else 1
theorem once_plain (w h passes : Nat) (hp : 1 ≤ passes) (hw : 1 ≤ w) : OnceL (itemsF 0 [⟨0, 0, 1, 1, w, h⟩]) w h passes := by
  refine OnceL.of (fun _ => 1) (by simpa using hp) (fun k p hk => ?_) (fun x y hx hy => ?_)
  · have : k = 0 := by
      have := (List.getElem?_eq_some_iff.1 hk).1; simp at this; exact this
    subst this
    simp at hk
    subst hk
    exact ⟨Nat.le_refl _, Nat.le_refl _, fun _ => hw, fun i r hi hr => ⟨rfl, by simpa using hi, by simpa using hr⟩⟩
  · exact ⟨0, _, x, y, rfl, hx, hy, by simp, by simp⟩
theorem cnt_pos_lt {X D n i : Nat} (hD : 1 ≤ D) (h : i < cnt X D n) : X + i * D < n := by
  have := (cnt_lt X D n i hD).1 h
  rw [Nat.mul_comm]; exact this
theorem lt_cnt {X D n i : Nat} (hD : 1 ≤ D) (h : X + i * D < n) : i < cnt X D n := (cnt_lt X D n i hD).2 (by rw [Nat.mul_comm]; exact h)
theorem once_gif (w h : Nat) (hw : 1 ≤ w) : OnceL (itemsF 0 (psW w h 4)) w h 4 := by
  refine OnceL.of gifKey (by simp [psW]) (fun k p hk => ?_) (fun x y hx hy => ?_)
  · have hk4 : k < 4 := by have := (List.getElem?_eq_some_iff.1 hk).1; rwa [psW_length] at this
    have hp : p = wPN w h k := by
      have := (List.getElem?_eq_some_iff.1 hk).2
      rw [← this]; simp [psW]
    subst hp
    have hwy := wY_lt k
    refine ⟨Nat.le_refl _, by simp only [wPN]; omega, fun _ => hw, fun i r hi hr => ?_⟩
    simp only [wPN] at hi hr ⊢
    have hr' := cnt_pos_lt (by omega) hr
    refine ⟨?_, by omega, hr'⟩
    have hk : k = 0 ∨ k = 1 ∨ k = 2 ∨ k = 3 := by omega
    unfold gifKey
    rcases hk with rfl | rfl | rfl | rfl <;> simp only [wY, wDY] <;> (repeat' split) <;> omega
  · have key : ∀ k, k < 4 → ∀ r, y = wY k + r * wDY k → ∃ (k : Nat) (p : PN) (i r : Nat), (psW w h 4)[k]? = some p ∧ i < p.W ∧ r < p.H ∧ x = p.X + i * p.DX ∧ y = p.Y + r * p.DY := fun k hk r hy' =>
      ⟨k, wPN w h k, x, r, by simp [psW, hk], hx, lt_cnt (by have := wY_lt k; omega) (by rw [← hy']; exact hy), by simp [wPN], hy'⟩
    by_cases h1 : y % 2 = 1
    · exact key 3 (by omega) (y / 2) (by simp only [wY, wDY]; omega)
    by_cases h2 : y % 4 = 2
    · exact key 2 (by omega) (y / 4) (by simp only [wY, wDY]; omega)
    by_cases h3 : y % 8 = 4
    · exact key 1 (by omega) (y / 8) (by simp only [wY, wDY]; omega)
    · exact key 0 (by omega) (y / 8) (by simp only [wY, wDY]; omega)
theorem once_png (w h : Nat) (hw : 1 ≤ w) : OnceL (itemsF 0 (psL w h 7)) w h 7 := by
  have hget : ∀ k, k < 7 → (psL w h 7)[k]? = some (atP (k + 1) w h) := fun k hk => by simp [psL, hk]
  have hAH : ∀ p, atH p w h ≤ cnt (gY p) (gDY p) h := fun p => by unfold atH; split <;> omega
  have hAW : ∀ p, atW p w h ≤ cnt (gX p) (gDX p) w := fun p => by unfold atW; split <;> omega
  refine OnceL.of pngKey (by rw [psL_length]; omega) (fun k p hk => ?_) (fun x y hx hy => ?_)
  · have hk7 : k < 7 := by have := (List.getElem?_eq_some_iff.1 hk).1; rwa [psL_length] at this
    have hp : p = atP (k + 1) w h := by rw [hget k hk7] at hk; exact (Option.some.inj hk).symm
    subst hp
    have x3 := gDX_le (k + 1)
    have x4 := gDY_le (k + 1)
    refine ⟨x3.1, x4.1, fun hH => ?_, fun i r hi hr => ?_⟩
    · simp only [atP, atH, atW] at hH ⊢
      split at hH
      · omega
      · rename_i hz; rw [if_neg hz]; omega
    · have hi' := cnt_pos_lt x3.1 (Nat.lt_of_lt_of_le hi (hAW (k + 1)))
      have hr' := cnt_pos_lt x4.1 (Nat.lt_of_lt_of_le hr (hAH (k + 1)))
      refine ⟨?_, hi', hr'⟩
      simp only [atP]
      have hk : k = 0 ∨ k = 1 ∨ k = 2 ∨ k = 3 ∨ k = 4 ∨ k = 5 ∨ k = 6 := by omega
      unfold pngKey
      rcases hk with rfl | rfl | rfl | rfl | rfl | rfl | rfl <;> simp only [gX, gY, gDX, gDY] <;> (repeat' split) <;> omega
  · have key : ∀ k, k < 7 → ∀ i r, x = gX (k + 1) + i * gDX (k + 1) → y = gY (k + 1) + r * gDY (k + 1) → ∃ (k : Nat) (p : PN) (i r : Nat), (psL w h 7)[k]? = some p ∧ i < p.W ∧ r < p.H ∧ x = p.X + i * p.DX ∧ y = p.Y + r * p.DY := fun k hk i r hx' hy' => by
      have x3 := gDX_le (k + 1)
      have x4 := gDY_le (k + 1)
      have hi : i < cnt (gX (k + 1)) (gDX (k + 1)) w := lt_cnt x3.1 (by rw [← hx']; exact hx)
      have hr : r < cnt (gY (k + 1)) (gDY (k + 1)) h := lt_cnt x4.1 (by rw [← hy']; exact hy)
      have hn : ¬ (cnt (gX (k + 1)) (gDX (k + 1)) w = 0 ∨ cnt (gY (k + 1)) (gDY (k + 1)) h = 0) := by omega
      exact ⟨k, _, i, r, hget k hk, by simp only [atP, atW]; rw [if_neg hn]; exact hi, by simp only [atP, atH]; rw [if_neg hn]; exact hr, hx', hy'⟩
    by_cases h1 : y % 2 = 1
    · exact key 6 (by omega) x (y / 2) (by simp only [gX, gDX]; omega) (by simp only [gY, gDY]; omega)
    by_cases h2 : x % 2 = 1
    · exact key 5 (by omega) (x / 2) (y / 2) (by simp only [gX, gDX]; omega) (by simp only [gY, gDY]; omega)
    by_cases h3 : y % 4 = 2
    · exact key 4 (by omega) (x / 2) (y / 4) (by simp only [gX, gDX]; omega) (by simp only [gY, gDY]; omega)
    by_cases h4 : x % 4 = 2
    · exact key 3 (by omega) (x / 4) (y / 4) (by simp only [gX, gDX]; omega) (by simp only [gY, gDY]; omega)
    by_cases h5 : y % 8 = 4
    · exact key 2 (by omega) (x / 4) (y / 8) (by simp only [gX, gDX]; omega) (by simp only [gY, gDY]; omega)
    by_cases h6 : x % 8 = 4
    · exact key 1 (by omega) (x / 8) (y / 8) (by simp only [gX, gDX]; omega) (by simp only [gY, gDY]; omega)
    · exact key 0 (by omega) (x / 8) (y / 8) (by simp only [gX, gDX]; omega) (by simp only [gY, gDY]; omega)
end Go.Proofs.Ytkhglmmidgfliaa

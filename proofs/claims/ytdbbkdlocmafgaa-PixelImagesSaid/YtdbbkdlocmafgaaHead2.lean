/- The contracts of layer 12, head, second part: the document's May. -/
import Derived.Test.YtdbbkdlocmafgaaHead
namespace Go.Proofs.Ytdbbkdlocmafgaa
open Go.RowKit Go.Proofs.HK
set_option linter.unusedVariables false
set_option linter.unusedSimpArgs false
attribute [local go_sem] max2_int min2_int max_two min_two

/-- The document's table of kinds and depths. -/
def tabP : List (Int × Int) := [(0, 1), (0, 2), (0, 4), (0, 8), (0, 16), (2, 8), (2, 16), (3, 1), (3, 2), (3, 4), (3, 8), (4, 8), (4, 16), (6, 8), (6, 16)]
theorem tab_dep (C D : Int) : (C, D) ∈ tabP ↔ D ∈ depL C := by
  unfold tabP depL
  by_cases h0 : C = 0
  · subst h0; simp
  by_cases h2 : C = 2
  · subst h2; simp
  by_cases h3 : C = 3
  · subst h3; simp
  by_cases h4 : C = 4
  · subst h4; simp
  by_cases h6 : C = 6
  · subst h6; simp
  simp [h0, h2, h3, h4, h6]
def tabC : List Value := tabP.flatMap fun p => [.int .i64 p.1, .int .i64 p.2]
theorem tabC_get (k : Nat) (h : k < 15) : tabC[k * 2]? = some (.int .i64 (tabP[k]'h).1) ∧ tabC[k * 2 + 1]? = some (.int .i64 (tabP[k]'h).2) := by
  have : ∀ k : Fin 15, tabC[k.val * 2]? = some (.int .i64 (tabP[k.val]'k.isLt).1) ∧ tabC[k.val * 2 + 1]? = some (.int .i64 (tabP[k.val]'k.isLt).2) := by
    intro k
    match k with
    | ⟨0, _⟩ | ⟨1, _⟩ | ⟨2, _⟩ | ⟨3, _⟩ | ⟨4, _⟩ | ⟨5, _⟩ | ⟨6, _⟩ | ⟨7, _⟩ | ⟨8, _⟩ | ⟨9, _⟩ | ⟨10, _⟩ | ⟨11, _⟩ | ⟨12, _⟩ | ⟨13, _⟩ | ⟨14, _⟩ => exact ⟨rfl, rfl⟩
  exact this ⟨k, h⟩

set_option maxRecDepth 100000 in
set_option maxHeartbeats 4000000 in
theorem refMay_calls (W H C D : Int) (L : Bool) (w : World) : Calls Try.prog 43 #[headV W H C D L] w fun e w' => e = .returned (.bool (mayS W H C D)) ∧ Fr No w w' := by
  have hno : ¬ (0 < W ∧ 0 < H ∧ W ≤ 2048 ∧ H ≤ 2048 ∧ W * H ≤ 65536) → mayS W H C D = false := fun h => by
    unfold mayS; exact decide_eq_false (fun h' => h ⟨h'.1, h'.2.1, h'.2.2.1, h'.2.2.2.1, h'.2.2.2.2.1⟩)
  have hyes : (0 < W ∧ 0 < H ∧ W ≤ 2048 ∧ H ≤ 2048 ∧ W * H ≤ 65536) → mayS W H C D = decide (D ∈ depL C) := fun h => by
    unfold mayS
    by_cases hd : D ∈ depL C
    · rw [decide_eq_true ⟨h.1, h.2.1, h.2.2.1, h.2.2.2.1, h.2.2.2.2, hd⟩, decide_eq_true hd]
    · rw [decide_eq_false (fun h' => hd h'.2.2.2.2.2), decide_eq_false hd]
  unfold headV
  by_cases h1 : W < 1
  · have HN := hid (hno (fun h => by omega))
    clear hno hyes
    go_enter Try.func43, Try.ntmps43
    go_wp2
    go_ret
    exact ⟨by rw [HN.out]; rfl, (Fr.refl No w).alloc _⟩
  have h1' : 1 ≤ W := by omega
  by_cases h2 : 2048 < W
  · have HN := hid (hno (fun h => by omega))
    clear hno hyes h1
    go_enter Try.func43, Try.ntmps43
    go_wp2
    go_ret
    exact ⟨by rw [HN.out]; rfl, (Fr.refl No w).alloc _⟩
  have h2' : W ≤ 2048 := by omega
  by_cases h3 : H < 1
  · have HN := hid (hno (fun h => by omega))
    clear hno hyes h1 h2
    go_enter Try.func43, Try.ntmps43
    go_wp2
    go_ret
    exact ⟨by rw [HN.out]; rfl, (Fr.refl No w).alloc _⟩
  have h3' : 1 ≤ H := by omega
  by_cases h4 : 2048 < H
  · have HN := hid (hno (fun h => by omega))
    clear hno hyes h1 h2 h3
    go_enter Try.func43, Try.ntmps43
    go_wp2
    go_ret
    exact ⟨by rw [HN.out]; rfl, (Fr.refl No w).alloc _⟩
  have h4' : H ≤ 2048 := by omega
  obtain ⟨hw, hp0, hp1⟩ := mul_wrap W H (by omega) (by omega) h2' h4'
  by_cases h5 : 65536 < W * H
  · have HN := hid (hno (fun h => by omega))
    clear hno hyes h1 h2 h3 h4
    go_enter Try.func43, Try.ntmps43
    go_wp2
    go_ret
    exact ⟨by rw [HN.out]; rfl, (Fr.refl No w).alloc _⟩
  have h5' : W * H ≤ 65536 := by omega
  have HN := hid (hyes ⟨by omega, by omega, h2', h4', h5'⟩)
  clear hno hyes h1 h2 h3 h4 h5
  go_enter Try.func43, Try.ntmps43
  go_wp2
  obtain ⟨W0, hW0⟩ : ∃ W0, W0 = w.alloc (.cells #[.int .i64 W, .int .i64 H, .int .i64 C, .int .i64 D, .bool L] 31) := ⟨_, rfl⟩
  rw [← hW0]
  obtain ⟨W1, hW1⟩ : ∃ W1, W1 = W0.alloc (.cells tabC.toArray 78) := ⟨_, rfl⟩
  have hsz : W0.heap.size = w.heap.size + 1 := by rw [hW0, World.size_alloc]
  have hf0 : Fr No w W0 := by rw [hW0]; exact (Fr.refl _ _).alloc _
  have hf1 : Fr No W0 W1 := by rw [hW1]; exact (Fr.refl _ _).alloc _
  have hs1 : W1.heap.size = w.heap.size + 2 := by rw [hW1, World.size_alloc, hsz]
  have htab : ∀ (k : Nat) (v : Value), tabC[k]? = some v → W1.cell? ⟨w.heap.size + 1, k, none⟩ = some v := fun k v h => by
    have := cell_new1 W0 tabC.toArray 78 k v (by simpa using h)
    rw [← hW1, hsz] at this
    exact this
  have hc2 : W1.cell? ⟨w.heap.size, 2, none⟩ = some (.int .i64 C) := (hf1.cellg _ 2 (by omega) (fun h => h)).trans (by rw [hW0]; exact cell_new1 w _ _ 2 _ rfl)
  have hc3 : W1.cell? ⟨w.heap.size, 3, none⟩ = some (.int .i64 D) := (hf1.cellg _ 3 (by omega) (fun h => h)).trans (by rw [hW0]; exact cell_new1 w _ _ 3 _ rfl)
  rw [show W0.alloc (.cells #[.int .i64 0, .int .i64 1, .int .i64 0, .int .i64 2, .int .i64 0, .int .i64 4, .int .i64 0, .int .i64 8, .int .i64 0, .int .i64 16, .int .i64 2, .int .i64 8, .int .i64 2, .int .i64 16, .int .i64 3, .int .i64 1, .int .i64 3, .int .i64 2, .int .i64 3, .int .i64 4, .int .i64 3, .int .i64 8, .int .i64 4, .int .i64 8, .int .i64 4, .int .i64 16, .int .i64 6, .int .i64 8, .int .i64 6, .int .i64 16] 78) = W1 from hW1.symm]
  have HW := hid (And.intro (hf0.then hf1) (And.intro htab (And.intro hc2 hc3)))
  obtain ⟨g0, hg0⟩ : ∃ g0, g0 = w.heap.size := ⟨_, rfl⟩
  rw [← hg0] at HW hs1 ⊢
  clear hW0 hW1 hf0 hf1 htab hc2 hc3 hsz hg0 W0
  go_loopw [48] (fun i wr => ∃ k : Nat, k ≤ 15 ∧ i = .int .i64 k ∧ Hid (∀ j (h : j < 15), j < k → tabP[j]'h ≠ (C, D)) ∧ Fr No W1 wr) (fun i _ => 15 - (intOf i).toNat)
  case atStart => exact ⟨0, by omega, rfl, fun j h h' => absurd h' (by omega), Fr.refl _ _⟩
  case round =>
    obtain ⟨k, hk, rfl, hne, hfr⟩ := hrel
    have HF := hid hfr
    by_cases hlt : k < 15
    · have ht := tabC_get k hlt
      obtain ⟨p, hp⟩ : ∃ p, p = tabP[k]'hlt := ⟨_, rfl⟩
      rw [← hp] at ht
      have t0 := (hfr.cellg (g0 + 1) (k * 2) (by omega) (fun h => h)).trans (HW.out.2.1 _ _ ht.1)
      have t1 := (hfr.cellg (g0 + 1) (k * 2 + 1) (by omega) (fun h => h)).trans (HW.out.2.1 _ _ ht.2)
      have c2 := (hfr.cellg g0 2 (by omega) (fun h => h)).trans HW.out.2.2.1
      have c3 := (hfr.cellg g0 3 (by omega) (fun h => h)).trans HW.out.2.2.2
      have d2 : ∀ o, (wr.alloc o).cell? ⟨g0, 2, none⟩ = some (.int .i64 C) := fun o => (((Fr.refl No wr).alloc o).cellg g0 2 (by have := hfr.size; omega) (fun h => h)).trans c2
      have d3 : ∀ o, (wr.alloc o).cell? ⟨g0, 3, none⟩ = some (.int .i64 D) := fun o => (((Fr.refl No wr).alloc o).cellg g0 3 (by have := hfr.size; omega) (fun h => h)).trans c3
      obtain ⟨x, y⟩ := p
      simp only at t0 t1
      have HP := hid hp
      clear ht hp hfr
      by_cases hx : C = x
      · have bx : (C == x) = true := by simpa using hx
        by_cases hy : D = y
        · have bd : (D == y) = true := by simpa using hy
          have HE := hid (And.intro hx hy)
          clear hx hy
          go_wp2_with fail
          go_ret
          exact ⟨by rw [HN.out, decide_eq_true ((tab_dep C D).1 (by rw [HE.out.1, HE.out.2, HP.out]; exact List.getElem_mem _))]; rfl, (HW.out.1.then HF.out).alloc _⟩
        · have bd : (D == y) = false := by simpa using hy
          have HE := hid hy
          clear hx hy
          go_wp2_with fail
          go_roundw
          case rel =>
            refine ⟨k + 1, by omega, by go_num, fun j h h' e => ?_, HF.out.alloc _⟩
            by_cases hj : j = k
            · subst hj; rw [← HP.out] at e; injection e with _ e; exact HE.out e.symm
            · exact hne.out j h (by omega) e
          case measure => simp [intOf] <;> omega
      · have bx : (C == x) = false := by simpa using hx
        have HE := hid hx
        clear hx
        go_wp2_with fail
        go_roundw
        case rel =>
          refine ⟨k + 1, by omega, by go_num, fun j h h' e => ?_, HF.out.alloc _⟩
          by_cases hj : j = k
          · subst hj; rw [← HP.out] at e; injection e with e _; exact HE.out e.symm
          · exact hne.out j h (by omega) e
        case measure => simp [intOf] <;> omega
    · have hge : k = 15 := by omega
      have hnm : D ∉ depL C := fun h => by
        obtain ⟨j, hj, e⟩ := List.getElem_of_mem ((tab_dep C D).2 h)
        exact hne.out j hj (by have : j < 15 := hj; omega) e
      have HM := hid hnm
      clear hnm hfr hlt
      subst hge
      go_wp2_with fail
      go_ret
      exact ⟨by rw [HN.out, decide_eq_false HM.out]; rfl, HW.out.1.then HF.out⟩
end Go.Proofs.Ytdbbkdlocmafgaa

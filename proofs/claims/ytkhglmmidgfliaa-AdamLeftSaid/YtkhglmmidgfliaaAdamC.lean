/- adam.At and the document's At. -/
import Derived.Test.YtkhglmmidgfliaaAdamA
import Derived.Test.YtkhglmmidgfliaaAdamB
namespace Go.Proofs.Ytkhglmmidgfliaa
open Go.RowKit Go.Proofs.HK
set_option linter.unusedVariables false
set_option linter.unusedSimpArgs false
attribute [local go_sem] max2_int min2_int max_two min_two

theorem atV_good {p w h : Int} (hok : atOk p w h) : atV p w h = passV (gX p.toNat) (gY p.toNat) (gDX p.toNat) (gDY p.toNat) (atW p.toNat w.toNat h.toNat) (atH p.toNat w.toNat h.toNat) := if_pos hok
theorem atV_bad {p w h : Int} (hok : ¬ atOk p w h) : atV p w h = passV 0 0 0 0 0 0 := if_neg hok
set_option maxRecDepth 100000 in
set_option maxHeartbeats 1600000 in
theorem at_calls (p W H : Int) (w : World) : Calls Try.prog 15 #[.int .i64 p, .int .i64 W, .int .i64 H] w fun e w' => e = .returned (atV p W H) ∧ Fr No w w' := by
  by_cases hok : atOk p W H
  · have hok' := hok
    obtain ⟨h1, h2, h3, h4, h5, h6⟩ := hok
    rw [atV_good hok']
    obtain ⟨wn, rfl⟩ : ∃ n : Nat, W = n := ⟨W.toNat, by omega⟩
    obtain ⟨hn, rfl⟩ : ∃ n : Nat, H = n := ⟨H.toNat, by omega⟩
    rw [Int.toNat_natCast, Int.toNat_natCast]
    have hp : p = 1 ∨ p = 2 ∨ p = 3 ∨ p = 4 ∨ p = 5 ∨ p = 6 ∨ p = 7 := by omega
    rcases hp with rfl | rfl | rfl | rfl | rfl | rfl | rfl
    · exact at_1 wn hn (by omega) (by omega) (by omega) (by omega) w
    · exact at_2 wn hn (by omega) (by omega) (by omega) (by omega) w
    · exact at_3 wn hn (by omega) (by omega) (by omega) (by omega) w
    · exact at_4 wn hn (by omega) (by omega) (by omega) (by omega) w
    · exact at_5 wn hn (by omega) (by omega) (by omega) (by omega) w
    · exact at_6 wn hn (by omega) (by omega) (by omega) (by omega) w
    · exact at_7 wn hn (by omega) (by omega) (by omega) (by omega) w
  · have HBAD := hid (atV_bad hok)
    have hmn : mn W H < 1 ↔ W < 1 ∨ H < 1 := by unfold mn; split <;> omega
    have hmx : mx W H > 2048 ↔ W > 2048 ∨ H > 2048 := by unfold mx; split <;> omega
    unfold atOk at hok
    have hb : p < 1 ∨ ¬ p < 1 ∧ p > 7 ∨ ¬ p < 1 ∧ ¬ p > 7 ∧ mn W H < 1 ∨ ¬ p < 1 ∧ ¬ p > 7 ∧ ¬ mn W H < 1 ∧ mx W H > 2048 := by omega
    clear hok hmn hmx
    rcases hb with hb | ⟨hb1, hb2⟩ | ⟨hb1, hb2, hb3⟩ | ⟨hb1, hb2, hb3, hb4⟩
    all_goals
      go_enter Try.func15, Try.ntmps15
      go_wp2_with fail
      refine ret_pass rfl (x := 0) (y := 0) (z := 0) (u := 0) (v := 0) (t := 0) (heap_new _ _) rfl rfl ?_
      rw [HBAD.out]
      exact ⟨rfl, (Fr.refl No w).alloc _⟩
theorem cnt_lt (g d w j : Nat) (hd : 1 ≤ d) : j < cnt g d w ↔ g + d * j < w := by
  unfold cnt
  have h := Nat.le_div_iff_mul_le (x := j + 1) (y := w + (d - 1) - g) hd
  rw [Nat.succ_mul, Nat.mul_comm] at h
  omega
theorem res_arr4 (W : World) (g : Nat) (a b c d : Int) (hb : W.heap[g]? = some (.cells #[.int .i64 a, .int .i64 b, .int .i64 c, .int .i64 d] 72 (0, 0))) :
    (Go.asAddr (Value.pointer (some ⟨g, 0, none⟩))).run Try.prog W = .ok ⟨g, 0, none⟩ W ∧ (Go.loadVar 72 ⟨g, 0, none⟩).run Try.prog W = .ok (.agg #[.int .i64 a, .int .i64 b, .int .i64 c, .int .i64 d]) W := by
  have c0 : W.cell? ⟨g, 0, none⟩ = some (.int .i64 a) := by simp [World.cell?, hb]
  have c1 : W.cell? ⟨g, 1, none⟩ = some (.int .i64 b) := by simp [World.cell?, hb]
  have c2 : W.cell? ⟨g, 2, none⟩ = some (.int .i64 c) := by simp [World.cell?, hb]
  have c3 : W.cell? ⟨g, 3, none⟩ = some (.int .i64 d) := by simp [World.cell?, hb]
  refine ⟨by simp [Go.asAddr], ?_⟩
  unfold Go.loadVar
  go_simp
theorem ret_arr4 {R : Ending → World → Prop} {W : World} {g : Nat} {x y z u : Int} {a : Act} (hb : W.heap[g]? = some (.cells #[.int .i64 x, .int .i64 y, .int .i64 z, .int .i64 u] 72 (0, 0)))
    (h2 : a.tmps.getD 2 undef = .pointer (some ⟨g, 0, none⟩)) (hd : a.defers = []) (hR : R (.returned (.agg #[.int .i64 x, .int .i64 y, .int .i64 z, .int .i64 u])) W) : bodyPost Try.prog Try.f48 R .ret a W := by
  refine bodyPost_ret (v := .agg #[.int .i64 x, .int .i64 y, .int .i64 z, .int .i64 u]) ?_ hd hR
  have hres : Try.f48.results = #[.cell 2 72] := rfl
  have hr := res_arr4 W g x y z u hb
  have h2' : a.tmps[2]?.getD undef = .pointer (some ⟨g, 0, none⟩) := by simpa using h2
  simp [results, hres, h2', hr.1, hr.2]
set_option maxRecDepth 100000 in
set_option maxHeartbeats 1600000 in
theorem grid_calls (p : Nat) (h1 : 1 ≤ p) (h7 : p ≤ 7) (w : World) : Calls Try.prog 48 #[.int .i64 p] w fun e w' => e = .returned (.agg #[.int .i64 (gX p), .int .i64 (gY p), .int .i64 (gDX p), .int .i64 (gDY p)]) ∧ Fr No w w' := by
  have hp : p = 1 ∨ p = 2 ∨ p = 3 ∨ p = 4 ∨ p = 5 ∨ p = 6 ∨ p = 7 := by omega
  clear h1 h7
  rcases hp with rfl | rfl | rfl | rfl | rfl | rfl | rfl
  all_goals
    go_enter Try.func48, Try.ntmps48
    go_wp2_with fail
    refine ret_arr4 (g := w.heap.size) ((((Fr.refl No _).alloc _).block w.heap.size (by rw [World.size_alloc]; omega) (fun h => h)).trans (heap_new _ _)) rfl rfl ?_
    exact ⟨rfl, ((Fr.refl No w).alloc _).alloc _⟩
end Go.Proofs.Ytkhglmmidgfliaa

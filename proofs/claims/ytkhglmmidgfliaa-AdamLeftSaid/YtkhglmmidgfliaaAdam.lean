/- The contracts of adam.sized, of the document's Sized, grid and of adam.At. -/
import Derived.Test.YtkhglmmidgfliaaHead
import Derived.Deep.RegionHeld3
namespace Go.Proofs.Ytkhglmmidgfliaa
open Go.RowKit Go.Proofs.HK
set_option linter.unusedVariables false
set_option linter.unusedSimpArgs false
attribute [local go_sem] max2_int min2_int max_two min_two

def sizS (W H : Int) : Bool := decide (0 < W ∧ 0 < H ∧ W ≤ 2048 ∧ H ≤ 2048 ∧ W * H ≤ 65536)
def passV (X Y DX DY W H : Int) : Value := .agg #[.int .i64 X, .int .i64 Y, .int .i64 DX, .int .i64 DY, .int .i64 W, .int .i64 H]
set_option maxRecDepth 100000 in
theorem sized_calls (W H : Int) (w : World) : Calls Try.prog 51 #[.int .i64 W, .int .i64 H] w fun e w' => e = .returned (.bool (sizS W H)) ∧ w' = w := by
  by_cases hm : 0 < W ∧ 0 < H
  · have hmn : 0 < mn W H := by unfold mn; split <;> omega
    by_cases hx : W ≤ 2048 ∧ H ≤ 2048
    · have hmx : mx W H ≤ 2048 := by unfold mx; split <;> omega
      obtain ⟨hw, hp0, hp1⟩ := mul_wrap W H hm.1 hm.2 hx.1 hx.2
      by_cases hp : W * H ≤ 65536
      · have HR := hid (show sizS W H = true from decide_eq_true ⟨hm.1, hm.2, hx.1, hx.2, hp⟩)
        clear hm hx
        obtain ⟨P, hP⟩ : ∃ P, P = W * H := ⟨_, rfl⟩
        go_enter Try.func51, Try.ntmps51
        go_wp2
        go_ret
        exact ⟨by rw [HR.out]; rfl, rfl⟩
      · have HR := hid (show sizS W H = false from decide_eq_false (fun h => hp h.2.2.2.2))
        have hp' : decide (W * H ≤ 65536) = false := decide_eq_false hp
        clear hm hx hp
        go_enter Try.func51, Try.ntmps51
        go_wp2
        go_ret
        exact ⟨by rw [HR.out]; rfl, rfl⟩
    · have HR := hid (show sizS W H = false from decide_eq_false (fun h => hx ⟨h.2.2.1, h.2.2.2.1⟩))
      have hmx : 2048 < mx W H := by unfold mx; split <;> omega
      clear hm hx
      go_enter Try.func51, Try.ntmps51
      go_wp2
      go_ret
      exact ⟨by rw [HR.out]; rfl, rfl⟩
  · have HR := hid (show sizS W H = false from decide_eq_false (fun h => hm ⟨h.1, h.2.1⟩))
    have hmn : mn W H ≤ 0 := by unfold mn; split <;> omega
    clear hm
    go_enter Try.func51, Try.ntmps51
    go_wp2
    go_ret
    exact ⟨by rw [HR.out]; rfl, rfl⟩

/-- PNG's passes. -/
def gX : Nat → Nat | 2 => 4 | 4 => 2 | 6 => 1 | _ => 0
def gY : Nat → Nat | 3 => 4 | 5 => 2 | 7 => 1 | _ => 0
def gDX : Nat → Nat | 1 => 8 | 2 => 8 | 3 => 4 | 4 => 4 | 5 => 2 | 6 => 2 | _ => 1
def gDY : Nat → Nat | 1 => 8 | 2 => 8 | 3 => 8 | 4 => 4 | 5 => 4 | 6 => 2 | _ => 2
/-- How many places g, g + d, .. lie below w. -/
def cnt (g d w : Nat) : Nat := (w + (d - 1) - g) / d
def atW (p w h : Nat) : Nat := if cnt (gX p) (gDX p) w = 0 ∨ cnt (gY p) (gDY p) h = 0 then 0 else cnt (gX p) (gDX p) w
def atH (p w h : Nat) : Nat := if cnt (gX p) (gDX p) w = 0 ∨ cnt (gY p) (gDY p) h = 0 then 0 else cnt (gY p) (gDY p) h
def atOk (p w h : Int) : Prop := 1 ≤ p ∧ p ≤ 7 ∧ 1 ≤ w ∧ w ≤ 2048 ∧ 1 ≤ h ∧ h ≤ 2048
instance (p w h : Int) : Decidable (atOk p w h) := by unfold atOk; exact inferInstance
def atV (p w h : Int) : Value := if atOk p w h then passV (gX p.toNat) (gY p.toNat) (gDX p.toNat) (gDY p.toNat) (atW p.toNat w.toNat h.toNat) (atH p.toNat w.toNat h.toNat) else passV 0 0 0 0 0 0

theorem res_pass (W : World) (g : Nat) (a b c d e f : Int) (hb : W.heap[g]? = some (.cells #[.int .i64 a, .int .i64 b, .int .i64 c, .int .i64 d, .int .i64 e, .int .i64 f] 24 (0, 0))) :
    (Go.asAddr (Value.pointer (some ⟨g, 0, none⟩))).run Try.prog W = .ok ⟨g, 0, none⟩ W ∧ (Go.loadVar 24 ⟨g, 0, none⟩).run Try.prog W = .ok (passV a b c d e f) W := by
  have c0 : W.cell? ⟨g, 0, none⟩ = some (.int .i64 a) := by simp [World.cell?, hb]
  have c1 : W.cell? ⟨g, 1, none⟩ = some (.int .i64 b) := by simp [World.cell?, hb]
  have c2 : W.cell? ⟨g, 2, none⟩ = some (.int .i64 c) := by simp [World.cell?, hb]
  have c3 : W.cell? ⟨g, 3, none⟩ = some (.int .i64 d) := by simp [World.cell?, hb]
  have c4 : W.cell? ⟨g, 4, none⟩ = some (.int .i64 e) := by simp [World.cell?, hb]
  have c5 : W.cell? ⟨g, 5, none⟩ = some (.int .i64 f) := by simp [World.cell?, hb]
  refine ⟨by simp [Go.asAddr], ?_⟩
  unfold Go.loadVar
  go_simp
  rfl
theorem ret_pass {fn : Func} (hres : fn.results = #[.cell 6 24]) {R : Ending → World → Prop} {W : World} {g : Nat} {x y z u v t : Int} {a : Act} (hb : W.heap[g]? = some (.cells #[.int .i64 x, .int .i64 y, .int .i64 z, .int .i64 u, .int .i64 v, .int .i64 t] 24 (0, 0)))
    (h2 : a.tmps.getD 6 undef = .pointer (some ⟨g, 0, none⟩)) (hd : a.defers = []) (hR : R (.returned (passV x y z u v t)) W) : bodyPost Try.prog fn R .ret a W := by
  refine bodyPost_ret (v := passV x y z u v t) ?_ hd hR
  have hr := res_pass W g x y z u v t hb
  have h2' : a.tmps[6]?.getD undef = .pointer (some ⟨g, 0, none⟩) := by simpa using h2
  simp [results, hres, h2', hr.1, hr.2]

theorem keep4s {w : World} {g i : Nat} {u : Value} {a b c d : Option Value} (hi : 4 ≤ i) (h : w.cell? ⟨g, 0, none⟩ = a ∧ w.cell? ⟨g, 1, none⟩ = b ∧ w.cell? ⟨g, 2, none⟩ = c ∧ w.cell? ⟨g, 3, none⟩ = d) :
    (w.setCell ⟨g, i, none⟩ u).cell? ⟨g, 0, none⟩ = a ∧ (w.setCell ⟨g, i, none⟩ u).cell? ⟨g, 1, none⟩ = b ∧ (w.setCell ⟨g, i, none⟩ u).cell? ⟨g, 2, none⟩ = c ∧ (w.setCell ⟨g, i, none⟩ u).cell? ⟨g, 3, none⟩ = d := by
  have e : ∀ j, j < 4 → (w.setCell ⟨g, i, none⟩ u).cell? ⟨g, j, none⟩ = w.cell? ⟨g, j, none⟩ := fun j hj => World.cell?_setCell_other _ _ _ _ (by intro e; injection e; omega)
  rw [e 0 (by decide), e 1 (by decide), e 2 (by decide), e 3 (by decide)]; exact h
theorem blk6 {W : World} {g : Nat} {v0 v1 v2 v3 v4 v5 : Value} {t : TypeId} (hb : W.heap[g]? = some (.cells #[v0, v1, v2, v3, v4, v5] t (0, 0))) :
    (W.cell? ⟨g, 0, none⟩ = some v0 ∧ W.cell? ⟨g, 1, none⟩ = some v1 ∧ W.cell? ⟨g, 2, none⟩ = some v2 ∧ W.cell? ⟨g, 3, none⟩ = some v3 ∧ W.cell? ⟨g, 4, none⟩ = some v4 ∧ W.cell? ⟨g, 5, none⟩ = some v5) ∧
    W.frozen? ⟨g, 0, none⟩ = false ∧ W.frozen? ⟨g, 1, none⟩ = false ∧ W.frozen? ⟨g, 2, none⟩ = false ∧ W.frozen? ⟨g, 3, none⟩ = false ∧ W.frozen? ⟨g, 4, none⟩ = false ∧ W.frozen? ⟨g, 5, none⟩ = false := by
  simp [World.cell?, World.frozen?, hb]
theorem num_a (X D n : Nat) (hX : X ≤ 4) (hXD : X < D) (hD8 : D ≤ 8) (hn : n ≤ 2048) : IntKind.i64.wrap ((IntKind.i64.wrap (IntKind.i64.wrap (IntKind.i64.wrap ((n : Int) - (X : Int)) + (D : Int)) - 1)).tdiv (D : Int)) = ((cnt X D n : Nat) : Int) := by
  have e1 : IntKind.i64.wrap ((n : Int) - (X : Int)) = (n : Int) - (X : Int) := by rw [IntKind.wrap_i64]; omega
  have e2 : IntKind.i64.wrap ((n : Int) - (X : Int) + (D : Int)) = (n : Int) - (X : Int) + (D : Int) := by rw [IntKind.wrap_i64]; omega
  have e3 : IntKind.i64.wrap ((n : Int) - (X : Int) + (D : Int) - 1) = ((n + (D - 1) - X : Nat) : Int) := by rw [IntKind.wrap_i64]; omega
  have e4 : (((n + (D - 1) - X : Nat) : Int)).tdiv (D : Int) = ((cnt X D n : Nat) : Int) := by
    rw [Int.tdiv_eq_ediv_of_nonneg (by omega)]; rfl
  have e5 : cnt X D n ≤ 3000 := Nat.le_trans (Nat.div_le_self _ _) (by omega)
  rw [e1, e2, e3, e4]
  exact w64 _ (by omega) (by omega)
theorem num_b (D n : Nat) (h1 : 1 ≤ D) (hD8 : D ≤ 8) (hn : n ≤ 2048) : IntKind.i64.wrap ((IntKind.i64.wrap (IntKind.i64.wrap (IntKind.i64.wrap (n : Int) + (D : Int)) - 1)).tdiv (D : Int)) = ((cnt 0 D n : Nat) : Int) := by
  have := num_a 0 D n (by omega) (by omega) hD8 hn
  simpa using this
end Go.Proofs.Ytkhglmmidgfliaa

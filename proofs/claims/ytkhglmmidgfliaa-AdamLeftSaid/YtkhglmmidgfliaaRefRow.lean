/- The document's row of places. -/
import Derived.Test.YtkhglmmidgfliaaDocL
import Derived.Test.YtkhglmmidgfliaaLns
namespace Go.Proofs.Ytkhglmmidgfliaa
open Go.RowKit Go.Proofs.HK
set_option linter.unusedVariables false
set_option linter.unusedSimpArgs false
attribute [local go_sem] max2_int min2_int max_two min_two

def refRowN (x y step k : Nat) : List (Nat × Nat) := (List.range k).map fun i => (x + i * step, y)
theorem refRowN_succ (x y step k : Nat) : refRowN x y step (k + 1) = refRowN x y step k ++ [(x + k * step, y)] := by simp [refRowN, List.range_succ]
theorem refRowN_all (x y step w : Nat) : refRowN x y step (cnt x step w) = refRow x y step w := rfl
theorem blk2 {W : World} {g : Nat} {v0 v1 : Value} {t : TypeId} (hb : W.heap[g]? = some (.cells #[v0, v1] t (0, 0))) :
    W.cell? ⟨g, 0, none⟩ = some v0 ∧ W.cell? ⟨g, 1, none⟩ = some v1 ∧ W.frozen? ⟨g, 0, none⟩ = false ∧ W.frozen? ⟨g, 1, none⟩ = false := by
  simp [World.cell?, World.frozen?, hb]
theorem res_line (W : World) (g : Nat) (a : Int) (s : Value) (hb : W.heap[g]? = some (.cells #[.int .i64 a, s] 43 (0, 0))) (hs : ∃ A n c, s = .slice A n c) :
    (Go.asAddr (Value.pointer (some ⟨g, 0, none⟩))).run Try.prog W = .ok ⟨g, 0, none⟩ W ∧ (Go.loadVar 43 ⟨g, 0, none⟩).run Try.prog W = .ok (.agg #[.int .i64 a, s]) W := by
  obtain ⟨A, n, c, rfl⟩ := hs
  obtain ⟨c0, c1, _⟩ := blk2 hb
  refine ⟨by simp [Go.asAddr], ?_⟩
  unfold Go.loadVar
  go_simp
theorem ret_line {fn : Func} (hres : fn.results = #[.cell 10 43]) {R : Ending → World → Prop} {W : World} {g : Nat} {x : Int} {s : Value} {a : Act} (hb : W.heap[g]? = some (.cells #[.int .i64 x, s] 43 (0, 0))) (hs : ∃ A n c, s = .slice A n c)
    (h2 : a.tmps.getD 10 undef = .pointer (some ⟨g, 0, none⟩)) (hd : a.defers = []) (hR : R (.returned (.agg #[.int .i64 x, s])) W) : bodyPost Try.prog fn R .ret a W := by
  refine bodyPost_ret (v := .agg #[.int .i64 x, s]) ?_ hd hR
  have hr := res_line W g x s hb hs
  have h2' : a.tmps[10]?.getD undef = .pointer (some ⟨g, 0, none⟩) := by simpa using h2
  simp [results, hres, h2', hr.1, hr.2]
/-- e tells a line of the places l, just made. -/
def RetL (w : World) (p : Nat) (l : List (Nat × Nat)) (e : Ending) (w' : World) : Prop :=
  ∃ x : LN, e = .returned (.agg #[.int .i64 x.p, .slice x.A x.s.length x.c]) ∧ x.p = p ∧ x.s = l ∧ Cells w' x.A (spotC x.s) ∧ (∀ ad, x.A = some ad → w.heap.size ≤ ad.block ∧ ad.block < w'.heap.size) ∧ Fr No w w'
set_option maxRecDepth 100000 in
set_option maxHeartbeats 1600000 in
theorem refRow_calls (p X Y D W : Nat) (hp : p ≤ 100) (hX : X ≤ 4096) (hY : Y ≤ 4096) (hD : 1 ≤ D) (hD8 : D ≤ 8) (hW : W ≤ 2048) (w : World) :
    Calls Try.prog 50 #[.int .i64 p, .int .i64 X, .int .i64 Y, .int .i64 D, .int .i64 W] w (RetL w p (refRow X Y D W)) := by
  have hc3 := cnt_le X D W hW hD8
  go_enter Try.func50, Try.ntmps50
  go_wp2_with fail
  obtain ⟨g0, hg0⟩ : ∃ g, g = w.heap.size := ⟨_, rfl⟩
  obtain ⟨w1, hw1⟩ : ∃ w1, w1 = (w.alloc (.cells #[.int .i64 0, .slice none 0 0] 43)).alloc (.cells #[.int .i64 p, .slice none 0 0] 43) := ⟨_, rfl⟩
  have hb1 : w1.heap[g0 + 1]? = some (.cells #[.int .i64 p, .slice none 0 0] 43 (0, 0)) := by
    have := heap_new (w.alloc (.cells #[.int .i64 0, .slice none 0 0] 43)) (.cells #[.int .i64 p, .slice none 0 0] 43)
    rw [World.size_alloc, ← hg0] at this; rw [hw1]; exact this
  have hb0 : w1.heap[g0]? = some (.cells #[.int .i64 0, .slice none 0 0] 43 (0, 0)) := by
    rw [hw1, hg0, ((Fr.refl No (w.alloc _)).alloc _).block w.heap.size (by rw [World.size_alloc]; omega) (fun h => h)]; exact heap_new _ _
  have hf1 : Fr No w w1 := by rw [hw1]; exact ((Fr.refl _ _).alloc _).alloc _
  have hs1 : w1.heap.size = g0 + 1 + 1 := by rw [hw1, World.size_alloc, World.size_alloc, hg0]
  rw [← hw1, ← hg0]
  have HW := hid (And.intro hb0 (And.intro hf1 hg0))
  clear hw1 hb0 hf1 hg0
  go_loopw [1] (fun x wr => ∃ (k xx : Nat) (A : Option Addr) (c : Nat) (ob : Option Nat), x = .int .i64 xx ∧ Hid (xx = X + k * D ∧ k ≤ cnt X D W ∧ wr.heap[g0 + 1]? = some (.cells #[.int .i64 p, .slice A k c] 43 (0, 0)) ∧
      Row wr 2 (.slice A k c) ob k (spotC (refRowN X Y D k)) ∧ (∀ q, ob = some q → w1.heap.size ≤ q) ∧ Fr (One (g0 + 1)) w1 wr)) (fun x _ => W - (intOf x).toNat)
  case atStart => exact ⟨0, X, none, 0, none, rfl, by simp, Nat.zero_le _, hb1, Row.nil _ _, fun _ h => (by cases h), Fr.refl _ _⟩
  case round =>
    obtain ⟨k, xx, A, c, ob, rfl, HR⟩ := hrel
    have hk3 : k ≤ 3000 := Nat.le_trans HR.out.2.1 hc3
    obtain ⟨p0, p1, q0, q1⟩ := blk2 HR.out.2.2.1
    by_cases hlt : xx < W
    · have hlt' : (xx : Int) < (W : Int) := by omega
      have hjc : k < cnt X D W := (cnt_lt X D W k hD).2 (by rw [Nat.mul_comm, ← HR.out.1]; exact hlt)
      have hnob : ¬ Opt ob (g0 + 1) := fun e => by have := HR.out.2.2.2.2.1 (g0 + 1) e.symm; omega
      have HN := hid (And.intro hjc hnob)
      clear hjc hnob
      go_wp2_with (at_builtin; refine wpList_app1 slSpot rfl (.tmp 21) (.tmp 25) rfl rfl HR.out.2.2.2.1 rfl (m := 1) (c := 1) (ys := [.int .i64 xx, .int .i64 Y]) rfl (by simp [Value.oneCell']) (by omega) (by omega) ?_; intro A2 c2 w3 ob2 hrow2 hfr2 hob2; have hB := (hfr2.block (g0 + 1) (Array.getElem?_eq_some_iff.1 HR.out.2.2.1).1 HN.out.2).trans HR.out.2.2.1; have HB := hid hB; obtain ⟨r0, r1, s0, s1⟩ := blk2 hB; clear hB p0 p1 q0 q1)
      go_roundw
      case rel =>
        have hsz := HR.out.2.2.2.2.2.size
        refine ⟨k + 1, xx + D, A2, c2, ob2, by go_num, by rw [HR.out.1, Nat.succ_mul]; omega, HN.out.1, ?_, ?_, fun q hq => ?_, ?_⟩
        · rw [heap_set _ _ _ _ _ _ HB.out]; rfl
        · rw [refRowN_succ, spotC_append, ← HR.out.1]
          refine hrow2.fr (Fr.set1 _ _ _ _) (fun q hq (e : q = g0 + 1) => ?_)
          rcases hob2 with h | ⟨j, h, hj⟩
          · have := HR.out.2.2.2.2.1 q (by rw [← h]; exact hq); omega
          · rw [h] at hq; injection hq with hq; omega
        · rcases hob2 with h | ⟨j, h, hj⟩
          · exact HR.out.2.2.2.2.1 q (by rw [← h]; exact hq)
          · rw [h] at hq; injection hq with hq; omega
        · exact (HR.out.2.2.2.2.2.trans hfr2 (fun q hq e => absurd (HR.out.2.2.2.2.1 q e.symm) (by omega))).then (Fr.set1 _ _ _ _)
      case measure => simp [intOf] <;> omega
    · have hge : ¬ ((xx : Int) < (W : Int)) := by omega
      have hke : k = cnt X D W := by
        have h1 : ¬ k < cnt X D W := fun h => hlt (by have := (cnt_lt X D W k hD).1 h; rw [Nat.mul_comm, ← HR.out.1] at this; exact this)
        have := HR.out.2.1
        omega
      have HK := hid hke
      clear hlt hke
      have h0 := (HR.out.2.2.2.2.2.block g0 (by omega) (fun e => by have e : g0 = g0 + 1 := e; omega)).trans HW.out.1
      obtain ⟨r0, r1, s0, s1⟩ := blk2 h0
      have H0 := hid h0
      clear h0
      go_wp2_with fail
      refine ret_line rfl (g := g0) (x := p) (s := .slice A k c) ?_ ⟨_, _, _, rfl⟩ rfl rfl ?_
      · rw [heap_set _ _ _ _ _ _ (heap_set _ _ _ _ _ _ H0.out)]; rfl
      · have hz : Fr (One g0) wr ((wr.setCell ⟨g0, 0, none⟩ (.int .i64 p)).setCell ⟨g0, 1, none⟩ (.slice A k c)) := (Fr.set1 _ _ _ _).then (Fr.set1 _ _ _ _)
        have hrow := HR.out.2.2.2.1
        rw [HK.out, refRowN_all] at hrow
        obtain ⟨A', c', e', _, hcel, hA'⟩ := hrow.cells
        injection e' with e1 _ e2
        subst e1
        have hgw := HW.out.2.2
        have hsz := HR.out.2.2.2.2.2.size
        refine ⟨⟨p, refRow X Y D W, A, c⟩, by rw [refRow_length, ← HK.out], rfl, rfl, hcel.fr hz (fun ad e (e2 : ad.block = g0) => ?_), fun ad e => ?_, (HW.out.2.1.trans HR.out.2.2.2.2.2 (fun q hq (e : q = g0 + 1) => by omega)).trans hz (fun q hq (e : q = g0) => by omega)⟩
        · have := HR.out.2.2.2.2.1 ad.block (hA' ad e); omega
        · have h1 := HR.out.2.2.2.2.1 ad.block (hA' ad e)
          have h2 := hrow.lt (hA' ad e)
          have h3 := hz.size
          exact ⟨by omega, by omega⟩
end Go.Proofs.Ytkhglmmidgfliaa

/- What a colour is. -/
import Derived.Test.YtdbbkdlocmafgaaLook
import Derived.Test.YtdbbkdlocmafgaaSEq
namespace Go.Proofs.Ytdbbkdlocmafgaa
open Go.RowKit Go.Proofs.HK
set_option linter.unusedVariables false
set_option linter.unusedSimpArgs false

def colV (R G B A : Int) : Value := .agg #[.int .u16 R, .int .u16 G, .int .u16 B, .int .u16 A]
def stepN (D : Nat) : Nat := 65535 / (2 ^ D - 1)
abbrev Col := Int × Int × Int × Int
def Col.v (c : Col) : Value := colV c.1 c.2.1 c.2.2.1 c.2.2.2
/-- A pixel's colour. -/
def colS (r : RS) (s : List Int) : Col :=
  if r.C = 3 then
    let t := r.ts.getD (s.getD 0 0).toNat (0, 0, 0)
    ((t.1.toNat : Int) * 257, (t.2.1.toNat : Int) * 257, (t.2.2.toNat : Int) * 257, if s.getD 0 0 < r.al.length then r.al.getD (s.getD 0 0).toNat 0 * 257 else 65535)
  else
    let f := fun i => s.getD i 0 * (stepN r.D.toNat : Int)
    (f 0, if 2 < s.length then f 1 else f 0, if 2 < s.length then f 2 else f 0, if 0 < r.cl.length ∧ r.cl = s then 0 else if s.length % 2 = 0 then f (s.length - 1) else 65535)
theorem step_facts {D : Nat} (h : D = 1 ∨ D = 2 ∨ D = 4 ∨ D = 8 ∨ D = 16) : 1 ≤ stepN D ∧ stepN D ≤ 65535 ∧ (2 ^ D - 1) * stepN D = 65535 ∧ 1 ≤ 2 ^ D - 1 := by
  rcases h with rfl | rfl | rfl | rfl | rfl <;> decide
theorem res_col (W : World) (g : Nat) (a b c d : Int) (hb : W.heap[g]? = some (.cells #[.int .u16 a, .int .u16 b, .int .u16 c, .int .u16 d] 38 (0, 0))) :
    (Go.asAddr (Value.pointer (some ⟨g, 0, none⟩))).run Try.prog W = .ok ⟨g, 0, none⟩ W ∧ (Go.loadVar 38 ⟨g, 0, none⟩).run Try.prog W = .ok (colV a b c d) W := by
  have c0 : W.cell? ⟨g, 0, none⟩ = some (.int .u16 a) := by simp [World.cell?, hb]
  have c1 : W.cell? ⟨g, 1, none⟩ = some (.int .u16 b) := by simp [World.cell?, hb]
  have c2 : W.cell? ⟨g, 2, none⟩ = some (.int .u16 c) := by simp [World.cell?, hb]
  have c3 : W.cell? ⟨g, 3, none⟩ = some (.int .u16 d) := by simp [World.cell?, hb]
  refine ⟨by simp [Go.asAddr], ?_⟩
  unfold Go.loadVar
  go_simp
  first | done | rfl
theorem ret_col {fn : Func} (hres : fn.results = #[.cell 4 38]) {R : Ending → World → Prop} {W : World} {g : Nat} {x y z u : Int} {a : Act} (hb : W.heap[g]? = some (.cells #[.int .u16 x, .int .u16 y, .int .u16 z, .int .u16 u] 38 (0, 0)))
    (h2 : a.tmps.getD 4 undef = .pointer (some ⟨g, 0, none⟩)) (hd : a.defers = []) (hR : R (.returned (colV x y z u)) W) : bodyPost Try.prog fn R .ret a W := by
  refine bodyPost_ret (v := colV x y z u) ?_ hd hR
  have hr := res_col W g x y z u hb
  have h2' : a.tmps[4]?.getD undef = .pointer (some ⟨g, 0, none⟩) := by simpa using h2
  simp [results, hres, h2', hr.1, hr.2]
theorem ret_col2 {fn : Func} (hres : fn.results = #[.cell 4 38, .tmp 5]) {R : Ending → World → Prop} {W : World} {g : Nat} {x y z u : Int} {er : Value} {a : Act} (hb : W.heap[g]? = some (.cells #[.int .u16 x, .int .u16 y, .int .u16 z, .int .u16 u] 38 (0, 0)))
    (h2 : a.tmps.getD 4 undef = .pointer (some ⟨g, 0, none⟩)) (h3 : a.tmps.getD 5 undef = er) (hd : a.defers = []) (hR : R (.returned (.tuple #[colV x y z u, er])) W) : bodyPost Try.prog fn R .ret a W := by
  refine bodyPost_ret (v := .tuple #[colV x y z u, er]) ?_ hd hR
  have hr := res_col W g x y z u hb
  have h2' : a.tmps[4]?.getD undef = .pointer (some ⟨g, 0, none⟩) := by simpa using h2
  have h3' : a.tmps[5]?.getD undef = er := by simpa using h3
  simp [results, hres, h2', h3', hr.1, hr.2]
theorem blk4c {W : World} {g : Nat} {v0 v1 v2 v3 : Value} {t : TypeId} (hb : W.heap[g]? = some (.cells #[v0, v1, v2, v3] t (0, 0))) :
    (W.cell? ⟨g, 0, none⟩ = some v0 ∧ W.cell? ⟨g, 1, none⟩ = some v1 ∧ W.cell? ⟨g, 2, none⟩ = some v2 ∧ W.cell? ⟨g, 3, none⟩ = some v3) ∧ W.frozen? ⟨g, 0, none⟩ = false ∧ W.frozen? ⟨g, 1, none⟩ = false ∧ W.frozen? ⟨g, 2, none⟩ = false ∧ W.frozen? ⟨g, 3, none⟩ = false := by
  simp [World.cell?, World.frozen?, hb]
end Go.Proofs.Ytdbbkdlocmafgaa

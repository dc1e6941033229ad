/- append, inside a fence. No program in sight. -/
import Derived.Test.YtkhglmmidgfliaaMem
import Derived.OwnWalkIn
namespace Go.Proofs.HK
open Go.RowKit
set_option linter.unusedVariables false
variable {F : Fence} {nn : Nat} {P : Program} {w : World} {ops : Array Oper} {rest : List Oper} {o : Oper} {a : Act} {Q : Exit → Act → World → Prop}
theorem wpListIn_app {t e : TypeId} {sz bytes : Nat} (hT : SlT P t e sz bytes) (hgd : o.guard = none) (s x : Operand)
    (ho : o.op = .call { callee := .builtin .append, args := #[s, x], argTypes := #[t, t] })
    {v : Value} {ob : Option Nat} {n : Nat} {xs : List Value} (hs : a.eval s = v) (hv : Row w sz v ob n xs)
    {A : Option Addr} {m c : Nat} {ys : List Value} (hx : a.eval x = .slice A m c) (hl : ys.length = m * sz) (hc : Cells w A ys) (h1 : ∀ u ∈ ys, u.oneCell' = true)
    (hb : (n + m) * bytes ≤ 140737488355328) (hnm : n + m ≤ 9223372036854775807)
    (h : ∀ A' c' w' ob', Row w' sz (.slice A' (n + m) c') ob' (n + m) (xs ++ ys) → Fr (Opt ob) w w' → (ob' = ob ∨ ∃ k, ob' = some k ∧ w.heap.size ≤ k) → wpListIn F nn P ops Q rest (a.put o.dst (.slice A' (n + m) c')) w') :
    wpListIn F nn P ops Q (o :: rest) a w := by
  obtain ⟨i, z, hi, hz, h2, h3, h4⟩ := hT.info
  obtain ⟨v', w', ob', hr, k1, k2, k3⟩ := run_app (P := P) w t o.type e i z sz bytes hT.und hi hz h2 h3 h4 hT.pos v ob n xs hv A m c ys hl hc h1 hb hnm
  refine wpListIn_plain hgd fun K hK => ?_
  unfold Oper.wpIn
  refine ⟨?_, ?_⟩
  · simp [Oper.about, ho, resolve, Target.leads, Sem.run_pure]
  · rw [Oper.semAt_plain F _ _ (by rw [ho]; intro c hc'; cases hc')]
    simp [execOp, ho, resolve, invoke, builtin, hs, hx, hr, Result.andThen]
    obtain ⟨A', c', rfl, _⟩ := k1.cells
    exact hK _ _ (h A' c' w' ob' k1 k2 k3)
theorem wpListIn_app1 {t e : TypeId} {sz bytes : Nat} (hT : SlT P t e sz bytes) (hgd : o.guard = none) (s x : Operand)
    (ho : o.op = .call { callee := .builtin .append, args := #[s, x], argTypes := #[t, t] })
    {v : Value} {ob : Option Nat} {n : Nat} {xs : List Value} (hs : a.eval s = v) (hv : Row w sz v ob n xs)
    {m c : Nat} {ys : List Value} (hx : a.eval x = .slice (some ⟨w.heap.size, 0, none⟩) m c) (hl : ys.length = m * sz) (h1 : ∀ u ∈ ys, u.oneCell' = true)
    (hb : (n + m) * bytes ≤ 140737488355328) (hnm : n + m ≤ 9223372036854775807)
    (h : ∀ A' c' w' ob', Row w' sz (.slice A' (n + m) c') ob' (n + m) (xs ++ ys) → Fr (Opt ob) w w' → (ob' = ob ∨ ∃ k, ob' = some k ∧ w.heap.size ≤ k) → wpListIn F nn P ops Q rest (a.put o.dst (.slice A' (n + m) c')) w') :
    wpListIn F nn P ops Q (o :: rest) a (w.alloc (.cells ys.toArray e)) := by
  refine wpListIn_app hT hgd s x ho hs (hv.fr (S := No) ((Fr.refl _ _).alloc _) (fun _ _ h => h)) hx hl (cells_new w ys e) h1 hb hnm (fun A' c' w' ob' k1 k2 k3 => h A' c' w' ob' k1 ?_ ?_)
  · exact (((Fr.refl (Opt ob) w).alloc _).trans k2 (fun _ _ h => h))
  · rcases k3 with k3 | ⟨k, k3, k4⟩
    · exact .inl k3
    · exact .inr ⟨k, k3, by simp at k4; omega⟩
end Go.Proofs.HK

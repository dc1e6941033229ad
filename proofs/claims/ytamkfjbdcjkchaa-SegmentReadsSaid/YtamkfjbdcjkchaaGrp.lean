/- Guarded operations of a list, taken as a group without knowing the guard: what they leave in their own slots is forgotten, but for the last. No program in sight. -/
import Derived.Test.YtamkfjbdcjkchaaMem
import Derived.Tactics2
import Derived.BigFrame
namespace Go.Proofs.HK
open Go.RowKit
set_option linter.unusedVariables false
variable {P : Program} {ops : Array Oper} {Q : Exit → Act → World → Prop}

theorem wpList_val {o : Oper} {rest : List Oper} {a : Act} {w : World} {v : Value} (hw : Region.wanted o (yielded ops a.tmps) = true) (hr : (execOp a.eval o).run P w = .ok (.value v) w) (h : wpList P ops Q rest (a.put o.dst v) w) : wpList P ops Q (o :: rest) a w := by
  unfold wpList
  rw [if_pos hw]
  left
  unfold Oper.wp
  rw [hr]
  exact h
theorem yielded_put {a : Act} {d : Nat} {v : Value} {j dj : Nat} (hj : (ops[j]?).bind (·.dst) = some dj) (hn : d ≠ dj) : yielded ops (a.put (some d) v).tmps j = yielded ops a.tmps j := by
  unfold yielded
  rw [hj]
  unfold Act.put
  simp only [Option.bind_some]
  rw [Array.getElem?_setIfInBounds_ne hn]
theorem wanted_guard {o : Oper} {f : Nat → Option Bool} {j : Nat} {wt b : Bool} (hg : o.guard = some (j, wt)) (hy : f j = some b) : Region.wanted o f = (b == wt) := by
  unfold Region.wanted
  rw [hg]
  simp [hy]
def puts : List (Oper × Value) → Act → Act
  | [], a => a
  | (o, u) :: l, a => puts l (a.put o.dst u)
def runsL (P : Program) (w : World) : List (Oper × Value) → Act → Prop
  | [], _ => True
  | (o, v) :: l, a => (execOp a.eval o).run P w = .ok (.value v) w ∧ runsL P w l (a.put o.dst v)
theorem grp {w : World} {rest : List Oper} {j dj : Nat} {wt b : Bool} (hj : (ops[j]?).bind (·.dst) = some dj) : ∀ (l : List (Oper × Value)) (a : Act), (∀ p ∈ l, p.1.guard = some (j, wt) ∧ ∃ d, p.1.dst = some d ∧ d ≠ dj) → yielded ops a.tmps j = some b →
    (b = wt → runsL P w l a) → (b = wt → wpList P ops Q rest (puts l a) w) → (b ≠ wt → wpList P ops Q rest (puts (l.map fun p => (p.1, undef)) a) w) → wpList P ops Q (l.map (·.1) ++ rest) a w
  | [], a, _, _, _, h1, h2 => by
    by_cases hb : b = wt
    · exact h1 hb
    · exact h2 hb
  | (o, v) :: l, a, hd, hy, hr, h1, h2 => by
    obtain ⟨hg, d, hd1, hd2⟩ := hd (o, v) (by simp)
    simp only at hg hd1
    have hwt : Region.wanted o (yielded ops a.tmps) = (b == wt) := wanted_guard hg hy
    have hy' : ∀ u, yielded ops (a.put o.dst u).tmps j = some b := fun u => by rw [hd1, yielded_put hj hd2]; exact hy
    show wpList P ops Q (o :: (l.map (·.1) ++ rest)) a w
    by_cases hb : b = wt
    · obtain ⟨r1, r2⟩ := hr hb
      refine wpList_val (by rw [hwt]; simpa using hb) r1 ?_
      exact grp hj l _ (fun p hp => hd p (by simp [hp])) (hy' v) (fun _ => r2) (fun _ => h1 hb) (fun h => absurd hb h)
    · refine wpList_skip (by rw [hwt]; simpa using hb) ?_
      exact grp hj l _ (fun p hp => hd p (by simp [hp])) (hy' undef) (fun h => absurd h hb) (fun h => absurd h hb) (fun _ => h2 hb)
/-- One operation behind a group, which picks. -/
theorem pick_or {o : Oper} {rest : List Oper} {a : Act} {w : World} {x y : Operand} {b t : Bool} (hg : Region.wanted o (yielded ops a.tmps) = true) (ho : o.op = .pick x (.const (.bool true)) y) (hx : a.eval x = .bool b) (hy : b = false → a.eval y = .bool t) (h : wpList P ops Q rest (a.put o.dst (.bool (b || t))) w) : wpList P ops Q (o :: rest) a w := by
  refine wpList_val hg ?_ h
  unfold execOp
  rw [ho]
  simp only [hx]
  cases b with
  | true => rfl
  | false => simp only [hy rfl]; rfl
theorem grp3 {o1 o2 o3 : Oper} {rest : List Oper} {a : Act} {w : World} {j dj d1 d2 d3 : Nat} {v1 v2 : Value} {b t : Bool} (hj : (ops[j]?).bind (·.dst) = some dj) (hb : a.tmps[dj]? = some (.bool b))
    (g1 : o1.guard = some (j, false) ∧ o1.dst = some d1 ∧ d1 ≠ dj) (g2 : o2.guard = some (j, false) ∧ o2.dst = some d2 ∧ d2 ≠ dj) (g3 : o3.guard = some (j, false) ∧ o3.dst = some d3 ∧ d3 ≠ dj)
    (r1 : b = false → (execOp a.eval o1).run P w = .ok (.value v1) w)
    (r2 : b = false → (execOp (a.put (some d1) v1).eval o2).run P w = .ok (.value v2) w)
    (r3 : b = false → (execOp ((a.put (some d1) v1).put (some d2) v2).eval o3).run P w = .ok (.value (.bool t)) w)
    (h : ∀ u1 u2 u3, (b = false → u3 = .bool t) → wpList P ops Q rest (((a.put (some d1) u1).put (some d2) u2).put (some d3) u3) w) : wpList P ops Q (o1 :: o2 :: o3 :: rest) a w := by
  refine grp (w := w) (wt := false) (b := b) hj [(o1, v1), (o2, v2), (o3, .bool t)] a ?_ (by unfold yielded; rw [hj]; simp only [Option.bind_some]; rw [hb]) ?_ ?_ ?_
  · intro p hp
    simp only [List.mem_cons, List.not_mem_nil, or_false] at hp
    rcases hp with rfl | rfl | rfl
    · exact ⟨g1.1, d1, g1.2⟩
    · exact ⟨g2.1, d2, g2.2⟩
    · exact ⟨g3.1, d3, g3.2⟩
  · intro e
    simp only [runsL, g1.2.1, g2.2.1, g3.2.1]
    exact ⟨r1 e, r2 e, r3 e, trivial⟩
  · intro e
    simp only [puts, g1.2.1, g2.2.1, g3.2.1]
    exact h _ _ _ (fun _ => rfl)
  · intro e
    simp only [puts, List.map_cons, List.map_nil, g1.2.1, g2.2.1, g3.2.1]
    exact h _ _ _ (fun h => absurd h e)
theorem grp4 {o1 o2 o3 o4 : Oper} {rest : List Oper} {a : Act} {w : World} {j dj d1 d2 d3 d4 : Nat} {v1 v2 v3 : Value} {b t : Bool} (hj : (ops[j]?).bind (·.dst) = some dj) (hb : a.tmps[dj]? = some (.bool b))
    (g1 : o1.guard = some (j, false) ∧ o1.dst = some d1 ∧ d1 ≠ dj) (g2 : o2.guard = some (j, false) ∧ o2.dst = some d2 ∧ d2 ≠ dj) (g3 : o3.guard = some (j, false) ∧ o3.dst = some d3 ∧ d3 ≠ dj) (g4 : o4.guard = some (j, false) ∧ o4.dst = some d4 ∧ d4 ≠ dj)
    (r1 : b = false → (execOp a.eval o1).run P w = .ok (.value v1) w)
    (r2 : b = false → (execOp (a.put (some d1) v1).eval o2).run P w = .ok (.value v2) w)
    (r3 : b = false → (execOp ((a.put (some d1) v1).put (some d2) v2).eval o3).run P w = .ok (.value v3) w)
    (r4 : b = false → (execOp (((a.put (some d1) v1).put (some d2) v2).put (some d3) v3).eval o4).run P w = .ok (.value (.bool t)) w)
    (h : ∀ u1 u2 u3 u4, (b = false → u4 = .bool t) → wpList P ops Q rest ((((a.put (some d1) u1).put (some d2) u2).put (some d3) u3).put (some d4) u4) w) : wpList P ops Q (o1 :: o2 :: o3 :: o4 :: rest) a w := by
  refine grp (w := w) (wt := false) (b := b) hj [(o1, v1), (o2, v2), (o3, v3), (o4, .bool t)] a ?_ (by unfold yielded; rw [hj]; simp only [Option.bind_some]; rw [hb]) ?_ ?_ ?_
  · intro p hp
    simp only [List.mem_cons, List.not_mem_nil, or_false] at hp
    rcases hp with rfl | rfl | rfl | rfl
    · exact ⟨g1.1, d1, g1.2⟩
    · exact ⟨g2.1, d2, g2.2⟩
    · exact ⟨g3.1, d3, g3.2⟩
    · exact ⟨g4.1, d4, g4.2⟩
  · intro e
    simp only [runsL, g1.2.1, g2.2.1, g3.2.1, g4.2.1]
    exact ⟨r1 e, r2 e, r3 e, r4 e, trivial⟩
  · intro e
    simp only [puts, g1.2.1, g2.2.1, g3.2.1, g4.2.1]
    exact h _ _ _ _ (fun _ => rfl)
  · intro e
    simp only [puts, List.map_cons, List.map_nil, g1.2.1, g2.2.1, g3.2.1, g4.2.1]
    exact h _ _ _ _ (fun h => absurd h e)
theorem grp5 {o1 o2 o3 o4 o5 : Oper} {rest : List Oper} {a : Act} {w : World} {j dj d1 d2 d3 d4 d5 : Nat} {v1 v2 v3 v4 : Value} {b t : Bool} (hj : (ops[j]?).bind (·.dst) = some dj) (hb : a.tmps[dj]? = some (.bool b))
    (g1 : o1.guard = some (j, false) ∧ o1.dst = some d1 ∧ d1 ≠ dj) (g2 : o2.guard = some (j, false) ∧ o2.dst = some d2 ∧ d2 ≠ dj) (g3 : o3.guard = some (j, false) ∧ o3.dst = some d3 ∧ d3 ≠ dj) (g4 : o4.guard = some (j, false) ∧ o4.dst = some d4 ∧ d4 ≠ dj) (g5 : o5.guard = some (j, false) ∧ o5.dst = some d5 ∧ d5 ≠ dj)
    (r1 : b = false → (execOp a.eval o1).run P w = .ok (.value v1) w)
    (r2 : b = false → (execOp (a.put (some d1) v1).eval o2).run P w = .ok (.value v2) w)
    (r3 : b = false → (execOp ((a.put (some d1) v1).put (some d2) v2).eval o3).run P w = .ok (.value v3) w)
    (r4 : b = false → (execOp (((a.put (some d1) v1).put (some d2) v2).put (some d3) v3).eval o4).run P w = .ok (.value v4) w)
    (r5 : b = false → (execOp ((((a.put (some d1) v1).put (some d2) v2).put (some d3) v3).put (some d4) v4).eval o5).run P w = .ok (.value (.bool t)) w)
    (h : ∀ u1 u2 u3 u4 u5, (b = false → u5 = .bool t) → wpList P ops Q rest (((((a.put (some d1) u1).put (some d2) u2).put (some d3) u3).put (some d4) u4).put (some d5) u5) w) : wpList P ops Q (o1 :: o2 :: o3 :: o4 :: o5 :: rest) a w := by
  refine grp (w := w) (wt := false) (b := b) hj [(o1, v1), (o2, v2), (o3, v3), (o4, v4), (o5, .bool t)] a ?_ (by unfold yielded; rw [hj]; simp only [Option.bind_some]; rw [hb]) ?_ ?_ ?_
  · intro p hp
    simp only [List.mem_cons, List.not_mem_nil, or_false] at hp
    rcases hp with rfl | rfl | rfl | rfl | rfl
    · exact ⟨g1.1, d1, g1.2⟩
    · exact ⟨g2.1, d2, g2.2⟩
    · exact ⟨g3.1, d3, g3.2⟩
    · exact ⟨g4.1, d4, g4.2⟩
    · exact ⟨g5.1, d5, g5.2⟩
  · intro e
    simp only [runsL, g1.2.1, g2.2.1, g3.2.1, g4.2.1, g5.2.1]
    exact ⟨r1 e, r2 e, r3 e, r4 e, r5 e, trivial⟩
  · intro e
    simp only [puts, g1.2.1, g2.2.1, g3.2.1, g4.2.1, g5.2.1]
    exact h _ _ _ _ _ (fun _ => rfl)
  · intro e
    simp only [puts, List.map_cons, List.map_nil, g1.2.1, g2.2.1, g3.2.1, g4.2.1, g5.2.1]
    exact h _ _ _ _ _ (fun h => absurd h e)
theorem grp7 {o1 o2 o3 o4 o5 o6 o7 : Oper} {rest : List Oper} {a : Act} {w : World} {j dj d1 d2 d3 d4 d5 d6 d7 : Nat} {v1 v2 v3 v4 v5 v6 : Value} {b t : Bool} (hj : (ops[j]?).bind (·.dst) = some dj) (hb : a.tmps[dj]? = some (.bool b))
    (g1 : o1.guard = some (j, false) ∧ o1.dst = some d1 ∧ d1 ≠ dj) (g2 : o2.guard = some (j, false) ∧ o2.dst = some d2 ∧ d2 ≠ dj) (g3 : o3.guard = some (j, false) ∧ o3.dst = some d3 ∧ d3 ≠ dj) (g4 : o4.guard = some (j, false) ∧ o4.dst = some d4 ∧ d4 ≠ dj) (g5 : o5.guard = some (j, false) ∧ o5.dst = some d5 ∧ d5 ≠ dj) (g6 : o6.guard = some (j, false) ∧ o6.dst = some d6 ∧ d6 ≠ dj) (g7 : o7.guard = some (j, false) ∧ o7.dst = some d7 ∧ d7 ≠ dj)
    (r1 : b = false → (execOp a.eval o1).run P w = .ok (.value v1) w)
    (r2 : b = false → (execOp (a.put (some d1) v1).eval o2).run P w = .ok (.value v2) w)
    (r3 : b = false → (execOp ((a.put (some d1) v1).put (some d2) v2).eval o3).run P w = .ok (.value v3) w)
    (r4 : b = false → (execOp (((a.put (some d1) v1).put (some d2) v2).put (some d3) v3).eval o4).run P w = .ok (.value v4) w)
    (r5 : b = false → (execOp ((((a.put (some d1) v1).put (some d2) v2).put (some d3) v3).put (some d4) v4).eval o5).run P w = .ok (.value v5) w)
    (r6 : b = false → (execOp (((((a.put (some d1) v1).put (some d2) v2).put (some d3) v3).put (some d4) v4).put (some d5) v5).eval o6).run P w = .ok (.value v6) w)
    (r7 : b = false → (execOp ((((((a.put (some d1) v1).put (some d2) v2).put (some d3) v3).put (some d4) v4).put (some d5) v5).put (some d6) v6).eval o7).run P w = .ok (.value (.bool t)) w)
    (h : ∀ u1 u2 u3 u4 u5 u6 u7, (b = false → u7 = .bool t) → wpList P ops Q rest (((((((a.put (some d1) u1).put (some d2) u2).put (some d3) u3).put (some d4) u4).put (some d5) u5).put (some d6) u6).put (some d7) u7) w) : wpList P ops Q (o1 :: o2 :: o3 :: o4 :: o5 :: o6 :: o7 :: rest) a w := by
  refine grp (w := w) (wt := false) (b := b) hj [(o1, v1), (o2, v2), (o3, v3), (o4, v4), (o5, v5), (o6, v6), (o7, .bool t)] a ?_ (by unfold yielded; rw [hj]; simp only [Option.bind_some]; rw [hb]) ?_ ?_ ?_
  · intro p hp
    simp only [List.mem_cons, List.not_mem_nil, or_false] at hp
    rcases hp with rfl | rfl | rfl | rfl | rfl | rfl | rfl
    · exact ⟨g1.1, d1, g1.2⟩
    · exact ⟨g2.1, d2, g2.2⟩
    · exact ⟨g3.1, d3, g3.2⟩
    · exact ⟨g4.1, d4, g4.2⟩
    · exact ⟨g5.1, d5, g5.2⟩
    · exact ⟨g6.1, d6, g6.2⟩
    · exact ⟨g7.1, d7, g7.2⟩
  · intro e
    simp only [runsL, g1.2.1, g2.2.1, g3.2.1, g4.2.1, g5.2.1, g6.2.1, g7.2.1]
    exact ⟨r1 e, r2 e, r3 e, r4 e, r5 e, r6 e, r7 e, trivial⟩
  · intro e
    simp only [puts, g1.2.1, g2.2.1, g3.2.1, g4.2.1, g5.2.1, g6.2.1, g7.2.1]
    exact h _ _ _ _ _ _ _ (fun _ => rfl)
  · intro e
    simp only [puts, List.map_cons, List.map_nil, g1.2.1, g2.2.1, g3.2.1, g4.2.1, g5.2.1, g6.2.1, g7.2.1]
    exact h _ _ _ _ _ _ _ (fun h => absurd h e)
end Go.Proofs.HK

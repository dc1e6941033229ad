/- The document's lines are those of the passes. No memory in sight. -/
import Derived.Test.YtkhglmmidgfliaaWoven
namespace Go.Proofs.Ytkhglmmidgfliaa
open Go.RowKit Go.Proofs.HK
set_option linter.unusedVariables false

/-- The places of a row of the document. -/
def refRow (x y step w : Nat) : List (Nat × Nat) := (List.range (cnt x step w)).map fun i => (x + i * step, y)
theorem refRow_length (x y step w : Nat) : (refRow x y step w).length = cnt x step w := by simp [refRow]
theorem refRow_spot (X Y DX DY w r : Nat) : refRow X (Y + r * DY) DX w = spotRow X Y DX DY (cnt X DX w) r := rfl
/-- A pass's first rows. -/
def linesUpto (i : Nat) (p : PN) (r : Nat) : List (Nat × List (Nat × Nat)) := (List.range r).map fun row => (i, spotRow p.X p.Y p.DX p.DY p.W row)
theorem linesUpto_all (i : Nat) (p : PN) : linesUpto i p p.H = linesOf i p := rfl
theorem linesUpto_succ (i : Nat) (p : PN) (r : Nat) : linesUpto i p (r + 1) = linesUpto i p r ++ [(i, spotRow p.X p.Y p.DX p.DY p.W r)] := by simp [linesUpto, List.range_succ]
def refP (p w h : Nat) : PN := ⟨gX p, gY p, gDX p, gDY p, cnt (gX p) (gDX p) w, if gX p < w then cnt (gY p) (gDY p) h else 0⟩
def psR (w h n : Nat) : List PN := (List.range n).map fun k => refP (k + 1) w h
theorem psR_succ (w h n : Nat) : psR w h (n + 1) = psR w h n ++ [refP (n + 1) w h] := by simp [psR, List.range_succ]
theorem psR_length (w h n : Nat) : (psR w h n).length = n := by simp [psR]
theorem psW_length (w h n : Nat) : (psW w h n).length = n := by simp [psW]
theorem itemsF_snoc (ps : List PN) (p : PN) (j : Nat) : itemsF j (ps ++ [p]) = itemsF j ps ++ linesOf (j + ps.length + 1) p := by
  rw [itemsF_append]; simp [itemsF]
theorem linesOf_ref (i p w h : Nat) : linesOf i (refP p w h) = linesOf i (atP p w h) := by
  have hd := gDX_le p
  have h0 := cnt_lt (gX p) (gDX p) w 0 hd.1
  rw [Nat.mul_zero, Nat.add_zero] at h0
  unfold linesOf
  by_cases hx : gX p < w
  · have hc := h0.2 hx
    by_cases hy : cnt (gY p) (gDY p) h = 0
    · have e1 : (refP p w h).H = 0 := by simp only [refP, if_pos hx]; exact hy
      have e2 : (atP p w h).H = 0 := by simp only [atP, atH, if_pos (Or.inr hy)]
      rw [e1, e2]; rfl
    · have hn : ¬ (cnt (gX p) (gDX p) w = 0 ∨ cnt (gY p) (gDY p) h = 0) := by omega
      have e1 : (refP p w h).H = (atP p w h).H := by simp only [refP, atP, atH, if_pos hx, if_neg hn]
      have e2 : (refP p w h).W = (atP p w h).W := by simp only [refP, atP, atW, if_neg hn]
      rw [e1, e2]; rfl
  · have hc : cnt (gX p) (gDX p) w = 0 := by
      have : ¬ 0 < cnt (gX p) (gDX p) w := fun h => hx (h0.1 h)
      omega
    have e1 : (refP p w h).H = 0 := by simp only [refP, if_neg hx]
    have e2 : (atP p w h).H = 0 := by simp only [atP, atH, if_pos (Or.inl hc)]
    rw [e1, e2]; rfl
theorem items_ref (w h n : Nat) : itemsF 0 (psR w h n) = itemsF 0 (psL w h n) := by
  induction n with
  | zero => rfl
  | succ n ih => rw [psR_succ, psL_succ, itemsF_snoc, itemsF_snoc, ih, psR_length, psL_length, linesOf_ref]
end Go.Proofs.Ytkhglmmidgfliaa

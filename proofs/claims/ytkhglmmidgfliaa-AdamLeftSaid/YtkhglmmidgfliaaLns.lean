/- Slices of the document's lines: each a pass, and a slice of places. No program in sight but the places' cells. -/
import Derived.Test.YtkhglmmidgfliaaCount
namespace Go.Proofs.Ytkhglmmidgfliaa
open Go.RowKit Go.Proofs.HK
set_option linter.unusedVariables false

structure LN where
  p : Nat
  s : List (Nat × Nat)
  A : Option Addr
  c : Nat
def LN.it (x : LN) : Nat × List (Nat × Nat) := (x.p, x.s)
def lnC (x : LN) : List Value := [.int .i64 x.p, .slice x.A x.s.length x.c]
def lnsC (xs : List LN) : List Value := xs.flatMap lnC
theorem lnsC_snoc (xs : List LN) (x : LN) : lnsC (xs ++ [x]) = lnsC xs ++ lnC x := by simp [lnsC]
theorem lnsC_length (xs : List LN) : (lnsC xs).length = xs.length * 2 := by
  induction xs with
  | nil => rfl
  | cons p ps ih => unfold lnsC at *; rw [List.flatMap_cons, List.length_append, ih, List.length_cons]; simp [lnC]; omega
theorem lnsC_get (xs : List LN) (i j : Nat) (hi : i < xs.length) (hj : j < 2) : (lnsC xs)[i * 2 + j]? = (lnC xs[i])[j]? := by
  induction xs generalizing i with
  | nil => simp at hi
  | cons p ps ih =>
    unfold lnsC at *
    rw [List.flatMap_cons]
    cases i with
    | zero => rw [List.getElem?_append_left (by simp [lnC]; omega)]; simp
    | succ i =>
      rw [List.getElem?_append_right (by simp [lnC]; omega)]
      have := ih i (by simpa using hi)
      rw [show (i + 1) * 2 + j - (lnC p).length = i * 2 + j by simp [lnC]; omega, this]
      simp
/-- The places of each line lie there, in blocks from lo on, and none of them in ob. -/
def LnsAt (w : World) (lo : Nat) (ob : Option Nat) (xs : List LN) : Prop :=
  ∀ x ∈ xs, Cells w x.A (spotC x.s) ∧ ∀ ad, x.A = some ad → lo ≤ ad.block ∧ ad.block < w.heap.size ∧ ob ≠ some ad.block
theorem LnsAt.nil (w : World) (lo : Nat) (ob : Option Nat) : LnsAt w lo ob [] := fun _ h => by cases h
theorem LnsAt.fr {w w' : World} {lo : Nat} {ob : Option Nat} {xs : List LN} {S : Nat → Prop} (h : LnsAt w lo ob xs) (hf : Fr S w w') (hS : ∀ x ∈ xs, ∀ ad, x.A = some ad → ¬ S ad.block) : LnsAt w' lo ob xs := fun x hx =>
  ⟨(h x hx).1.keep (fun ad e _ => hf.block _ ((h x hx).2 ad e).2.1 (hS x hx ad e)), fun ad e => ⟨((h x hx).2 ad e).1, Nat.lt_of_lt_of_le ((h x hx).2 ad e).2.1 hf.size, ((h x hx).2 ad e).2.2⟩⟩
theorem LnsAt.fr0 {w w' : World} {lo : Nat} {ob : Option Nat} {xs : List LN} (h : LnsAt w lo ob xs) (hf : Fr No w w') : LnsAt w' lo ob xs := h.fr hf (fun _ _ _ _ h => h)
/-- A slice of lines, fresh from lo on. -/
def NewL (w : World) (lo : Nat) (its : List (Nat × List (Nat × Nat))) (A : Option Addr) (k c : Nat) (ob : Option Nat) (xs : List LN) : Prop :=
  Row w 2 (.slice A k c) ob k (lnsC xs) ∧ xs.map LN.it = its ∧ LnsAt w lo ob xs ∧ (∀ b, ob = some b → lo ≤ b)
theorem NewL.nil (w : World) (lo : Nat) : NewL w lo [] none 0 0 none [] := ⟨Row.nil _ _, rfl, LnsAt.nil _ _ _, fun _ h => by cases h⟩
theorem NewL.fr0 {w w' : World} {lo : Nat} {its : List (Nat × List (Nat × Nat))} {A : Option Addr} {k c : Nat} {ob : Option Nat} {xs : List LN} (h : NewL w lo its A k c ob xs) (hf : Fr No w w') : NewL w' lo its A k c ob xs :=
  ⟨h.1.fr hf (fun _ _ h => h), h.2.1, h.2.2.1.fr0 hf, h.2.2.2⟩
theorem NewL.fr {w w' : World} {lo : Nat} {its : List (Nat × List (Nat × Nat))} {A : Option Addr} {k c : Nat} {ob : Option Nat} {xs : List LN} {S : Nat → Prop} (h : NewL w lo its A k c ob xs) (hf : Fr S w w') (hS : ∀ b, lo ≤ b → ¬ S b) : NewL w' lo its A k c ob xs :=
  ⟨h.1.fr hf (fun j hj => hS j (h.2.2.2 j hj)), h.2.1, h.2.2.1.fr hf (fun x hx ad e => hS _ ((h.2.2.1 x hx).2 ad e).1), h.2.2.2⟩
/-- One more line. -/
theorem NewL.push {w w' : World} {lo : Nat} {its : List (Nat × List (Nat × Nat))} {A A' : Option Addr} {k c c' : Nat} {ob ob' : Option Nat} {xs : List LN} (h : NewL w lo its A k c ob xs) (x : LN)
    (hx : Cells w x.A (spotC x.s) ∧ ∀ ad, x.A = some ad → lo ≤ ad.block ∧ ad.block < w.heap.size ∧ ob ≠ some ad.block)
    (hrow : Row w' 2 (.slice A' (k + 1) c') ob' (k + 1) (lnsC xs ++ lnC x)) (hfr : Fr (Opt ob) w w') (hob : ob' = ob ∨ ∃ j, ob' = some j ∧ w.heap.size ≤ j) (hlo : lo ≤ w.heap.size) :
    NewL w' lo (its ++ [x.it]) A' (k + 1) c' ob' (xs ++ [x]) := by
  have hall : LnsAt w lo ob (xs ++ [x]) := fun y hy => by
    rcases List.mem_append.1 hy with hy | hy
    · exact h.2.2.1 y hy
    · rw [List.mem_singleton.1 hy]; exact hx
  have hall' := hall.fr hfr (fun y hy ad e e2 => ((hall y hy).2 ad e).2.2 e2.symm)
  refine ⟨by rw [lnsC_snoc]; exact hrow, by rw [List.map_append, h.2.1]; rfl, fun y hy => ⟨(hall' y hy).1, fun ad e => ?_⟩, fun b hb => ?_⟩
  · refine ⟨((hall' y hy).2 ad e).1, ((hall' y hy).2 ad e).2.1, ?_⟩
    rcases hob with e1 | ⟨j, e1, hj⟩
    · rw [e1]; exact ((hall' y hy).2 ad e).2.2
    · rw [e1]; intro e2; injection e2 with e2; have := ((hall y hy).2 ad e).2.1; omega
  · rcases hob with e1 | ⟨j, e1, hj⟩
    · exact h.2.2.2 b (by rw [← e1]; exact hb)
    · rw [e1] at hb; injection hb with hb; omega
theorem slLine : SlT Try.prog 27 43 2 32 := SlT.of (z := .agg #[.int .i64 0, .slice none 0 0]) Try.underlying27 (by kernel_rfl) rfl (by decide)
end Go.Proofs.Ytkhglmmidgfliaa

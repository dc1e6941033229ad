/- Rows of bytes that grow: one byte as a row; an append to a new row. -/
import Derived.Test.YtamkfjbdcjkchaaDoorOct
namespace Go.Proofs.YtamkfjbdcjkchaaDoor
open Go.RowKit Go.Proofs.HK
set_option linter.unusedVariables false
/-- A row of bytes in a block from b on (or nowhere). -/
def OutB (b : Nat) (W : World) (A : Option Addr) (n c : Nat) (o : List UInt8) : Prop := ∃ ob, Row W 1 (.slice A n c) ob n (o.map B) ∧ ∀ k, ob = some k → b ≤ k
section
variable {b : Nat} {W W' : World} {A : Option Addr} {n c : Nat} {o : List UInt8}
theorem OutB.len (h : OutB b W A n c o) : o.length = n := by
  obtain ⟨ob, h1, h2⟩ := h
  exact h1.rd.2.2.2
theorem OutB.rd (h : OutB b W A n c o) : Rd B W A o := by
  obtain ⟨ob, h1, h2⟩ := h
  exact h1.rd.1
theorem OutB.cap (h : OutB b W A n c o) : n ≤ c := by
  obtain ⟨ob, h1, h2⟩ := h
  exact h1.rd.2.1
theorem OutB.fr {S : Nat → Prop} (h : OutB b W A n c o) (hf : Fr S W W') (hs : ∀ k, b ≤ k → k < W.heap.size → ¬ S k) : OutB b W' A n c o := by
  obtain ⟨ob, h1, h2⟩ := h
  exact ⟨ob, h1.fr hf (fun k e => hs k (h2 k e) (h1.lt e)), h2⟩
theorem OutB.fr0 (h : OutB b W A n c o) (hf : Fr No W W') : OutB b W' A n c o := h.fr hf (fun _ _ _ h => h)
theorem OutB.nil (b : Nat) (W : World) : OutB b W none 0 0 [] := ⟨none, Row.nil _ _, fun _ h => by cases h⟩
theorem putBE1 (v : Int) : putBE 1 v = [HK.byteOf v] := by
  apply List.ext_getElem?
  intro i
  cases i with
  | zero => rw [putBE_get 1 0 v (by omega)]; simp
  | succ i => rw [List.getElem?_eq_none (by rw [putBE_length]; omega)]; simp
end
end Go.Proofs.YtamkfjbdcjkchaaDoor

/- Arrays of ints: '!=' at the operation. -/
import Derived.Test.YtamkfjbdcjkchaaDoorMem
import Derived.ChangeKeysEq
namespace Go.Proofs.HK
open Go.RowKit
section
variable {P : Program} {e t : TypeId}
theorem eqItems_int (w : World) (d : Nat) (he : P.underlying e = some (.int .i64)) (X Y : Array Value) (x y : Nat → Int) : ∀ is : List Nat, (∀ i ∈ is, X[i]? = some (.int .i64 (x i)) ∧ Y[i]? = some (.int .i64 (y i))) →
    (Op.eqItems (d + 1) e 1 X Y is).run P w = .ok (is.all fun i => x i == y i) w
  | [], _ => by simp [Op.eqItems]
  | i :: is, h => by
    have hp : P.plainKey e = true := by unfold Program.plainKey; rw [he]
    obtain ⟨h1, h2⟩ := h i (by simp)
    have p1 := run_part_plain (P := P) (w := w) hp (xs := X) (off := i) h1
    have p2 := run_part_plain (P := P) (w := w) hp (xs := Y) (off := i) h2
    have p3 := run_equalIn_int (P := P) w d e .i64 .i64 (x i) (y i) he
    have ih := eqItems_int w d he X Y x y is (fun j hj => h j (by simp [hj]))
    simp only [Op.eqItems, Nat.mul_one, Sem.run_bind, p1, p2, p3, Result.andThen_ok]
    cases hxy : x i == y i
    · simp [hxy]
    · simp [hxy, ih]
theorem run_neq_ints (w : World) {n : Nat} (ht : P.underlying t = some (.array n e)) (he : P.underlying e = some (.int .i64)) (hc : P.cellsOf e = 1) (hi : (P.info? e).isSome = true) (L M : List Int) (hL : L.length = n) (hM : M.length = n) :
    (binOp .neq t (.agg (L.map (Value.int .i64)).toArray) (.agg (M.map (Value.int .i64)).toArray)).run P w = .ok (.bool (!decide (L = M))) w := by
  obtain ⟨i, hi⟩ := Option.isSome_iff_exists.1 hi
  have h1 := run_equalIn_array (P := P) w 9999 (L.map (Value.int .i64)).toArray (M.map (Value.int .i64)).toArray ht hi
  rw [hc, eqItems_int w 9998 he _ _ (fun i => L.getD i 0) (fun i => M.getD i 0) (List.range n) (fun j hj => by
    have hj := List.mem_range.1 hj
    constructor
    · simp [List.getElem?_eq_getElem (show j < L.length by omega), List.getD]
    · simp [List.getElem?_eq_getElem (show j < M.length by omega), List.getD])] at h1
  have e : ((List.range n).all fun i => L.getD i 0 == M.getD i 0) = decide (L = M) := by
    rw [Bool.eq_iff_iff]
    simp only [List.all_eq_true, List.mem_range, beq_iff_eq, decide_eq_true_eq]
    constructor
    · intro h
      refine List.ext_getElem (by omega) (fun j h1 h2 => ?_)
      have := h j (by omega)
      simpa [List.getD, List.getElem?_eq_getElem h1, List.getElem?_eq_getElem h2] using this
    · intro h j _; rw [h]
  rw [e] at h1
  simp only [binOp, Op.equal, Op.maxDepth, Sem.run_bind, h1, Result.andThen_ok, Sem.run_pure]
end
end Go.Proofs.HK

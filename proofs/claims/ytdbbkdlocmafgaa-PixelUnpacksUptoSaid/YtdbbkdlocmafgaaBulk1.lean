/- What the bound of an upto statement says of a slice's length. -/
import Derived.Test.YtdbbkdlocmafgaaRows
import Derived.Test.YtdbbkdlocmafgaaOpen
namespace Go.Proofs.Ytdbbkdlocmafgaa
open Go.RowKit Go.Proofs.HK
theorem bulk_one {H : Type} (d : DataW H) : 1 ≤ Rows.uptoBulk d := by
  cases d with
  | lit l => cases l <;> simp [Rows.uptoBulk]
  | _ => simp [Rows.uptoBulk]
theorem bulk_part {H : Type} {d : DataW H} {l : List (DataW H)} (h : d ∈ l) : Rows.uptoBulk d ≤ Rows.uptoBulkAll l := by
  induction l with
  | nil => cases h
  | cons x r ih =>
    simp only [Rows.uptoBulkAll]
    rcases List.mem_cons.1 h with e | e
    · subst e; omega
    · have := ih e; omega
theorem bulk_len {H : Type} (l : List (DataW H)) : l.length ≤ Rows.uptoBulkAll l := by
  induction l with
  | nil => simp
  | cons x r ih => have := bulk_one x; simp only [Rows.uptoBulkAll, List.length_cons]; omega
/-- A slice that came in has at most so many elements. -/
theorem bulk_le {P : Program} {H : Type} {enc : TypeId × Value → H} {w : World} {base : Nat} {spare : Nat → Bool} {held : Bool} {fuel : Nat} {t e : TypeId} {A : Option Addr} {n c : Nat} {x : DataW H × List MemPlace} {ds : List (DataW H)}
    (ht : P.underlying t = some (.slice e)) (h : DataW.trod enc P w base spare held fuel t (Value.slice A n c).cells.toList = some x) (hk : Rows.uptoSmall H ds = true) (hm : x.1 ∈ ds) : n ≤ 1048576 := by
  have hb : Rows.uptoBulkAll ds ≤ 1048576 := of_decide_eq_true hk
  have hp := bulk_part hm
  rcases DataW.trod_slice ht h with ⟨e1, _⟩ | ⟨a, len, cap, elems, rest, m, _, e1, rfl, _, _, _, hl, _⟩
  · simp only [Value.cells, List.cons.injEq, Value.slice.injEq, and_true] at e1
    omega
  · simp only [Value.cells, List.cons.injEq, Value.slice.injEq, and_true] at e1
    have h1 := bulk_len (elems.map (·.1))
    rw [List.length_map] at h1
    have h2 : Rows.uptoBulkAll (elems.map (·.1)) ≤ Rows.uptoBulk (.slice (elems.map (·.1)) (rest.map (·.1))) := by simp only [Rows.uptoBulk]; omega
    have hp2 : Rows.uptoBulk (.slice (elems.map (·.1)) (rest.map (·.1))) ≤ Rows.uptoBulkAll ds := hp
    omega
end Go.Proofs.Ytdbbkdlocmafgaa

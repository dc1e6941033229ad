/- The contracts of layer 10, blocks: a reader that is pushed; and the document's. -/
import Derived.Test.YtamkfjbdcjkchaaDoorOut
import Derived.Test.YtamkfjbdcjkchaaDoorReg
import Derived.Deep.DeepCutAuto
import Derived.Deep.CutBlock
namespace Go.Proofs.YtamkfjbdcjkchaaDoor
open Go.RowKit Go.Proofs.HK
set_option linter.unusedVariables false
set_option linter.unusedSimpArgs false
attribute [local go_sem] max2_int min2_int max_two min_two

/-- A reader of blocks: what is left of the block, how many bytes it has seen, whether the end was read, what it has told. -/
structure BSt where
  left : Nat
  seen : Nat
  done : Bool
  out : List UInt8
def bStep (s : BSt) (c : UInt8) : BSt :=
  if s.done then s else if 0 < s.left then ⟨s.left - 1, s.seen + 1, false, s.out ++ [c]⟩ else ⟨c.toNat, s.seen + 1, c == 0, s.out⟩
def bRun (s : BSt) (bs : List UInt8) : BSt := bs.foldl bStep s
theorem bRun_nil (s : BSt) : bRun s [] = s := rfl
theorem bRun_append (s : BSt) (a b : List UInt8) : bRun s (a ++ b) = bRun (bRun s a) b := by unfold bRun; rw [List.foldl_append]
theorem bRun_done (bs : List UInt8) : ∀ s : BSt, s.done = true → bRun s bs = s := by
  induction bs with
  | nil => intro s _; rfl
  | cons b bs ih =>
    intro s h
    show bRun (bStep s b) bs = s
    have e : bStep s b = s := by unfold bStep; rw [if_pos h]
    rw [e]
    exact ih s h
theorem bRun_take (s : BSt) (bs : List UInt8) (k : Nat) (h : k < bs.length) : bRun s (bs.take (k + 1)) = bStep (bRun s (bs.take k)) bs[k] := by
  rw [List.take_succ_eq_append_getElem h, bRun_append]
  rfl
theorem bStep_seen (s : BSt) (c : UInt8) : (bStep s c).seen ≤ s.seen + 1 ∧ s.seen ≤ (bStep s c).seen ∧ (bStep s c).left ≤ s.left + 255 ∧ (bStep s c).out.length ≤ s.out.length + 1 := by
  have := c.toNat_lt
  unfold bStep
  split
  · exact ⟨by omega, by omega, by omega, by omega⟩
  · split
    · refine ⟨by simp, by simp, by simp only; omega, by simp⟩
    · refine ⟨by simp, by simp, by simp only; omega, by simp⟩
theorem bRun_seen (bs : List UInt8) : ∀ s : BSt, (bRun s bs).seen ≤ s.seen + bs.length ∧ s.seen ≤ (bRun s bs).seen ∧ (bRun s bs).out.length ≤ s.out.length + bs.length := by
  induction bs with
  | nil => intro s; exact ⟨by simp [bRun], by simp [bRun], by simp [bRun]⟩
  | cons b bs ih =>
    intro s
    have h1 := bStep_seen s b
    have h2 := ih (bStep s b)
    show (bRun (bStep s b) bs).seen ≤ _ ∧ _ ≤ (bRun (bStep s b) bs).seen ∧ (bRun (bStep s b) bs).out.length ≤ _
    rw [List.length_cons]
    omega
theorem bStep_left (s : BSt) (c : UInt8) (h : s.left ≤ 255) : (bStep s c).left ≤ 255 := by
  have := c.toNat_lt
  unfold bStep
  split
  · exact h
  · split
    · simp only; omega
    · simp only; omega
theorem bRun_left (bs : List UInt8) : ∀ s : BSt, s.left ≤ 255 → (bRun s bs).left ≤ 255 := by
  induction bs with
  | nil => intro s h; exact h
  | cons b bs ih => intro s h; exact ih _ (bStep_left s b h)
/-- A block's bytes in one go. -/
theorem bRun_block (xs : List UInt8) : ∀ s : BSt, s.done = false → xs.length ≤ s.left → bRun s xs = ⟨s.left - xs.length, s.seen + xs.length, false, s.out ++ xs⟩ := by
  induction xs with
  | nil => intro s h _; obtain ⟨a, b, c, d⟩ := s; simp at h; subst h; simp [bRun]
  | cons x xs ih =>
    intro s h hl
    rw [List.length_cons] at hl
    have e : bStep s x = ⟨s.left - 1, s.seen + 1, false, s.out ++ [x]⟩ := by unfold bStep; rw [h, if_neg (by simp), if_pos (by omega)]
    show bRun (bStep s x) xs = _
    rw [e, ih _ rfl (by simp only; omega)]
    simp only [List.length_cons, List.append_assoc, List.singleton_append]
    congr 1 <;> omega
/-- The bytes that stand behind the end. -/
def bRest (s : BSt) (bs : List UInt8) : List UInt8 := if (bRun s bs).done then bs.drop ((bRun s bs).seen - s.seen) else []
/-- While it isn't done it sees every byte. -/
theorem bRun_all (bs : List UInt8) : ∀ s : BSt, (bRun s bs).done = false → (bRun s bs).seen = s.seen + bs.length := by
  induction bs with
  | nil => intro s _; rfl
  | cons b bs ih =>
    intro s h
    have h' : (bRun (bStep s b) bs).done = false := h
    have hs : s.done = false := by
      cases hd : s.done with
      | false => rfl
      | true =>
        have e := bRun_done (b :: bs) s hd
        rw [e, hd] at h
        cases h
    have h1 : (bStep s b).seen = s.seen + 1 := by
      unfold bStep
      rw [hs, if_neg (by simp)]
      split <;> rfl
    have h2 := ih _ h'
    show (bRun (bStep s b) bs).seen = _
    rw [h2, h1, List.length_cons]
    omega
/-- At its end it has seen just the bytes up to there. -/
theorem bRun_seenT (s : BSt) (bs : List UInt8) (k : Nat) (hk : k ≤ bs.length) (h0 : s.done = false) (hd : (bRun s (bs.take k)).done = true) (hn : ∀ j, j < k → (bRun s (bs.take j)).done = false) : (bRun s (bs.take k)).seen = s.seen + k := by
  cases k with
  | zero => rw [List.take_zero] at hd; rw [show bRun s [] = s from rfl, h0] at hd; cases hd
  | succ k =>
    have h1 := hn k (by omega)
    have h2 := bRun_all (bs.take k) s h1
    rw [List.length_take, Nat.min_eq_left (by omega)] at h2
    rw [bRun_take s bs k (by omega)]
    unfold bStep
    rw [h1, if_neg (by simp)]
    split
    · simp only; omega
    · simp only; omega
theorem bnew_calls (w : World) : Calls Tryd.prog 33 #[] w fun e w' => e = .returned (.pointer (some ⟨w.heap.size, 0, none⟩)) ∧ w' = w.alloc (.cells #[.int .i64 0, .int .i64 0, .bool false, .slice none 0 0] 82) := by
  go_enter Tryd.func33, Tryd.ntmps33
  go_wp2_with fail
  go_ret
  exact ⟨rfl, rfl⟩
/-- A reader's box. -/
def bkC (L S : Nat) (dn : Bool) (v : Value) : Array Value := #[.int .i64 (L : Int), .int .i64 (S : Int), .bool dn, v]
theorem blk4 {W : World} {g : Nat} {v0 v1 v2 v3 : Value} {t : TypeId} (hb : W.heap[g]? = some (.cells #[v0, v1, v2, v3] t (0, 0))) :
    W.cell? ⟨g, 0, none⟩ = some v0 ∧ W.cell? ⟨g, 1, none⟩ = some v1 ∧ W.cell? ⟨g, 2, none⟩ = some v2 ∧ W.cell? ⟨g, 3, none⟩ = some v3 ∧ ∀ i, W.frozen? ⟨g, i, none⟩ = false := by
  simp [World.cell?, World.frozen?, hb]
theorem bdone_calls (w : World) (g L S : Nat) (dn : Bool) (v : Value) (hb : w.heap[g]? = some (.cells (bkC L S dn v) 82 (0, 0))) :
    Calls Tryd.prog 35 #[.pointer (some ⟨g, 0, none⟩)] w fun e w' => e = .returned (.bool dn) ∧ w' = w := by
  unfold bkC at hb
  obtain ⟨c0, c1, c2, c3, cf⟩ := blk4 hb
  clear hb
  go_enter Tryd.func35, Tryd.ntmps35
  go_wp2_with fail
  go_ret
  exact ⟨rfl, rfl⟩
theorem bseen_calls (w : World) (g L S : Nat) (dn : Bool) (v : Value) (hb : w.heap[g]? = some (.cells (bkC L S dn v) 82 (0, 0))) :
    Calls Tryd.prog 36 #[.pointer (some ⟨g, 0, none⟩)] w fun e w' => e = .returned (.int .i64 (S : Int)) ∧ w' = w := by
  unfold bkC at hb
  obtain ⟨c0, c1, c2, c3, cf⟩ := blk4 hb
  clear hb
  go_enter Tryd.func36, Tryd.ntmps36
  go_wp2_with fail
  go_ret
  exact ⟨rfl, rfl⟩
end Go.Proofs.YtamkfjbdcjkchaaDoor

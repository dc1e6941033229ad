/- A region that draws its order, within a round of a range over a function: by the plain words of the plain walk. No program in sight. -/
import Derived.Test.YtamkfjbdcjkchaaDoorRange
import Derived.Deep.RegionHeld3
import Derived.OrdersIn
import Derived.OwnWalkIn
namespace Go.Proofs.HK
open Go.RowKit
set_option linter.unusedVariables false

/-- Q, where the code ends; nothing else. -/
def OnlyNormal (Q : Exit → Act → World → Prop) : Exit → Act → World → Prop := fun e a w => e = .normal ∧ Q .normal a w
variable {P : Program} {ops : Array Oper} {Q : Exit → Act → World → Prop} {S : World → Prop} {l n : Nat}

theorem oper_inRound {o : Oper} {a : Act} {w : World} {K : Act → World → Prop} (hd : ∀ c, o.op ≠ .defer c) (h : o.wp P a w K (OnlyNormal Q)) : o.wpIn (Fence.wide.inRound l) n P a w K (OnlyNormal Q) := by
  unfold Oper.wpIn
  refine ⟨fun _ _ => trivial, ?_⟩
  rw [Oper.semAt_plain (Fence.wide.inRound l) _ _ hd]
  unfold Oper.wp at h
  generalize (execOp a.eval o).run P w = r at *
  cases r with
  | ok x w' =>
    cases x <;> simp only [Oper.upon, Oper.uponIn] at h ⊢
    case value v => exact h
    case skip => exact h
    case defer d => exact h
    case enter f args =>
      have h1 : CallsIn (Fence.wide.inRound l) (n - 1) P f args w' _ := CallsIn.inRound l (callsIn_wide.2 h)
      refine ⟨(by intro hh; cases hh), h1.mono (fun e w'' he => ?_)⟩
      cases e <;> exact he
    case row row args =>
      refine ⟨(by intro hh; cases hh), fun c cs hr => ?_⟩
      obtain ⟨v, w'', h1, h2⟩ := h c cs
      exact ⟨v, w'', h1, stepsIn_wide.2 h2⟩
    all_goals exact h.elim
  | halt x w' =>
    cases x <;> simp only [Oper.upon, Oper.uponIn] at h ⊢
    all_goals first | exact h | exact h.elim | (cases h.1)

theorem wpOp_inRound {i : Nat} {a : Act} {w : World} {K : Act → World → Prop} (hd : ∀ (o : Oper) c, ops[i]? = some o → o.op ≠ .defer c) (h : wpOp P ops (OnlyNormal Q) i K a w) : wpOpIn (Fence.wide.inRound l) n P ops (OnlyNormal Q) i K a w := by
  unfold wpOp at h
  unfold wpOpIn
  split
  · rename_i ho; simp only [ho] at h; exact h
  · rename_i o ho
    simp only [ho] at h
    split
    · rename_i hw
      simp only [hw, if_true] at h
      rcases h with h | ⟨_, a0, w0, h0⟩
      · exact oper_inRound (fun c => hd o c ho) h
      · cases h0.1
    · rename_i hw
      simp only [hw] at h
      exact ⟨fun _ _ => trivial, h⟩
theorem wpAny_inRound {md : Region.Mode} (hd : ∀ (i : Nat) (o : Oper) c, ops[i]? = some o → o.op ≠ .defer c) : ∀ (fuel : Nat) (listed : Array Bool) (a : Act) (w : World), wpAny P md ops (OnlyNormal Q) fuel listed a w → wpAnyIn (Fence.wide.inRound l) n P md ops (OnlyNormal Q) fuel listed a w
  | 0, _, _, _, h => h
  | fuel + 1, _, _, _, h => ⟨h.1, fun i hi => wpOp_inRound (fun o c ho => hd i o c ho) (wpOp_mono (fun a' w' h' => wpAny_inRound hd fuel _ a' w' h') (h.2 i hi))⟩
def noDefer (ops : Array Oper) : Bool := ops.all fun o => match o.op with | .defer _ => false | _ => true
/-- A region that draws, within a round: by the plain walk's words on what it reads. -/
theorem wpIn_region_round {id : Nat} {a : Act} {w : World} (hm : P.follows .mixedOrders = true) (hd : noDefer ops = true) (hS : S w.drew)
    (h : S w.drew → wpAnyH P .any ops (OnlyNormal Q) S ops.size (Array.replicate ops.size false) a w.drew) : (Code.region id ops true).wpIn (Fence.wide.inRound l) n P Q a w := by
  have hd' : ∀ (i : Nat) (o : Oper) c, ops[i]? = some o → o.op ≠ .defer c := fun i o c ho e => by
    have := (Array.all_eq_true_iff_forall_mem.1 hd) o (Array.mem_of_getElem? ho)
    rw [e] at this; cases this
  refine wpIn_mono (Q := OnlyNormal Q) (wpIn_region_any hm (wpAny_inRound hd' _ _ _ _ (wpAny_of_held _ _ _ _ (h hS)))) ?_
  intro e a' w' hq
  obtain ⟨rfl, hq⟩ := hq
  exact hq
/-- A step that only reads is taken first. -/
theorem take_round {md : Region.Mode} {i : Nat} {oi : Oper} {v : Value} {fuel : Nat} {listed : Array Bool} {a : Act} {w : World} (hi : ops[i]? = some oi) (hs : Region.noSelect ops = true) (hf : Region.free md ops listed i = true) (hr : (Region.ready md ops listed).contains i = true)
    (hw : Region.wanted oi (yielded ops a.tmps) = true) (hy : ∀ w, S w → (execOp a.eval oi).run P w = .ok (.value v) w) (hS : S w)
    (h : wpAnyH P md ops (OnlyNormal Q) S fuel (listed.setIfInBounds i true) (a.put oi.dst v) w) : wpAnyH P md ops (OnlyNormal Q) S (fuel + 1) listed a w :=
  wpAnyH_take hi hs hf hr (fun _ _ _ h => by cases h.1) (.inl ⟨hw, hy⟩) hS h
theorem one_round {md : Region.Mode} {i : Nat} {oi : Oper} {fuel : Nat} {listed : Array Bool} {a : Act} {w : World} (hr : Region.ready md ops listed = [i]) (hi : ops[i]? = some oi)
    (h : ∀ K : Act → World → Prop, Shut (∀ a w, S w → (S w → wpAnyH P md ops Q S fuel (listed.setIfInBounds i true) a w) → K a w) → if Region.wanted oi (yielded ops a.tmps) = true then Oper.wp P oi a w K Q else K (a.put oi.dst undef) w) :
    wpAnyH P md ops Q S (fuel + 1) listed a w :=
  wpAnyH_ready hr (by simp) (AllReadyH.cons hi h AllReadyH.nil)
theorem keepB {S : Nat → Prop} {w w1 : World} {bd : Addr} {i j : Nat} {a b c : Option Value} (hf : Fr S w w1) (hg : bd.block < w.heap.size) (hn : ¬ S bd.block) (h : w.cell? bd = a ∧ w.cell? ⟨bd.block, bd.off + i, none⟩ = b ∧ w.cell? ⟨bd.block, bd.off + j, none⟩ = c) :
    w1.cell? bd = a ∧ w1.cell? ⟨bd.block, bd.off + i, none⟩ = b ∧ w1.cell? ⟨bd.block, bd.off + j, none⟩ = c := by
  rw [hf.cell (p := bd) hg hn, hf.cellg bd.block (bd.off + i) hg hn, hf.cellg bd.block (bd.off + j) hg hn]; exact h
end Go.Proofs.HK

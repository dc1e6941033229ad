/- A range over a function, in the words of the frames: the iterator may hand over what it has just made. No program in sight. -/
import Derived.Test.YtamkfjbdcjkchaaDoorMem
import Derived.RangeFuncNested
import Derived.RangeFuncBound
import Derived.RangeFuncCalls
import Derived.RangeFuncLeaves
namespace Go.Proofs.HK
open Go.RowKit
set_option linter.unusedVariables false

/-- The blocks from L to U lie as they lay. -/
def KeepLU (L U : Nat) (W W' : World) : Prop := ∀ k, L ≤ k → k < U → W'.heap[k]? = W.heap[k]?
theorem KeepLU.refl (L U : Nat) (W : World) : KeepLU L U W W := fun _ _ _ => rfl
theorem KeepLU.trans {L U : Nat} {A B C : World} (h : KeepLU L U A B) (k : KeepLU L U B C) : KeepLU L U A C := fun i h1 h2 => (k i h1 h2).trans (h i h1 h2)
theorem KeepLU.of_fr {L U : Nat} {S : Nat → Prop} {A B : World} (h : Fr S A B) (hU : U ≤ A.heap.size) (hS : ∀ k, L ≤ k → k < U → ¬ S k) : KeepLU L U A B := fun k h1 h2 => h.block k (Nat.lt_of_lt_of_le h2 hU) (hS k h1 h2)
theorem Fr.putObj (l : Nat) (w : World) (o : Obj) : Fr (One l) w (w.putObj l o) := ⟨rfl, rfl, rfl, by simp, fun k hk hn => World.putObj_heap_other hn⟩

/-- WHAT AN ITERATOR PROMISES: it comes to N rounds, unless one says 'no more'; at the k-th it hands over args of which Ok k args holds there. Its own blocks lie from L to U. -/
def SeqM (F : Fence) (n : Nat) (P : Program) (g : Nat) (lb : Array Value) (N : Nat) (Ok : Nat → Nat → Array Value → World → Prop) (L U : Nat) (w : World) : Prop :=
  ∀ (l : Nat) (J Jx : Nat → World → Prop) (W : World), w.heap.size ≤ W.heap.size → KeepLU L U w W →
    (∀ k A B, J k A → Fr No A B → J k B) → (∀ k A B, Jx k A → Fr No A B → Jx k B) →
    (∀ k args W1, k < N → J k W1 → W.heap.size ≤ W1.heap.size → Ok W.heap.size k args W1 → YieldAt F (n - 1) P l args W1 fun e W' =>
      (e = .returned (.bool true) ∧ J (k + 1) W' ∧ KeepLU L U W1 W' ∧ W1.heap.size ≤ W'.heap.size) ∨ (e = .returned (.bool false) ∧ Jx k W')) →
    J 0 W → CallsIn F n P g (#[.func (.yield l) #[] #[]] ++ lb) W fun e W' => (∃ v, e = .returned v) ∧ (J N W' ∨ ∃ k, k < N ∧ Jx k W')

/-- How the body of a round may be left. -/
def postM (B L U : Nat) (I : Nat → World → Prop) (Ix : Code → Nat → World → Prop) (k : Nat) (W : World) : Exit → Act → World → Prop
  | .normal, _, W' => (∀ b, b = B ∨ b = B + 1 → W'.heap[b]? = W.heap[b]?) ∧ W.heap.size ≤ W'.heap.size ∧ KeepLU L U W W' ∧ I (k + 1) W'
  | .ret, _, W' => (∀ b, b = B ∨ b = B + 1 → W'.heap[b]? = W.heap[b]?) ∧ Ix .ret k W'
  | .exit id, _, W' => (∀ b, b = B ∨ b = B + 1 → W'.heap[b]? = W.heap[b]?) ∧ Ix (.exit id) k W'
  | .goto t, _, W' => (∀ b, b = B ∨ b = B + 1 → W'.heap[b]? = W.heap[b]?) ∧ Ix (.goto t) k W'
  | .panic _, _, _ => False
  | .outgrown, _, _ => False

variable {F : Fence} {n : Nat} {P : Program}
theorem wpIn_rangeFunc_mem {g : Operand} {ps : Array Tmp} {assign body : Code} {Q : Exit → Act → World → Prop} {a : Act} {w : World}
    (hro : F.round = none) (h1 : 1 ≤ n) {gf : Nat} {lb : Array Value} (hg : a.eval g = .func (.func gf) #[] lb) (hFg : F.fn gf) (eg : ∀ args w, (callFunc gf args).run P w = .ok (.enter gf args) w)
    {N : Nat} {Ok : Nat → Nat → Array Value → World → Prop} {L U : Nat} {w0 : World} (hseq : SeqM F (n - 1) P gf lb N Ok L U w0) (h0s : w0.heap.size ≤ w.heap.size) (h0k : KeepLU L U w0 w) (hU : U ≤ w.heap.size)
    (I : Nat → World → Prop) (Ix : Code → Nat → World → Prop)
    (hI : ∀ k A B, I k A → Fr (One (w.heap.size + 1)) A B → I k B) (hIx : ∀ c k A B, Ix c k A → Fr (One (w.heap.size + 1)) A B → Ix c k B)
    (h0 : ∀ W, Fr No w W → I 0 W)
    (hOk : ∀ k args W, k < N → Ok (w.heap.size + 2) k args W → args.size = ps.size ∧ ∀ W', Fr (One (w.heap.size + 1)) W W' → Ok (w.heap.size + 2) k args W')
    (hround : ∀ k args W W2, k < N → I k W2 → w.heap.size + 2 ≤ W2.heap.size → Ok (w.heap.size + 2) k args W2 →
      assign.wpIn (F.inRound (w.heap.size + 1)) (n - 1 - 1) P (Exit.then (fun a' W' => W' = W ∧ body.wpIn (F.inRound (w.heap.size + 1)) (n - 1 - 1) P (postM w.heap.size L U I Ix k W2) a' W2) (fun _ _ _ => False))
        { tmps := (ps.zip args).foldl (fun t (p, v) => t.setIfInBounds p v) a.tmps, defers := [] } W)
    (hdone : ∀ W, I N W → W.heap[w.heap.size]? = some (.deferred (some [])) → Q .normal { a with defers := { target := .collected w.heap.size, args := #[] } :: a.defers } W)
    (hstop : ∀ c k W, k < N → Ix c k W → W.heap[w.heap.size]? = some (.deferred (some [])) → c.wpIn F n P Q { a with defers := { target := .collected w.heap.size, args := #[] } :: a.defers } W) :
    (Code.rangeFunc g ps assign body).wpIn F n P Q a w := by
  refine wpIn_rangeFunc fun fn hfn => ?_
  rw [hro]
  obtain ⟨rec, hrec⟩ : ∃ rec : LoopState → Option Code → Loop, rec = fun st pe => { state := st, pending := pe, fn, tmps := a.tmps, params := ps, assign, body, defers := w.heap.size } := ⟨_, rfl⟩
  obtain ⟨W1, hW1⟩ : ∃ W1, W1 = (w.alloc (.deferred (some []))).alloc (.loop (rec .ready none)) := ⟨_, rfl⟩
  have hf1 : Fr No w W1 := by rw [hW1]; exact ((Fr.refl No w).alloc _).alloc _
  have hs1 : W1.heap.size = w.heap.size + 2 := by rw [hW1, World.size_alloc, World.size_alloc]
  have hL1 : W1.heap[w.heap.size + 1]? = some (.loop (rec .ready none)) := by
    have := heap_new (w.alloc (.deferred (some []))) (.loop (rec .ready none))
    rw [World.size_alloc] at this; rw [hW1]; exact this
  have hK1 : W1.heap[w.heap.size]? = some (.deferred (some [])) := by
    rw [hW1, ((Fr.refl No (w.alloc _)).alloc _).block w.heap.size (by rw [World.size_alloc]; omega) (fun h => h)]; exact heap_new w _
  refine ⟨w.heap.size + 1, [{ target := .collected w.heap.size, args := #[] }], W1, { target := .fn (.func gf) lb, args := #[.func (.yield (w.heap.size + 1)) #[] #[]] }, W1, gf,
    #[.func (.yield (w.heap.size + 1)) #[] #[]] ++ lb, W1, ?_, ?_, ?_, ?_, fun _ => h1, ?_⟩
  · rw [hW1, hrec]; exact run_enterLoop_outer _ _ _ _ _
  · simp only [resolve, hg]
    simp [go_sem]
  · intro f' hf'; simp [Target.leads] at hf'; subst hf'; exact hFg
  · simp [invoke, go_sem, eg]
  · refine (hseq (w.heap.size + 1)
      (fun k W => I k W ∧ W.heap[w.heap.size + 1]? = some (.loop (rec .ready none)) ∧ W.heap[w.heap.size]? = some (.deferred (some [])))
      (fun k W => ∃ c, Ix c k W ∧ W.heap[w.heap.size + 1]? = some (.loop (rec .done (some c))) ∧ W.heap[w.heap.size]? = some (.deferred (some [])))
      W1 (by omega) (h0k.trans (KeepLU.of_fr hf1 hU (fun _ _ _ h => h)))
      (fun k A B h hf => ⟨hI k A B h.1 hf.any, (hf.block _ (Array.getElem?_eq_some_iff.1 h.2.1).1 (fun h => h)).trans h.2.1, (hf.block _ (Array.getElem?_eq_some_iff.1 h.2.2).1 (fun h => h)).trans h.2.2⟩)
      (fun k A B h hf => by
        obtain ⟨c, hc, hl, hk⟩ := h
        exact ⟨c, hIx c k A B hc hf.any, (hf.block _ (Array.getElem?_eq_some_iff.1 hl).1 (fun h => h)).trans hl, (hf.block _ (Array.getElem?_eq_some_iff.1 hk).1 (fun h => h)).trans hk⟩)
      ?_ ⟨h0 W1 hf1, hL1, hK1⟩).mono ?_
    · rintro k args W hkN ⟨hi, hl, hk⟩ hWs hok
      rw [hs1] at hok
      have hlt : w.heap.size + 1 < W.heap.size := (Array.getElem?_eq_some_iff.1 hl).1
      have hy := run_yield (P := P) (args := args) hl (by rw [hrec]; exact (hOk k args W hkN hok).1)
      rw [hrec] at hy
      obtain ⟨W2, hW2⟩ : ∃ W2, W2 = W.putObj (w.heap.size + 1) (.loop { rec .ready none with state := .busy }) := ⟨_, rfl⟩
      have hf2 : Fr (One (w.heap.size + 1)) W W2 := by rw [hW2]; exact Fr.putObj _ _ _
      have hl2 : W2.heap[w.heap.size + 1]? = some (.loop { rec .ready none with state := .busy }) := by rw [hW2]; exact World.putObj_heap_same hlt
      have hk2 : W2.heap[w.heap.size]? = some (.deferred (some [])) := (hf2.block _ (by omega) (fun (e : w.heap.size = w.heap.size + 1) => by omega)).trans hk
      have hbeg : (Instr.beginRound (w.heap.size + 1)).run P W = .ok () W2 := by rw [hW2]; exact run_beginRound hl (by rw [hrec])
      refine ⟨fn, _, assign, body, hy, roundIn_of_wpIn hfn (wpIn_mono (hround k args W W2 hkN (hI k W W2 hi hf2) (by have := hf2.size; omega) ((hOk k args W hkN hok).2 W2 hf2)) ?_)⟩
      intro e0 a0 w0' h0'
      obtain ⟨rfl, hw0, hbody⟩ : e0 = .normal ∧ w0' = W ∧ body.wpIn (F.inRound (w.heap.size + 1)) (n - 1 - 1) P (postM w.heap.size L U I Ix k W2) a0 W2 := by
        cases e0 <;> first | exact ⟨rfl, h0'⟩ | exact h0'.elim
      subst hw0
      refine ⟨W2, hbeg, wpIn_mono hbody ?_⟩
      have fin : ∀ (jump : Option Code) (W3 : World), (∀ b, b = w.heap.size ∨ b = w.heap.size + 1 → W3.heap[b]? = W2.heap[b]?) →
          (Instr.endRound (w.heap.size + 1) jump).run P W3 = .ok (.bool jump.isNone) (W3.putObj (w.heap.size + 1) (.loop (rec (if jump.isNone then .ready else .done) jump))) ∧
          Fr (One (w.heap.size + 1)) W3 (W3.putObj (w.heap.size + 1) (.loop (rec (if jump.isNone then .ready else .done) jump))) ∧
          (W3.putObj (w.heap.size + 1) (.loop (rec (if jump.isNone then .ready else .done) jump))).heap[w.heap.size + 1]? = some (.loop (rec (if jump.isNone then .ready else .done) jump)) ∧
          (W3.putObj (w.heap.size + 1) (.loop (rec (if jump.isNone then .ready else .done) jump))).heap[w.heap.size]? = some (.deferred (some [])) := fun jump W3 hk3 => by
        have hl3 := (hk3 _ (.inr rfl)).trans hl2
        have hd3 := (hk3 _ (.inl rfl)).trans hk2
        have := run_endRound (P := P) jump hl3
        rw [hrec] at this ⊢
        exact ⟨this, Fr.putObj _ _ _, World.putObj_heap_same (Array.getElem?_eq_some_iff.1 hl3).1, (World.putObj_heap_other (by omega)).trans hd3⟩
      rintro e a3 W3 hp
      cases e with
      | normal =>
        obtain ⟨hk3, hz3, hlu3, hi3⟩ := hp
        obtain ⟨hr, hf4, hl4, hk4⟩ := fin none W3 hk3
        have hne : ∀ j, L ≤ j → j < U → ¬ One (w.heap.size + 1) j := fun j _ h2 e => by have e : j = w.heap.size + 1 := e; omega
        refine ⟨_, _, hr, .inl ⟨rfl, ⟨hI _ _ _ hi3 hf4, hl4, hk4⟩, ((KeepLU.of_fr hf2 (by omega) hne).trans hlu3).trans (KeepLU.of_fr hf4 (by have := hf2.size; omega) hne), ?_⟩⟩
        have := hf2.size
        have := hf4.size
        omega
      | ret =>
        obtain ⟨hk3, hi3⟩ := hp
        obtain ⟨hr, hf4, hl4, hk4⟩ := fin (some .ret) W3 hk3
        exact ⟨_, _, hr, .inr ⟨rfl, .ret, hIx _ _ _ _ hi3 hf4, hl4, hk4⟩⟩
      | exit id =>
        obtain ⟨hk3, hi3⟩ := hp
        obtain ⟨hr, hf4, hl4, hk4⟩ := fin (some (.exit id)) W3 hk3
        exact ⟨_, _, hr, .inr ⟨rfl, .exit id, hIx _ _ _ _ hi3 hf4, hl4, hk4⟩⟩
      | goto t =>
        obtain ⟨hk3, hi3⟩ := hp
        obtain ⟨hr, hf4, hl4, hk4⟩ := fin (some (.goto t)) W3 hk3
        exact ⟨_, _, hr, .inr ⟨rfl, .goto t, hIx _ _ _ _ hi3 hf4, hl4, hk4⟩⟩
      | panic ch => exact hp.elim
      | outgrown => exact hp.elim
    · rintro e W2 ⟨⟨v, rfl⟩, (⟨hi, hl, hk⟩ | ⟨k, hkN, c, hi, hl, hk⟩)⟩
      · exact ⟨none, _, by have := run_endLoop (P := P) hl (by rw [hrec]; simp); rw [hrec] at this; exact this, hdone _ (hI _ _ _ hi (Fr.putObj _ _ _)) ((World.putObj_heap_other (by omega)).trans hk)⟩
      · exact ⟨some c, _, by have := run_endLoop (P := P) hl (by rw [hrec]; simp); rw [hrec] at this; exact this, hstop c k _ hkN (hIx _ _ _ _ hi (Fr.putObj _ _ _)) ((World.putObj_heap_other (by omega)).trans hk)⟩
end Go.Proofs.HK

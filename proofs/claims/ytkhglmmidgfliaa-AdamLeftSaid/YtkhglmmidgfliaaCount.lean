/- The contract of adam.Count. -/
import Derived.Test.YtkhglmmidgfliaaLines
namespace Go.Proofs.Ytkhglmmidgfliaa
open Go.RowKit Go.Proofs.HK
set_option linter.unusedVariables false
set_option linter.unusedSimpArgs false
attribute [local go_sem] max2_int min2_int max_two min_two
attribute [local go_sem] Oper.semAt_some

theorem itemsF_le (ps : List PN) (hps : ∀ p ∈ ps, p.ok) : ∀ j, (itemsF j ps).length ≤ ps.length * 4096 := by
  induction ps with
  | nil => intro j; exact Nat.le_refl _
  | cons p ps ih =>
    intro j
    rw [itemsF, List.length_append, linesOf_length, List.length_cons]
    have := ih (fun q hq => hps q (List.mem_cons_of_mem _ hq)) (j + 1)
    have := (hps p (List.mem_cons_self ..)).2.2.2.2.2
    omega
def itsOf (W H : Int) (laced : Bool) : List (Nat × List (Nat × Nat)) := itemsF 0 (psOf W H laced)
theorem itsOf_le (W H : Int) (laced : Bool) : (itsOf W H laced).length ≤ 409600 := by
  have := itemsF_le _ (psOf_ok W H laced).1 0
  have := (psOf_ok W H laced).2
  unfold itsOf
  omega
/-- The premises of the second law for a range over what Lines gives. -/
theorem IterV.seq {w : World} {v : Value} {ps : List PN} {L U : Nat} (nn : Nat) (hnn : 2 ≤ nn) (h : IterV w v ps L U) (hps : ∀ p ∈ ps, p.ok) (hlen : ps.length ≤ 100) :
    ∃ g, v = .func (.func 65) #[] #[.pointer (some ⟨g, 0, none⟩)] ∧ SeqT Fence.wide nn Try.prog 65 #[.pointer (some ⟨g, 0, none⟩)] (itemsF 0 ps).length (ovOk ps) L U w := by
  obtain ⟨g, A, c, e, h1, h2, h3, h4, h5, h6⟩ := h
  exact ⟨g, e, over_seq nn hnn A c ps g L U w hps hlen ⟨h1, h2⟩ h3 h4 h5⟩
theorem ovOk.args {ps : List PN} {L0 k : Nat} {args : Array Value} {W : World} (h : ovOk ps L0 k args W) : args.size = 2 ∧ ∀ b, blkOf args b → L0 ≤ b := by
  obtain ⟨it, A, n, c, ob, h1, rfl, h3, h4, h5⟩ := h
  refine ⟨rfl, fun b hb => ?_⟩
  obtain ⟨q, ad3, m3, d3, e1, e2⟩ := hb
  have hq : q = 0 ∨ q = 1 ∨ 2 ≤ q := by omega
  rcases hq with rfl | rfl | hq
  · cases e1
  · have e1 : Value.slice A n c = .slice (some ad3) m3 d3 := Option.some.inj e1
    injection e1 with e1 _ _
    obtain ⟨A', c', e', _, _, hA'⟩ := h4.cells
    injection e' with e3 _ _
    have := h5 ad3.block (hA' ad3 (by rw [← e3]; exact e1))
    omega
  · rw [Array.getElem?_eq_none (by simpa using hq)] at e1; cases e1
theorem ovOk.fr {ps : List PN} {L0 k : Nat} {args : Array Value} {W W' : World} {S : Nat → Prop} (h : ovOk ps L0 k args W) (hf : Fr S W W') (hS : ∀ b, L0 ≤ b → ¬ S b) : ovOk ps L0 k args W' := by
  obtain ⟨it, A, n, c, ob, h1, h2, h3, h4, h5⟩ := h
  exact ⟨it, A, n, c, ob, h1, h2, h3, h4.fr hf (fun j hj e => hS j (h5 j hj) e), h5⟩

set_option maxRecDepth 100000 in
set_option maxHeartbeats 1600000 in
theorem count_calls (W H : Int) (laced : Bool) (w : World) : Calls Try.prog 22 #[.int .i64 W, .int .i64 H, .bool laced] w fun e w' => e = .returned (.int .i64 (itsOf W H laced).length) ∧ Fr No w w' := by
  refine (callsIn_wide (n := 4)).1 (callsIn_of_wp_marks Try.func22 rfl trivial (wpIn_wide.2 ?_) rfl)
  simp only [Try.ntmps22, List.size_toArray, List.length_cons, List.length_nil, Nat.reduceAdd, Nat.reduceSub, Array.replicate_succ, Array.replicate_zero, List.push_toArray, List.append_toArray, List.nil_append, List.cons_append]
  go_wp2_with fail
  refine (lines_calls W H laced _).mono ?_
  rintro e w2 ⟨v, rfl, hI, hf2⟩
  obtain ⟨gI, rfl, hseq⟩ := hI.seq 3 (by decide) (psOf_ok W H laced).1 (psOf_ok W H laced).2
  obtain ⟨g, hg⟩ : ∃ g, g = w.heap.size := ⟨_, rfl⟩
  obtain ⟨w1, hw1⟩ : ∃ w1, w1 = w.alloc (.cells #[.int .i64 0] 3) := ⟨_, rfl⟩
  rw [← hw1] at hf2 hI hseq
  rw [← hg]
  have hs1 : w1.heap.size = g + 1 := by rw [hw1, World.size_alloc, hg]
  have hb1 : w1.heap[g]? = some (.cells #[.int .i64 0] 3 (0, 0)) := by rw [hw1, hg]; exact heap_new _ _
  have hf1 : Fr No w w1 := by rw [hw1]; exact (Fr.refl _ _).alloc _
  have hs2 : g + 1 ≤ w2.heap.size := by rw [← hs1]; exact hf2.size
  have h0 : ∀ X, Fr No w2 X → X.cell? ⟨g, 0, none⟩ = some (.int .i64 ((0 : Nat) : Int)) ∧ X.frozen? ⟨g, 0, none⟩ = false ∧ Fr No w X := fun X hf => by
    have hF := hf2.then hf
    refine ⟨?_, ?_, hf1.then hF⟩
    · rw [hF.cellg g 0 (by omega) (fun h => h)]; simp [World.cell?, hb1]
    · rw [hF.frozen (p := ⟨g, 0, none⟩) (by show g < _; omega) (fun h => h)]; simp [World.frozen?, hb1]
  have H0 := hid h0
  have HG := hid hg
  obtain ⟨N, hN⟩ : ∃ N, N = (itsOf W H laced).length := ⟨_, rfl⟩
  have hNle : N ≤ 409600 := by rw [hN]; exact itsOf_le _ _ _
  have HN := hid hN
  rw [show (itemsF 0 (psOf W H laced)).length = N from hN.symm] at hseq
  clear hg hw1 hb1 hf1 h0 hN hI
  go_wp2_with fail
  refine wpIn_wide.1 (wpIn_rangeFunc_T (F := Fence.wide) (n := 4) rfl (by omega) (gf := 65) (lb := #[.pointer (some ⟨gI, 0, none⟩)]) rfl trivial (enters_of Try.func65 (by kernel_rfl) rfl)
    hseq (Nat.le_refl _) (KeepLU.refl _ _ _) (Nat.le_refl _)
    (fun k T X => T = One g ∧ X.cell? ⟨g, 0, none⟩ = some (.int .i64 (k : Nat)) ∧ X.frozen? ⟨g, 0, none⟩ = false ∧ Fr No w X)
    (fun _ _ _ => False) (One g) ?hT0 ?hI (fun _ _ _ _ h _ => h) ?hIT ?h0 ?hOk ?round ?done (fun _ _ _ _ h _ => h.elim))
  case hT0 => rintro b rfl; exact ⟨by omega, by omega⟩
  case hI =>
    rintro k T X Y ⟨rfl, h1, h2, h3⟩ hf
    have hl8 : g < X.heap.size := lt_of_cell (a := ⟨g, 0, none⟩) h1
    have hne : ¬ One (w2.heap.size + 1) g := fun e => by have e : g = w2.heap.size + 1 := e; omega
    exact ⟨rfl, (hf.cellg g 0 hl8 hne).trans h1, (hf.frozen (p := ⟨g, 0, none⟩) hl8 hne).trans h2, h3.trans hf (fun j hj e => by have e : j = w2.heap.size + 1 := e; have := HG.out; omega)⟩
  case hIT => rintro k T X ⟨rfl, _⟩ b rfl; exact ⟨by omega, by omega⟩
  case h0 => intro X hf; exact ⟨rfl, H0.out X hf⟩
  case hOk =>
    intro k args X hk hok
    exact ⟨hok.args.1, fun b hb => by have := hok.args.2 b hb; omega, fun X' hf => hok.fr hf (fun b hb e => by have e : b = w2.heap.size + 1 := e; omega)⟩
  case round =>
    rintro k T args X X2 hk ⟨rfl, h1, h2, h3⟩ hTs hsz ⟨it, A, n, c, ob, _, rfl, _, _, _⟩
    have hw : IntKind.i64.wrap ((k : Int) + 1) = (k : Int) + 1 := w64 _ (by omega) (by omega)
    have hl8 : g < X2.heap.size := lt_of_cell (a := ⟨g, 0, none⟩) h1
    simp only [List.zip_toArray, List.zip_cons_cons, List.zip_nil_right, List.foldl_toArray, List.foldl_cons, List.foldl_nil, List.setIfInBounds_toArray, List.set_cons_zero, List.set_cons_succ]
    gi_wp2
    refine ⟨trivial, ?_⟩
    gi_wp2
    have hZ : Fr (One g) X2 (X2.setCell ⟨g, 0, none⟩ (.int .i64 ((k : Int) + 1))) := Fr.set1 _ _ _ _
    have hgw := HG.out
    refine ⟨One g, ⟨rfl, ?_, by rw [World.frozen?_setCell]; exact h2, h3.trans hZ (fun j hj (e : j = g) => by omega)⟩, hZ.mono (fun b _ e => .inl e), fun b hb => ⟨Nat.lt_of_lt_of_le (by rw [show b = g from hb]; exact hl8) hZ.size, .inl hb⟩⟩
    rw [World.cell?_setCell_same' _ _ _ (by rw [h1]; rfl)]; simp
  case done =>
    rintro T X ⟨rfl, h1, h2, h3⟩ hD
    go_wp2_with fail
    refine ⟨by simp, .inl ⟨_, _, rfl, run_takeDeferred hD, ?_⟩⟩
    refine ⟨_, results_tmp rfl _ _ _, ?_⟩
    rw [← HN.out]
    exact ⟨rfl, h3.trans (Fr.putObj _ _ _) (fun j hj (e : j = w2.heap.size) => by have := HG.out; omega)⟩
end Go.Proofs.Ytkhglmmidgfliaa

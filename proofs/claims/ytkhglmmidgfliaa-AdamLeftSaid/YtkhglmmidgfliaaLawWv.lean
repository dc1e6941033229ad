/- The contract of the law's walk over all lines. -/
import Derived.Test.YtkhglmmidgfliaaDocWv
import Derived.Test.YtkhglmmidgfliaaAppIn
namespace Go.Proofs.Ytkhglmmidgfliaa
open Go.RowKit Go.Proofs.HK
set_option linter.unusedVariables false
set_option linter.unusedSimpArgs false
attribute [local go_sem] max2_int min2_int max_two min_two
attribute [local go_sem] Oper.semAt_some

theorem blk1lawWoven {W : World} {g : Nat} {v0 : Value} {t : TypeId} (hb : W.heap[g]? = some (.cells #[v0] t (0, 0))) : W.cell? ⟨g, 0, none⟩ = some v0 ∧ W.frozen? ⟨g, 0, none⟩ = false := by
  simp [World.cell?, World.frozen?, hb]
theorem its_lelawWoven (W H : Int) (laced : Bool) : (itsWov W H laced).length ≤ 409600 := by
  have := itemsF_le _ (psWov_ok W H laced).1 0
  have := (psWov_ok W H laced).2
  unfold itsWov
  omega
set_option maxRecDepth 100000 in
set_option maxHeartbeats 3200000 in
theorem lawWoven_calls (W H : Int) (laced : Bool) (w : World) : Calls Try.prog 20 #[.int .i64 W, .int .i64 H, .bool laced] w (RetLs w (itsWov W H laced)) := by
  refine (callsIn_wide (n := 4)).1 (callsIn_of_wp_marks Try.func20 rfl trivial (wpIn_wide.2 ?_) rfl)
  simp only [Try.ntmps20, List.size_toArray, List.length_cons, List.length_nil, Nat.reduceAdd, Nat.reduceSub, Array.replicate_succ, Array.replicate_zero, List.push_toArray, List.append_toArray, List.nil_append, List.cons_append]
  go_wp2_with fail
  refine (woven_calls W H laced _).mono ?_
  rintro e w2 ⟨v, rfl, hI, hf2⟩
  obtain ⟨gI, rfl, hseq⟩ := hI.seq 3 (by decide) (psWov_ok W H laced).1 (psWov_ok W H laced).2
  obtain ⟨g, hg⟩ : ∃ g, g = w.heap.size := ⟨_, rfl⟩
  obtain ⟨w1, hw1⟩ : ∃ w1, w1 = w.alloc (.cells #[.slice none 0 0] 27) := ⟨_, rfl⟩
  rw [← hw1] at hf2 hI hseq
  rw [← hg]
  have hs1 : w1.heap.size = g + 1 := by rw [hw1, World.size_alloc, hg]
  have hb1 : w1.heap[g]? = some (.cells #[.slice none 0 0] 27 (0, 0)) := by rw [hw1, hg]; exact heap_new _ _
  have hf1 : Fr No w w1 := by rw [hw1]; exact (Fr.refl _ _).alloc _
  have hs2 : g + 1 ≤ w2.heap.size := by rw [← hs1]; exact hf2.size
  have h0 : ∀ X, Fr No w2 X → X.heap[g]? = some (.cells #[.slice none 0 0] 27 (0, 0)) ∧ Fr No w X := fun X hf =>
    ⟨((hf2.then hf).block g (by omega) (fun h => h)).trans hb1, hf1.then (hf2.then hf)⟩
  have H0 := hid h0
  have HG := hid hg
  obtain ⟨its, hits⟩ : ∃ its, its = itsWov W H laced := ⟨_, rfl⟩
  have hNle : its.length ≤ 409600 := by rw [hits]; exact its_lelawWoven _ _ _
  rw [show (itemsF 0 (psWov W H laced)).length = its.length by rw [hits]; rfl] at hseq
  have hget : ∀ (k : Nat) (it : Nat × List (Nat × Nat)), (itemsF 0 (psWov W H laced))[k]? = some it → its[k]? = some it := fun k it h => by rw [hits]; exact h
  have HGET := hid hget
  have HITS := hid hits
  clear hg hw1 hb1 hf1 h0 hI hits hget
  go_wp2_with fail
  refine wpIn_wide.1 (wpIn_rangeFunc_T (F := Fence.wide) (n := 4) rfl (by omega) (gf := 65) (lb := #[.pointer (some ⟨gI, 0, none⟩)]) rfl trivial (enters_of Try.func65 (by kernel_rfl) rfl)
    hseq (Nat.le_refl _) (KeepLU.refl _ _ _) (Nat.le_refl _)
    (fun k T X => ∃ A c ob xs, T = (fun b => b = g ∨ ob = some b) ∧ X.heap[g]? = some (.cells #[.slice A k c] 27 (0, 0)) ∧ NewL X (w2.heap.size + 2) (its.take k) A k c ob xs ∧ Fr No w X)
    (fun _ _ _ => False) (fun b => b = g ∨ (none : Option Nat) = some b) ?hT0 ?hI (fun _ _ _ _ h _ => h) ?hIT ?h0 ?hOk ?round ?done (fun _ _ _ _ h _ => h.elim))
  case hT0 =>
    rintro b (rfl | e)
    · exact ⟨by omega, by omega⟩
    · cases e
  case hI =>
    rintro k T X Y ⟨A, c, ob, xs, rfl, h1, h2, h3⟩ hf
    have hl8 : g < X.heap.size := (Array.getElem?_eq_some_iff.1 h1).1
    exact ⟨A, c, ob, xs, rfl, (hf.block g hl8 (fun e => by have e : g = w2.heap.size + 1 := e; omega)).trans h1, h2.fr hf (fun b hb e => by have e : b = w2.heap.size + 1 := e; omega), h3.trans hf (fun j hj e => by have e : j = w2.heap.size + 1 := e; have := HG.out; omega)⟩
  case hIT =>
    rintro k T X ⟨A, c, ob, xs, rfl, h1, h2, h3⟩ b (rfl | e)
    · exact ⟨by omega, by omega⟩
    · have := h2.2.2.2 b e; exact ⟨by omega, by omega⟩
  case h0 => intro X hf; exact ⟨none, 0, none, [], rfl, (H0.out X hf).1, NewL.nil _ _, (H0.out X hf).2⟩
  case hOk =>
    intro k args X hk hok
    exact ⟨hok.args.1, fun b hb => by have := hok.args.2 b hb; omega, fun X' hf => hok.fr hf (fun b hb e => by have e : b = w2.heap.size + 1 := e; omega)⟩
  case round =>
    rintro k T args X X2 hk ⟨A, c, ob, xs, rfl, h1, h2, h3⟩ hTs hsz ⟨it, A3, n3, c3, ob3, hit, rfl, hl3, hrow3, hob3⟩
    obtain ⟨q0, q1⟩ := blk1lawWoven h1
    have hit := HGET.out _ _ hit
    obtain ⟨hik, hie⟩ := List.getElem?_eq_some_iff.1 hit
    obtain ⟨x, hx⟩ : ∃ x : LN, x = ⟨it.1, it.2, A3, c3⟩ := ⟨_, rfl⟩
    have hxit : its.take (k + 1) = its.take k ++ [x.it] := by rw [List.take_succ_eq_append_getElem hik, hie, hx]; rfl
    have hcel : Cells X2 x.A (spotC x.s) ∧ ∀ ad, x.A = some ad → w2.heap.size + 2 ≤ ad.block ∧ ad.block < X2.heap.size ∧ ob ≠ some ad.block := by
      rw [hx]
      obtain ⟨A', c', e', _, hc', hA'⟩ := hrow3.cells
      injection e' with e1 _ _
      subst e1
      refine ⟨hc', fun ad e => ⟨hob3 _ (hA' ad e), hrow3.lt (hA' ad e), fun e2 => ?_⟩⟩
      refine (hTs ad.block (.inr e2)).2 ⟨1, ad, n3, c3, ?_, rfl⟩
      rw [show A3 = some ad from e]; rfl
    have hys : lnC x = [.int .i64 (it.1 : Nat), .slice A3 n3 c3] := by rw [hx, ← hl3]; rfl
    have HX := hid (And.intro hcel (And.intro hxit (And.intro h1 (And.intro h2 h3))))
    have hgw := HG.out
    have hgx : g < X2.heap.size := (Array.getElem?_eq_some_iff.1 h1).1
    have hnob : ob ≠ some g := fun e => by have := h2.2.2.2 g e; omega
    have hrow := h2.1
    have HH := hid (And.intro hrow hnob)
    obtain ⟨p, hp⟩ : ∃ p, p = it.1 := ⟨_, rfl⟩
    rw [← hp] at hys ⊢
    have HYS := hid hys
    clear hit hie hxit hcel hys h1 h2 h3 hrow3 hob3 hTs hx hp hl3 hrow hnob hgw
    simp only [List.zip_toArray, List.zip_cons_cons, List.zip_nil_right, List.foldl_toArray, List.foldl_cons, List.foldl_nil, List.setIfInBounds_toArray, List.set_cons_zero, List.set_cons_succ]
    gi_wp2
    refine ⟨trivial, ?_⟩
    gi_wp2_with (gi_at_builtin; refine wpListIn_app1 slLine rfl (.tmp 16) (.tmp 20) rfl rfl HH.out.1 rfl (m := 1) (c := 1) (ys := [.int .i64 p, .slice A3 n3 c3]) rfl (by simp [Value.oneCell']) (by omega) (by omega) ?_; intro A2 c2 w3 ob2 hrow2 hfr2 hob2; have hg3 := (hfr2.block g hgx (fun e => HH.out.2 e.symm)).trans HX.out.2.2.1; have HF := hid (And.intro hrow2 (And.intro hfr2 (And.intro hob2 hg3))); clear hrow2 hfr2 hob2 q0 q1; obtain ⟨q0, q1⟩ := blk1lawWoven hg3; clear hg3)
    have hZ := Fr.set1 w3 g 0 (.slice A2 (k + 1) c2)
    have hpush := HX.out.2.2.2.1.push x HX.out.1 (by rw [HYS.out]; exact HF.out.1) HF.out.2.1 HF.out.2.2.1 (by omega)
    have hfw := HX.out.2.2.2.2.fresh HF.out.2.1 (fun j hj => by have := HX.out.2.2.2.1.2.2.2 j hj; have := HG.out; omega)
    have hgw := HG.out
    have hfT : Fr (fun b => (b = g ∨ ob = some b) ∨ blkOf #[.int .i64 p, .slice A3 n3 c3] b) X2 (w3.setCell ⟨g, 0, none⟩ (.slice A2 (k + 1) c2)) :=
      (HF.out.2.1.mono (S' := fun b => (b = g ∨ ob = some b) ∨ blkOf #[.int .i64 p, .slice A3 n3 c3] b) (fun b _ e => .inl (.inr e.symm))).trans hZ (fun b _ e => .inl (.inl e))
    refine ⟨fun b => b = g ∨ ob2 = some b, ⟨A2, c2, ob2, xs ++ [x], rfl, by rw [heap_set _ _ _ _ _ _ HF.out.2.2.2]; rfl, by rw [HX.out.2.1]; exact hpush.fr hZ (fun b hb (e : b = g) => by omega), hfw.trans hZ (fun j hj (e : j = g) => by omega)⟩, hfT, fun b hb => ?_⟩
    rcases hb with rfl | hb
    · exact ⟨Nat.lt_of_lt_of_le hgx hfT.size, .inl (.inl rfl)⟩
    · refine ⟨by have := hpush.1.lt hb; have := hZ.size; omega, ?_⟩
      rcases HF.out.2.2.1 with e | ⟨j, e, hj⟩
      · exact .inl (.inr (by rw [← e]; exact hb))
      · rw [e] at hb; injection hb with hb; exact .inr (by omega)
  case done =>
    rintro T X ⟨A, c, ob, xs, rfl, h1, h2, h3⟩ hD
    rw [List.take_length] at h2
    obtain ⟨q0, q1⟩ := blk1lawWoven h1
    have HX := hid (And.intro h2 h3)
    clear h1 h2 h3
    go_wp2_with fail
    refine ⟨by simp, .inl ⟨_, _, rfl, run_takeDeferred hD, ?_⟩⟩
    refine ⟨_, results_tmp rfl _ _ _, ?_⟩
    have hN := HX.out.1.fr (Fr.putObj w2.heap.size X (.deferred none)) (fun b hb (e : b = w2.heap.size) => by omega)
    have hgw := HG.out
    exact ⟨A, _, c, ob, xs, rfl, ⟨hN.1, hN.2.1.trans HITS.out, fun x hx => ⟨(hN.2.2.1 x hx).1, fun ad e => ⟨by have := ((hN.2.2.1 x hx).2 ad e).1; omega, ((hN.2.2.1 x hx).2 ad e).2⟩⟩, fun b hb => by have := hN.2.2.2 b hb; omega⟩, HX.out.2.trans (Fr.putObj _ _ _) (fun j hj (e : j = w2.heap.size) => by omega)⟩
end Go.Proofs.Ytkhglmmidgfliaa

/- The walk of HeadTints. -/
import Derived.Test.YtkhglmmidgfliaaTints3
import Derived.Test.YtkhglmmidgfliaaHLaw4
namespace Go.Proofs.Ytkhglmmidgfliaa
open Go.RowKit Go.WideShapes Go.Proofs.HK
set_option linter.unusedVariables false
set_option linter.unusedSimpArgs false
attribute [local go_sem] max2_int min2_int max_two min_two

/-- How a colour is read. -/
abbrev TintT := UInt8 × UInt8 × UInt8 × Unit
def tintD : Dec Try.prog 94 TintT :=
  Dec.struct Try.underlying94 (FDec.cons _ 1 (Dec.u8 Try.underlying5) rfl (by kernel_rfl) (FDec.cons _ 1 (Dec.u8 Try.underlying5) rfl (by kernel_rfl) (FDec.cons _ 1 (Dec.u8 Try.underlying5) rfl (by kernel_rfl) (FDec.nil _ _)))) (by kernel_rfl)
theorem tintD_cells {W : World} {x : TintT} {es : List Value} (h : tintD.K W x es) : es = [B x.1, B x.2.1, B x.2.2.1] := by
  obtain ⟨e1, e2, rfl, _, rfl, e3, e4, rfl, _, rfl, e5, e6, rfl, _, rfl, rfl⟩ := h
  rfl
/-- A table of colours that came in, as bytes. -/
def tbytes (xs : List TintT) : List UInt8 := xs.flatMap fun x => [x.1, x.2.1, x.2.2.1]
theorem tbytes_length (xs : List TintT) : (tbytes xs).length = 3 * xs.length := by
  induction xs with
  | nil => rfl
  | cons a xs ih => unfold tbytes at *; rw [List.flatMap_cons, List.length_append, ih, List.length_cons]; simp; omega
theorem tbytes_get (xs : List TintT) (i j : Nat) (hi : i < xs.length) (hj : j < 3) : (tbytes xs)[i * 3 + j]? = [xs[i].1, xs[i].2.1, xs[i].2.2.1][j]? := by
  induction xs generalizing i with
  | nil => simp at hi
  | cons a xs ih =>
    unfold tbytes at *
    rw [List.flatMap_cons]
    cases i with
    | zero =>
      rw [List.getElem?_append_left (by simp; omega)]
      simp
    | succ i =>
      rw [List.getElem?_append_right (by simp; omega)]
      have := ih i (by simpa using hi)
      rw [show (i + 1) * 3 + j - [a.1, a.2.1, a.2.2.1].length = i * 3 + j by simp; omega, this]
      simp
theorem tints_cells {W : World} {A : Option Addr} {xs : List TintT} {n c : Nat} (h : SlM tintD.K 3 3 W A xs n c) : Cells W A ((tbytes xs).map B) := fun h0 => by
  have hl : 0 < xs.length := by rw [List.length_map, tbytes_length] at h0; omega
  obtain ⟨ad, es, hA, _⟩ := h.at_ 0 hl
  refine ⟨ad, hA, fun j u hu => ?_⟩
  obtain ⟨hj, _⟩ := List.getElem?_eq_some_iff.1 hu
  rw [List.length_map, tbytes_length] at hj
  have hi : j / 3 < xs.length := by omega
  obtain ⟨ad', es', hA', he, hc, hk⟩ := h.at_ (j / 3) hi
  rw [hA] at hA'
  injection hA' with hA'
  subst hA'
  have hjj : j / 3 * 3 + j % 3 = j := by omega
  have h1 := hc (j % 3) (by omega)
  rw [hjj, tintD_cells hk] at h1
  rw [h1, ← hu, List.getElem?_map]
  conv => rhs; rw [← hjj]
  rw [tbytes_get xs (j / 3) (j % 3) hi (by omega)]
  have h3 : j % 3 = 0 ∨ j % 3 = 1 ∨ j % 3 = 2 := by omega
  rcases h3 with e | e | e <;> rw [e] <;> rfl

set_option maxRecDepth 100000 in
set_option maxHeartbeats 1600000 in
theorem headTints_w (W H C D : Int) (L : Bool) (A : Option Addr) (bs : List UInt8) (n c : Nat) (A' : Option Addr) (ts : List UInt8) (n' c' : Nat) (w : World) (hn : bs.length = n) (hr : Rd B w A bs) (hl : n ≤ 140737488351232) (hnc : n ≤ c)
    (hn' : ts.length = 3 * n') (hr' : Cells w A' (ts.map B)) (hl' : n' ≤ 46912496117077) :
    Calls Try.prog 11 #[headV W H C D L, .slice A n c, .slice A' n' c'] w fun e w' => e = .returned (.bool true) ∧ Fr No w w' := by
  have HR := hid (And.intro hn (And.intro hr (And.intro hl (And.intro hnc (And.intro hn' (And.intro hr' hl'))))))
  clear hn hr hl hnc hn' hr' hl'
  unfold headV
  go_enter Try.func11, Try.ntmps11
  go_wp2_with fail
  refine (fixed12_calls _).mono ?_
  rintro e w1 ⟨rfl, hf⟩
  have hg : w.heap.size < w1.heap.size := by have := hf.size; rw [World.size_alloc] at this; omega
  obtain ⟨g, hgg⟩ : ∃ g, g = w.heap.size := ⟨_, rfl⟩
  have hb : w1.heap[g]? = some (.cells #[.int .i64 W, .int .i64 H, .int .i64 C, .int .i64 D, .bool L] 33 (0, 0)) := by
    rw [hgg]; exact (hf.block w.heap.size (by rw [World.size_alloc]; omega) (fun h => h)).trans (heap_new _ _)
  obtain ⟨c0, c1, c2, c3, c4, _⟩ := blk5 hb
  rw [← hgg] at hg ⊢
  have H1 := hid (And.intro (((Fr.refl No w).alloc _).then hf) hb)
  clear hf hb hgg
  go_wp2_with fail
  refine (readTints_calls W H C D L A bs n c HR.out.1 HR.out.2.2.2.1 _ (HR.out.2.1.fr0 H1.out.1) HR.out.2.2.1).mono ?_
  rintro e w2 ⟨v1, rfl, hnew1⟩
  have hb2 := (hnew1.2.block g hg (fun h => h)).trans H1.out.2
  obtain ⟨d0, d1, d2, d3, d4, _⟩ := blk5 hb2
  have H2 := hid (H1.out.1.then hnew1.2)
  obtain ⟨A1, n1, c1', rfl, N1⟩ := hnew1.use
  clear hnew1 hb2 c0 c1 c2 c3 c4 H1 hg
  go_wp2_with fail
  refine (refReadTints_calls W H C D L A bs n c HR.out.1 _ (HR.out.2.1.fr0 H2.out) HR.out.2.2.1).mono ?_
  rintro e w3 ⟨v3, rfl, hnew3⟩
  have H3 := hid (H2.out.then hnew3.2)
  obtain ⟨A3, n3, c3', rfl, N3⟩ := hnew3.use
  clear hnew3 d0 d1 d2 d3 d4
  obtain ⟨rE, hrE⟩ : ∃ rE, rE = rtE W H C D bs := ⟨_, rfl⟩
  rw [← hrE]
  clear hrE
  have hlen : (rtB W H C D bs).length ≤ bs.length := by unfold rtB; split <;> simp
  obtain rfl : n3 = n1 := by have h1 := N1.out.1; have h3 := N3.out.1; omega
  have hn1 : n3 ≤ 46912496117077 := by have h1 := N1.out.1; rw [h1, HR.out.1] at hlen; have := HR.out.2.2.1; omega
  clear hlen
  go_wp2_with fail
  refine (sameTints_calls A1 A3 _ n3 c1' c3' N1.out.1 _ (N1.out.2.1.fr N3.out.2.2 (fun _ _ h => h)) N3.out.2.1 hn1).mono ?_
  rintro e w4 ⟨rfl, q, rfl⟩
  have HA := hid (HR.out.2.2.2.2.2.1.fr (H3.out.drewN q) (fun _ _ h => h))
  go_wp2_with fail
  refine (writeTints_calls A' ts n' c' HR.out.2.2.2.2.1 _ HA.out HR.out.2.2.2.2.2.2).mono ?_
  rintro e w5 ⟨v5, rfl, hnew5⟩
  obtain ⟨A5, n5, c5, rfl, N5⟩ := hnew5.use
  clear hnew5
  go_wp2_with fail
  refine (refWriteTints_calls A' ts n' c' HR.out.2.2.2.2.1 _ (HA.out.fr N5.out.2.2.2.1 (fun _ _ h => h)) HR.out.2.2.2.2.2.2).mono ?_
  rintro e w6 ⟨v6, rfl, hnew6⟩
  obtain ⟨A6, n6, c6, rfl, N6⟩ := hnew6.use
  clear hnew6
  go_wp2_with fail
  refine (same_calls _ _ _ _ _ _ _ _ N5.out.1 N6.out.1 _ (N5.out.2.1.fr0 N6.out.2.2.2.1) N6.out.2.1).mono ?_
  rw [decide_eq_true (rfl : ts = ts)]
  rintro e w7 ⟨rfl, rfl⟩
  go_wp2_with fail
  go_ret
  exact ⟨rfl, ((H3.out.drewN q).then N5.out.2.2.2.1).then N6.out.2.2.2.1⟩
set_option maxRecDepth 100000 in
theorem headTints_walk (v : Value) (x : HeadT) (A : Option Addr) (xs : List UInt8) (n c : Nat) (A' : Option Addr) (ys : List TintT) (n' c' : Nat) (w : World) {base : Nat} (hok : Value.okWide Try.prog w .any base 33 v) (hx : headD.K w x v.cells.toList)
    (h1 : SlIn B 1 w A xs n c) (h2 : SlM tintD.K 3 3 w A' ys n' c') :
    Calls Try.prog 11 #[v, .slice A n c, .slice A' n' c'] w fun e w' => e = .returned (.bool true) ∧ Fr No w w' := by
  rw [headD_val hok hx]
  have := h1.reach
  have := h2.reach
  exact headTints_w _ _ _ _ _ _ _ _ _ _ (tbytes ys) _ _ w h1.len h1.rd (by omega) h1.cap (by rw [tbytes_length, h2.len]) (tints_cells h2) (by omega)
end Go.Proofs.Ytkhglmmidgfliaa

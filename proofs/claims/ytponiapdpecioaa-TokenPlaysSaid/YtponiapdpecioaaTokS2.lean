/- The contracts of the document's store. -/
import Derived.Test.YtponiapdpecioaaTokS
namespace Go.Proofs.Ytponiapdpecioaa
open Go.RowKit Go.Proofs.HK
set_option linter.unusedVariables false
set_option linter.unusedSimpArgs false

/-- The document's store at g. -/
structure Sr (T : Nat → Prop) (w : World) (g : Nat) (way : List UInt8) (busy : Bool) (kept : List UInt8) : Prop where
  blk : ∃ A n c A' n' c', w.heap[g]? = some (.cells #[.slice A' n' c', .slice A n c, .bool busy] 45 (0, 0)) ∧ Hs T w A n way ∧ Hs T w A' n' kept
  lt : ∀ k, T k → k < w.heap.size
  ne : ¬ T g
theorem Sr.fr {T S : Nat → Prop} {w w' : World} {g : Nat} {a b : List UInt8} {y : Bool} (h : Sr T w g a y b) (hf : Fr S w w') (hs : ∀ k, T k → ¬ S k) (hg : ¬ S g) : Sr T w' g a y b := by
  obtain ⟨A, n, c, A', n', c', h0, h1, h2⟩ := h.blk
  exact ⟨⟨A, n, c, A', n', c', (hf.block g (Array.getElem?_eq_some_iff.1 h0).1 hg).trans h0, h1.fr hf hs, h2.fr hf hs⟩, fun k hk => Nat.lt_of_lt_of_le (h.lt k hk) hf.size, h.ne⟩
theorem Sr.glt {T : Nat → Prop} {w : World} {g : Nat} {a b : List UInt8} {y : Bool} (h : Sr T w g a y b) : g < w.heap.size := by
  obtain ⟨A, n, c, A', n', c', h0, _⟩ := h.blk
  exact (Array.getElem?_eq_some_iff.1 h0).1
theorem rput_busy {T : Nat → Prop} (g : Nat) (a k : List UInt8) (A : Option Addr) (n c : Nat) (w : World) (h : Sr T w g a true k) : Calls Try.prog 20 #[.pointer (some ⟨g, 0, none⟩), .slice A n c] w fun e w' => e = .returned (.int .i64 17) ∧ w' = w := by
  obtain ⟨A1, n1, c1, A2, n2, c2, h0, _⟩ := h.blk
  obtain ⟨⟨d0, d1, d2⟩, f0, f1, f2⟩ := blk3s h0
  clear h
  go_enter Try.func20, Try.ntmps20
  go_wp2
  go_ret
  exact ⟨rfl, rfl⟩
theorem Sr.put1 {T : Nat → Prop} {w w1 : World} {g : Nat} {a k xs : List UInt8} (h : Sr T w g a false k) {A : Option Addr} {n c : Nat} (hn : New B w w1 (.slice A n c) xs) (hb : n ≤ 140737488355328) :
    Sr (fun q => T q ∨ (w.heap.size ≤ q ∧ q < w1.heap.size)) ((w1.setCell ⟨g, 1, none⟩ (.slice A n c)).setCell ⟨g, 2, none⟩ (.bool true)) g xs true k ∧ Fr (HK.One g) w ((w1.setCell ⟨g, 1, none⟩ (.slice A n c)).setCell ⟨g, 2, none⟩ (.bool true)) := by
  obtain ⟨A1, n1, c1, A2, n2, c2, h0, h1, h2⟩ := h.blk
  obtain ⟨A', n', c', ob, e, hl, hrow, hob, hf⟩ := hn.open
  injection e with e1 e2 e3
  subst e1; subst e2; subst e3
  have hg := h.glt
  have hb1 := (hf.block g hg (fun h => h)).trans h0
  have hF : Fr (HK.One g) w1 ((w1.setCell ⟨g, 1, none⟩ (.slice A n c)).setCell ⟨g, 2, none⟩ (.bool true)) := ((Fr.refl (HK.One g) w1).setCell (p := ⟨g, 1, none⟩) (fun _ => rfl) _).setCell (p := ⟨g, 2, none⟩) (fun _ => rfl) _
  have hgo : ∀ q, ob = some q → q ≠ g := fun q hq e => by have := hob q hq; omega
  have hr2 := hrow.fr hF (fun q hq e => hgo q hq e)
  obtain ⟨r1, _, r3, _⟩ := hr2.rd
  refine ⟨⟨⟨A, n, c, A2, n2, c2, ?_, ⟨hl, r1, fun ad e => .inr ?_, hb⟩, ((h2.fr hf (fun _ _ h => h)).fr hF (fun q hq e => h.ne (by have e : q = g := e; rwa [e] at hq))).mono (fun _ h => .inl h)⟩, ?_, ?_⟩, hf.any.then hF⟩
  · rw [heap_set _ g 2 _ _ _ (heap_set _ g 1 _ _ _ hb1)]; rfl
  · have h4 := r3 ad e
    exact ⟨hob _ h4, hrow.lt h4⟩
  · intro q hq
    have h3 := hf.size
    have h4 := hF.size
    rcases hq with hq | hq
    · have := h.lt q hq; omega
    · omega
  · rintro (hq | hq)
    · exact h.ne hq
    · omega
theorem rput_calls {T : Nat → Prop} (g : Nat) (a k xs : List UInt8) (A : Option Addr) (n c : Nat) (w : World) (h : Sr T w g a false k) (hn : xs.length = n) (hx : Rd B w A xs) (hb : n ≤ 140737488355328) :
    Calls Try.prog 20 #[.pointer (some ⟨g, 0, none⟩), .slice A n c] w fun e w' => e = .returned (.int .i64 0) ∧ (∃ T', Sr T' w' g xs true k ∧ ∀ q, T' q → T q ∨ w.heap.size ≤ q) ∧ Fr (HK.One g) w w' := by
  have HS := hid (And.intro h (And.intro hn hx))
  obtain ⟨A1, n1, c1, A2, n2, c2, h0, _⟩ := h.blk
  obtain ⟨⟨d0, d1, d2⟩, f0, f1, f2⟩ := blk3s h0
  have H0 := hid h0
  clear h h0 hn hx
  go_enter Try.func20, Try.ntmps20
  go_wp2_with (at_builtin; refine wpList_app slU8 rfl (.tmp 10) (.tmp 11) rfl rfl (Row.new w 1 0 [] _ rfl (by omega)) rfl (by rw [List.length_map, HS.out.2.1]; omega) ((Rd.cells.1 HS.out.2.2).fr (S := No) ((Fr.refl _ _).alloc _) (fun _ _ h => h)) (oneB xs) (by omega) (by omega) ?_; intro A3 c3 w1 ob1 hv1 hf1 hob1; simp only [Nat.zero_add, List.nil_append] at hv1 ⊢; have hF1 : Fr No w w1 := ((Fr.refl No w).alloc _).fresh hf1 (fun k e => by injection e with e; omega); obtain ⟨⟨e0, e1, e2⟩, g0, g1, g2⟩ := blk3s ((hF1.block g (Array.getElem?_eq_some_iff.1 H0.out).1 (fun h => h)).trans H0.out); have hk := some_le (m := w.heap.size) (hob1.imp id (fun ⟨k, a, b⟩ => ⟨k, a, by simp at b; omega⟩)) (Nat.le_refl _); have HN := hid (New.mk' (f := B) (v := .slice A3 n c3) rfl HS.out.2.1 hv1 hk hF1); clear hv1 hf1 hob1 hF1 hk d0 d1 d2 f0 f1 f2)
  go_ret
  have hP := HS.out.1.put1 HN.out (by omega)
  exact ⟨rfl, ⟨_, hP.1, fun q hq => hq.imp (fun h => h) (fun h => h.1)⟩, hP.2⟩
theorem rcrash_calls {T : Nat → Prop} (g : Nat) (a k : List UInt8) (y keep : Bool) (w : World) (h : Sr T w g a y k) : Calls Try.prog 22 #[.pointer (some ⟨g, 0, none⟩), .bool keep] w fun e w' => e = .returned (.tuple #[]) ∧ Sr T w' g a false (crK a k y keep) ∧ Fr (HK.One g) w w' := by
  have HS := hid h
  obtain ⟨A1, n1, c1, A2, n2, c2, h0, h1, h2⟩ := h.blk
  obtain ⟨⟨d0, d1, d2⟩, f0, f1, f2⟩ := blk3s h0
  have H0 := hid (And.intro h0 (And.intro h1 h2))
  clear h h0 h1 h2
  have fin : ∀ (W : World) (A : Option Addr) (n c : Nat) (xs : List UInt8) (v2 : Value), W.heap[g]? = some (.cells #[.slice A n c, .slice A1 n1 c1, v2] 45 (0, 0)) → Fr (HK.One g) w W → Hs T w A n xs →
      Sr T (W.setCell ⟨g, 2, none⟩ (.bool false)) g a false xs ∧ Fr (HK.One g) w (W.setCell ⟨g, 2, none⟩ (.bool false)) := fun W A n c xs v2 hb hf hx => by
    have hF : Fr (HK.One g) w (W.setCell ⟨g, 2, none⟩ (.bool false)) := hf.setCell (p := ⟨g, 2, none⟩) (fun _ => rfl) _
    have hT : ∀ q, T q → ¬ HK.One g q := fun q hq e => HS.out.ne (by have e : q = g := e; rwa [e] at hq)
    refine ⟨⟨⟨A1, n1, c1, A, n, c, ?_, H0.out.2.1.fr hF hT, hx.fr hF hT⟩, fun q hq => Nat.lt_of_lt_of_le (HS.out.lt q hq) hF.size, HS.out.ne⟩, hF⟩
    rw [heap_set _ g 2 _ _ _ hb]; rfl
  have HF := hid fin
  clear fin
  cases y with
  | true =>
    cases keep with
    | true =>
      go_enter Try.func22, Try.ntmps22
      go_wp2
      first | go_end0 | refine bodyPost_ret (results_none rfl _ _ _) rfl ?_
      obtain ⟨q1, q2⟩ := HF.out (w.setCell ⟨g, 0, none⟩ (.slice A1 n1 c1)) A1 n1 c1 a _ (by rw [heap_set _ g 0 _ _ _ H0.out.1]; rfl) (Fr.set1 _ _ _ _) H0.out.2.1
      exact ⟨rfl, q1, q2⟩
    | false =>
      go_enter Try.func22, Try.ntmps22
      go_wp2
      first | go_end0 | refine bodyPost_ret (results_none rfl _ _ _) rfl ?_
      obtain ⟨q1, q2⟩ := HF.out w A2 n2 c2 k _ H0.out.1 (Fr.refl _ _) H0.out.2.2
      exact ⟨rfl, q1, q2⟩
  | false =>
    go_enter Try.func22, Try.ntmps22
    go_wp2
    first | go_end0 | refine bodyPost_ret (results_none rfl _ _ _) rfl ?_
    obtain ⟨q1, q2⟩ := HF.out w A2 n2 c2 k _ H0.out.1 (Fr.refl _ _) H0.out.2.2
    exact ⟨rfl, q1, q2⟩
end Go.Proofs.Ytponiapdpecioaa

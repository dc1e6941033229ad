/- The contracts of a store. -/
import Derived.Test.YtponiapdpecioaaTokW2
namespace Go.Proofs.Ytponiapdpecioaa
open Go.RowKit Go.Proofs.HK
set_option linter.unusedVariables false
set_option linter.unusedSimpArgs false

theorem blk3s {W : World} {g : Nat} {v0 v1 v2 : Value} {t : TypeId} (hb : W.heap[g]? = some (.cells #[v0, v1, v2] t (0, 0))) :
    (W.cell? ⟨g, 0, none⟩ = some v0 ∧ W.cell? ⟨g, 1, none⟩ = some v1 ∧ W.cell? ⟨g, 2, none⟩ = some v2) ∧ W.frozen? ⟨g, 0, none⟩ = false ∧ W.frozen? ⟨g, 1, none⟩ = false ∧ W.frozen? ⟨g, 2, none⟩ = false := by
  simp [World.cell?, World.frozen?, hb]
/-- A slice that a store holds. -/
structure Hs (T : Nat → Prop) (w : World) (A : Option Addr) (n : Nat) (xs : List UInt8) : Prop where
  len : xs.length = n
  rd : Rd B w A xs
  blk : ∀ ad, A = some ad → T ad.block
  big : n ≤ 140737488355328
theorem Hs.fr {T S : Nat → Prop} {w w' : World} {A : Option Addr} {n : Nat} {xs : List UInt8} (h : Hs T w A n xs) (hf : Fr S w w') (hs : ∀ k, T k → ¬ S k) : Hs T w' A n xs :=
  ⟨h.len, h.rd.fr hf (fun ad e => hs _ (h.blk ad e)), h.blk, h.big⟩
theorem Hs.mono {T T' : Nat → Prop} {w : World} {A : Option Addr} {n : Nat} {xs : List UInt8} (h : Hs T w A n xs) (ht : ∀ k, T k → T' k) : Hs T' w A n xs := ⟨h.len, h.rd, fun ad e => ht _ (h.blk ad e), h.big⟩
theorem Hs.nil (T : Nat → Prop) (w : World) : Hs T w none 0 [] := ⟨rfl, Rd.nil, fun _ h => (by cases h), by omega⟩
/-- A store at g: what is under way, whether it is, what is kept; T are the blocks of what it holds. -/
structure St (T : Nat → Prop) (w : World) (g : Nat) (way : List UInt8) (busy : Bool) (kept : List UInt8) : Prop where
  blk : ∃ A n c A' n' c', w.heap[g]? = some (.cells #[.slice A n c, .bool busy, .slice A' n' c'] 74 (0, 0)) ∧ Hs T w A n way ∧ Hs T w A' n' kept
  lt : ∀ k, T k → k < w.heap.size
  ne : ¬ T g
theorem St.fr {T S : Nat → Prop} {w w' : World} {g : Nat} {a b : List UInt8} {y : Bool} (h : St T w g a y b) (hf : Fr S w w') (hs : ∀ k, T k → ¬ S k) (hg : ¬ S g) : St T w' g a y b := by
  obtain ⟨A, n, c, A', n', c', h0, h1, h2⟩ := h.blk
  exact ⟨⟨A, n, c, A', n', c', (hf.block g (Array.getElem?_eq_some_iff.1 h0).1 hg).trans h0, h1.fr hf hs, h2.fr hf hs⟩, fun k hk => Nat.lt_of_lt_of_le (h.lt k hk) hf.size, h.ne⟩
theorem St.glt {T : Nat → Prop} {w : World} {g : Nat} {a b : List UInt8} {y : Bool} (h : St T w g a y b) : g < w.heap.size := by
  obtain ⟨A, n, c, A', n', c', h0, _⟩ := h.blk
  exact (Array.getElem?_eq_some_iff.1 h0).1

theorem snew_calls (w : World) : Calls Try.prog 18 #[] w fun e w' => e = .returned (.pointer (some ⟨w.heap.size, 0, none⟩)) ∧ St No w' w.heap.size [] false [] ∧ Fr No w w' := by
  go_enter Try.func18, Try.ntmps18
  go_wp2
  go_ret
  exact ⟨rfl, ⟨⟨none, 0, 0, none, 0, 0, heap_new _ _, Hs.nil _ _, Hs.nil _ _⟩, fun _ h => h.elim, fun h => h⟩, (Fr.refl No w).alloc _⟩
theorem sput_nil (A : Option Addr) (n c : Nat) (w : World) : Calls Try.prog 19 #[.pointer none, .slice A n c] w fun e w' => e = .returned (.int .i64 1) ∧ w' = w := by
  go_enter Try.func19, Try.ntmps19
  go_wp2
  go_ret
  exact ⟨rfl, rfl⟩
theorem scrash_nil (y : Bool) (w : World) : Calls Try.prog 23 #[.pointer none, .bool y] w fun e w' => e = .returned (.tuple #[]) ∧ w' = w := by
  go_enter Try.func23, Try.ntmps23
  go_wp2
  first | go_end0 | refine bodyPost_ret (results_none rfl _ _ _) rfl ?_
  exact ⟨rfl, rfl⟩
theorem ssettle_nil (w : World) : Calls Try.prog 21 #[.pointer none] w fun e w' => e = .returned (.tuple #[]) ∧ w' = w := by
  go_enter Try.func21, Try.ntmps21
  go_wp2_with fail
  refine (scrash_nil _ _).mono ?_
  rintro e w1 ⟨rfl, rfl⟩
  go_wp2_with fail
  first | go_end0 | refine bodyPost_ret (results_none rfl _ _ _) rfl ?_
  exact ⟨rfl, rfl⟩
theorem sget_nil (w : World) : Calls Try.prog 24 #[.pointer none] w fun e w' => e = .returned (.slice none 0 0) ∧ w' = w := by
  go_enter Try.func24, Try.ntmps24
  go_wp2
  go_ret
  exact ⟨rfl, rfl⟩
theorem sbusy_nil (w : World) : Calls Try.prog 25 #[.pointer none] w fun e w' => e = .returned (.bool false) ∧ w' = w := by
  go_enter Try.func25, Try.ntmps25
  go_wp2
  go_ret
  exact ⟨rfl, rfl⟩

theorem sput_busy {T : Nat → Prop} (g : Nat) (a k : List UInt8) (A : Option Addr) (n c : Nat) (w : World) (h : St T w g a true k) : Calls Try.prog 19 #[.pointer (some ⟨g, 0, none⟩), .slice A n c] w fun e w' => e = .returned (.int .i64 17) ∧ w' = w := by
  obtain ⟨A1, n1, c1, A2, n2, c2, h0, _⟩ := h.blk
  obtain ⟨⟨d0, d1, d2⟩, f0, f1, f2⟩ := blk3s h0
  clear h
  go_enter Try.func19, Try.ntmps19
  go_wp2
  go_ret
  exact ⟨rfl, rfl⟩
theorem St.put1 {T : Nat → Prop} {w w1 : World} {g : Nat} {a k xs : List UInt8} (h : St T w g a false k) {A : Option Addr} {n c : Nat} (hn : New B w w1 (.slice A n c) xs) (hb : n ≤ 140737488355328) :
    St (fun q => T q ∨ (w.heap.size ≤ q ∧ q < w1.heap.size)) ((w1.setCell ⟨g, 0, none⟩ (.slice A n c)).setCell ⟨g, 1, none⟩ (.bool true)) g xs true k ∧ Fr (HK.One g) w ((w1.setCell ⟨g, 0, none⟩ (.slice A n c)).setCell ⟨g, 1, none⟩ (.bool true)) := by
  obtain ⟨A1, n1, c1, A2, n2, c2, h0, h1, h2⟩ := h.blk
  obtain ⟨A', n', c', ob, e, hl, hrow, hob, hf⟩ := hn.open
  injection e with e1 e2 e3
  subst e1; subst e2; subst e3
  have hg := h.glt
  have hb1 := (hf.block g hg (fun h => h)).trans h0
  have hF : Fr (HK.One g) w1 ((w1.setCell ⟨g, 0, none⟩ (.slice A n c)).setCell ⟨g, 1, none⟩ (.bool true)) := ((Fr.refl (HK.One g) w1).setCell (p := ⟨g, 0, none⟩) (fun _ => rfl) _).setCell (p := ⟨g, 1, none⟩) (fun _ => rfl) _
  have hgo : ∀ q, ob = some q → q ≠ g := fun q hq e => by have := hob q hq; omega
  have hr2 := hrow.fr hF (fun q hq e => hgo q hq e)
  obtain ⟨r1, _, r3, _⟩ := hr2.rd
  refine ⟨⟨⟨A, n, c, A2, n2, c2, ?_, ⟨hl, r1, fun ad e => .inr ?_, hb⟩, ((h2.fr hf (fun _ _ h => h)).fr hF (fun q hq e => h.ne (by have e : q = g := e; rwa [e] at hq))).mono (fun _ h => .inl h)⟩, ?_, ?_⟩, hf.any.then hF⟩
  · rw [heap_set _ g 1 _ _ _ (heap_set _ g 0 _ _ _ hb1)]; rfl
  · have h4 := r3 ad e
    exact ⟨hob _ h4, hrow.lt h4⟩
  · intro q hq
    have h3 := hf.size
    have h4 := hF.size
    rcases hq with hq | hq
    · have := h.lt q hq; omega
    · omega
  · rintro (hq | hq)
    · exact h.ne hq
    · omega
theorem sput_calls {T : Nat → Prop} (g : Nat) (a k xs : List UInt8) (A : Option Addr) (n c : Nat) (w : World) (h : St T w g a false k) (hn : xs.length = n) (hx : Rd B w A xs) (hb : n ≤ 140737488355328) :
    Calls Try.prog 19 #[.pointer (some ⟨g, 0, none⟩), .slice A n c] w fun e w' => e = .returned (.int .i64 0) ∧ (∃ T', St T' w' g xs true k ∧ ∀ q, T' q → T q ∨ w.heap.size ≤ q) ∧ Fr (HK.One g) w w' := by
  have HS := hid (And.intro h (And.intro hn hx))
  obtain ⟨A1, n1, c1, A2, n2, c2, h0, _⟩ := h.blk
  obtain ⟨⟨d0, d1, d2⟩, _⟩ := blk3s h0
  have H0 := hid h0
  clear h h0 hn hx
  go_enter Try.func19, Try.ntmps19
  go_wp2_with fail
  refine (clone_calls A xs n c _ HS.out.2.1 HS.out.2.2 hb).mono ?_
  rintro e w1 ⟨v1, rfl, hnew⟩
  obtain ⟨A3, n3, c3, ob3, rfl, hn3, -, -, hf3⟩ := hnew.open
  obtain ⟨⟨e0, e1, e2⟩, f0, f1, f2⟩ := blk3s ((hf3.block g (Array.getElem?_eq_some_iff.1 H0.out).1 (fun h => h)).trans H0.out)
  have HN := hid (HS.out.1.put1 hnew (by have := HS.out.2.1; omega))
  clear hn3 hf3 hnew d0 d1 d2
  go_wp2_with fail
  go_ret
  exact ⟨rfl, ⟨_, HN.out.1, fun q hq => hq.imp (fun h => h) (fun h => h.1)⟩, HN.out.2⟩
theorem sbusy_calls {T : Nat → Prop} (g : Nat) (a k : List UInt8) (y : Bool) (w : World) (h : St T w g a y k) : Calls Try.prog 25 #[.pointer (some ⟨g, 0, none⟩)] w fun e w' => e = .returned (.bool y) ∧ w' = w := by
  obtain ⟨A1, n1, c1, A2, n2, c2, h0, _⟩ := h.blk
  obtain ⟨⟨d0, d1, d2⟩, _⟩ := blk3s h0
  have hw : ∀ W, W = w → Calls Try.prog 45 #[.pointer (some ⟨g, 0, none⟩)] W fun e w' => e = .returned (.bool y) ∧ w' = W := fun W hW => by
    subst hW
    clear h h0
    go_enter Try.func45, Try.ntmps45
    go_wp2
    go_ret
    exact ⟨by simp, rfl⟩
  have HW := hid hw
  clear h h0 hw
  go_enter Try.func25, Try.ntmps25
  go_wp2_with fail
  refine (HW.out _ rfl).mono ?_
  rintro e w1 ⟨rfl, rfl⟩
  go_wp2_with fail
  go_ret
  exact ⟨by simp, rfl⟩
theorem sget_calls {T : Nat → Prop} (g : Nat) (a k : List UInt8) (y : Bool) (w : World) (h : St T w g a y k) : Calls Try.prog 24 #[.pointer (some ⟨g, 0, none⟩)] w fun e w' => ∃ v, e = .returned v ∧ New B w w' v k := by
  obtain ⟨A1, n1, c1, A2, n2, c2, h0, _, h2⟩ := h.blk
  obtain ⟨⟨d0, d1, d2⟩, _⟩ := blk3s h0
  have H2 := hid h2
  clear h h0 h2
  go_enter Try.func24, Try.ntmps24
  go_wp2_with fail
  refine (clone_calls A2 k n2 c2 _ H2.out.len H2.out.rd H2.out.big).mono ?_
  rintro e w1 ⟨v, rfl, hnew⟩
  have HN := hid hnew
  clear hnew
  go_wp2_with fail
  go_ret
  exact ⟨_, rfl, HN.out⟩
def crK (a k : List UInt8) (y keep : Bool) : List UInt8 := if y && keep then a else k
theorem scrash_calls {T : Nat → Prop} (g : Nat) (a k : List UInt8) (y keep : Bool) (w : World) (h : St T w g a y k) : Calls Try.prog 23 #[.pointer (some ⟨g, 0, none⟩), .bool keep] w fun e w' => e = .returned (.tuple #[]) ∧ St T w' g [] false (crK a k y keep) ∧ Fr (HK.One g) w w' := by
  have HS := hid h
  obtain ⟨A1, n1, c1, A2, n2, c2, h0, h1, h2⟩ := h.blk
  obtain ⟨⟨d0, d1, d2⟩, f0, f1, f2⟩ := blk3s h0
  have H0 := hid (And.intro h0 (And.intro h1 h2))
  clear h h0 h1 h2
  have fin : ∀ (W : World) (A : Option Addr) (n c : Nat) (xs : List UInt8) (v0 v1 : Value), W.heap[g]? = some (.cells #[v0, v1, .slice A n c] 74 (0, 0)) → Fr (HK.One g) w W → Hs T w A n xs →
      St T ((W.setCell ⟨g, 0, none⟩ (.slice none 0 0)).setCell ⟨g, 1, none⟩ (.bool false)) g [] false xs ∧ Fr (HK.One g) w ((W.setCell ⟨g, 0, none⟩ (.slice none 0 0)).setCell ⟨g, 1, none⟩ (.bool false)) := fun W A n c xs v0 v1 hb hf hx => by
    have hF : Fr (HK.One g) w ((W.setCell ⟨g, 0, none⟩ (.slice none 0 0)).setCell ⟨g, 1, none⟩ (.bool false)) := (hf.setCell (p := ⟨g, 0, none⟩) (fun _ => rfl) _).setCell (p := ⟨g, 1, none⟩) (fun _ => rfl) _
    refine ⟨⟨⟨none, 0, 0, A, n, c, ?_, Hs.nil _ _, hx.fr hF (fun q hq e => HS.out.ne (by have e : q = g := e; rwa [e] at hq))⟩, fun q hq => Nat.lt_of_lt_of_le (HS.out.lt q hq) hF.size, HS.out.ne⟩, hF⟩
    rw [heap_set _ g 1 _ _ _ (heap_set _ g 0 _ _ _ hb)]; rfl
  have HF := hid fin
  clear fin
  cases y with
  | true =>
    cases keep with
    | true =>
      go_enter Try.func23, Try.ntmps23
      go_wp2
      first | go_end0 | refine bodyPost_ret (results_none rfl _ _ _) rfl ?_
      obtain ⟨q1, q2⟩ := HF.out (w.setCell ⟨g, 2, none⟩ (.slice A1 n1 c1)) A1 n1 c1 a _ _ (by rw [heap_set _ g 2 _ _ _ H0.out.1]; rfl) (Fr.set1 _ _ _ _) H0.out.2.1
      exact ⟨rfl, q1, q2⟩
    | false =>
      go_enter Try.func23, Try.ntmps23
      go_wp2
      first | go_end0 | refine bodyPost_ret (results_none rfl _ _ _) rfl ?_
      obtain ⟨q1, q2⟩ := HF.out w A2 n2 c2 k _ _ H0.out.1 (Fr.refl _ _) H0.out.2.2
      exact ⟨rfl, q1, q2⟩
  | false =>
    go_enter Try.func23, Try.ntmps23
    go_wp2
    first | go_end0 | refine bodyPost_ret (results_none rfl _ _ _) rfl ?_
    obtain ⟨q1, q2⟩ := HF.out w A2 n2 c2 k _ _ H0.out.1 (Fr.refl _ _) H0.out.2.2
    exact ⟨rfl, q1, q2⟩
theorem ssettle_calls {T : Nat → Prop} (g : Nat) (a k : List UInt8) (y : Bool) (w : World) (h : St T w g a y k) : Calls Try.prog 21 #[.pointer (some ⟨g, 0, none⟩)] w fun e w' => e = .returned (.tuple #[]) ∧ St T w' g [] false (crK a k y true) ∧ Fr (HK.One g) w w' := by
  have HS := hid h
  clear h
  go_enter Try.func21, Try.ntmps21
  go_wp2_with fail
  refine (scrash_calls g a k y true _ HS.out).mono ?_
  rintro e w1 ⟨rfl, h1, h2⟩
  have HH := hid (And.intro h1 h2)
  clear h1 h2
  go_wp2_with fail
  first | go_end0 | refine bodyPost_ret (results_none rfl _ _ _) rfl ?_
  exact ⟨rfl, HH.out.1, HH.out.2⟩
end Go.Proofs.Ytponiapdpecioaa

/- How a message's parts are written: the contracts of the five writers. -/
import Derived.Test.YtamkfjbdcjkchaaSegP
import Derived.Test.YtamkfjbdcjkchaaSegM
import Derived.Test.YtamkfjbdcjkchaaCat
import Derived.Test.YtamkfjbdcjkchaaTokW
namespace Go.Proofs.Ytamkfjbdcjkchaa
open Go.RowKit Go.Proofs.HK
set_option linter.unusedVariables false
set_option linter.unusedSimpArgs false
attribute [local go_sem] max2_int min2_int max_two min_two

theorem cut8_1 : cut8 1 = 1 := by decide
theorem cut8_2 : cut8 2 = 2 := by decide
theorem sbig2_calls (n v : Int) (N : Nat) (hN : cut8 n = N) (w : World) (hv : -9223372036854775808 ≤ v ∧ v ≤ 9223372036854775807) :
    Calls Try.prog 19 #[.int .i64 n, .int .i64 v] w fun e w' => ∃ A c, e = .returned (.slice A N c) ∧ Hid ((putBE N v).length = N ∧ Rd B w' A (putBE N v) ∧ N ≤ c ∧ Fr No w w') ∧ Hid (∀ ad, A = some ad → w.heap.size ≤ ad.block) := by
  subst hN
  go_enter Try.func19, Try.ntmps19
  go_wp2_with fail
  refine (putBig_calls n v _ hv).mono ?_
  rintro e w1 ⟨v1, rfl, h1⟩
  obtain ⟨A, m, c, rfl, N1⟩ := h1.use
  obtain rfl : m = cut8 n := by rw [← N1.out.1, putBE_length]
  clear h1
  go_wp2_with fail
  go_ret
  exact ⟨_, _, rfl, ⟨N1.out.1, N1.out.2.1, N1.out.2.2.1, N1.out.2.2.2.1⟩, farOf N1.out.2.2.2.2⟩
theorem sbig_calls (n v : Int) (N : Nat) (hN : cut8 n = N) (w : World) (hv : -9223372036854775808 ≤ v ∧ v ≤ 9223372036854775807) :
    Calls Try.prog 19 #[.int .i64 n, .int .i64 v] w fun e w' => ∃ A c, e = .returned (.slice A N c) ∧ Hid ((putBE N v).length = N ∧ Rd B w' A (putBE N v) ∧ N ≤ c ∧ Fr No w w') :=
  (sbig2_calls n v N hN w hv).mono (by rintro e w' ⟨A, c, h1, h2, _⟩; exact ⟨A, c, h1, h2⟩)
/-- Slices of bytes, one by one. -/
def EachS (W : World) : List Value → List (List UInt8) → Prop
  | [], [] => True
  | v :: vs, x :: xss => (∃ A n c, v = .slice A n c ∧ x.length = n ∧ Rd B W A x) ∧ EachS W vs xss
  | _, _ => False
theorem EachS.fr0 {W W' : World} (hf : Fr No W W') : ∀ {vs : List Value} {xss : List (List UInt8)}, EachS W vs xss → EachS W' vs xss
  | [], [], _ => trivial
  | v :: vs, x :: xss, ⟨⟨A, n, c, e1, e2, e3⟩, h⟩ => ⟨⟨A, n, c, e1, e2, e3.fr0 hf⟩, EachS.fr0 hf h⟩
  | [], _ :: _, h => h.elim
  | _ :: _, [], h => h.elim
theorem EachS.append {W : World} : ∀ {vs vs' : List Value} {xss xss' : List (List UInt8)}, EachS W vs xss → EachS W vs' xss' → EachS W (vs ++ vs') (xss ++ xss')
  | [], _, [], _, _, h' => h'
  | v :: vs, _, x :: xss, _, ⟨h1, h⟩, h' => ⟨h1, EachS.append h h'⟩
  | [], _, _ :: _, _, h, _ => h.elim
  | _ :: _, _, [], _, h, _ => h.elim
theorem EachS.len {W : World} : ∀ {vs : List Value} {xss : List (List UInt8)}, EachS W vs xss → xss.length = vs.length
  | [], [], _ => rfl
  | v :: vs, x :: xss, ⟨_, h⟩ => by rw [List.length_cons, List.length_cons, EachS.len h]
  | [], _ :: _, h => h.elim
  | _ :: _, [], h => h.elim
theorem EachS.at {W : World} : ∀ {vs : List Value} {xss : List (List UInt8)}, EachS W vs xss → ∀ i (h1 : i < vs.length) (h2 : i < xss.length), ∃ Ai ni ci, vs[i] = .slice Ai ni ci ∧ xss[i].length = ni ∧ Rd B W Ai xss[i]
  | v :: vs, x :: xss, ⟨h0, h⟩, 0, h1, h2 => h0
  | v :: vs, x :: xss, ⟨h0, h⟩, i + 1, h1, h2 => EachS.at h i (by simpa using h1) (by simpa using h2)
theorem EachS.rdS {W : World} {A : Option Addr} {vs : List Value} {xss : List (List UInt8)} (h : EachS W vs xss) (hr : Rd (fun v => v) W A vs) : RdS W A vs xss := ⟨h.len, hr, h.at⟩
theorem EachS.one {W : World} {A : Option Addr} {n c : Nat} {x : List UInt8} (h : x.length = n) (hr : Rd B W A x) : ∃ A' n' c', Value.slice A n c = .slice A' n' c' ∧ x.length = n' ∧ Rd B W A' x := ⟨A, n, c, rfl, h, hr⟩
theorem rd_vals {W : World} {g : Nat} (hg : g = W.heap.size) (vs : List Value) (e : TypeId) : Rd (fun v => v) (W.alloc (.cells vs.toArray e)) (some ⟨g, 0, none⟩) vs := by
  subst hg; exact rd_new (fun v => v) W vs e _ (by simp)
theorem oneSl {W : World} : ∀ {vs : List Value} {xss : List (List UInt8)}, EachS W vs xss → ∀ u ∈ vs, u.oneCell' = true
  | [], _, _ => by simp
  | v :: vs, x :: xss, ⟨⟨A, n, c, e1, _, _⟩, h⟩ => fun u hu => by
    rcases List.mem_cons.1 hu with e | e
    · subst e; subst e1; rfl
    · exact oneSl h u e
/-- What a writer answers: slices that read as the parts. -/
def RetP (w : World) (xss : List (List UInt8)) (e : Ending) (w' : World) : Prop := ∃ A n c vs, e = .returned (.slice A n c) ∧ vs.length = n ∧ n ≤ c ∧ Rd (fun v => v) w' A vs ∧ EachS w' vs xss ∧ Fr No w w'
theorem keepC {S : Nat → Prop} {w w1 : World} {g i : Nat} {v : Option Value} (hf : Fr S w w1) (hg : g < w.heap.size) (hn : ¬ S g) (h : w.cell? ⟨g, i, none⟩ = v) : w1.cell? ⟨g, i, none⟩ = v := (hf.cellg g i hg hn).trans h
theorem blk12 {W : World} {g : Nat} {v0 v1 v2 v3 v4 v5 v6 v7 v8 v9 v10 v11 : Value} {t : TypeId} (hb : W.heap[g]? = some (.cells #[v0, v1, v2, v3, v4, v5, v6, v7, v8, v9, v10, v11] t (0, 0))) :
    W.cell? ⟨g, 0, none⟩ = some v0 ∧ W.cell? ⟨g, 1, none⟩ = some v1 ∧ W.cell? ⟨g, 2, none⟩ = some v2 ∧ W.cell? ⟨g, 3, none⟩ = some v3 ∧ W.cell? ⟨g, 4, none⟩ = some v4 ∧ W.cell? ⟨g, 5, none⟩ = some v5 ∧
    W.cell? ⟨g, 6, none⟩ = some v6 ∧ W.cell? ⟨g, 7, none⟩ = some v7 ∧ W.cell? ⟨g, 8, none⟩ = some v8 ∧ W.cell? ⟨g, 9, none⟩ = some v9 ∧ W.cell? ⟨g, 10, none⟩ = some v10 ∧ W.cell? ⟨g, 11, none⟩ = some v11 := by
  simp [World.cell?, hb]

--GEN
theorem keepC2 {S : Nat → Prop} {w w1 : World} {g i0 i1 : Nat} {a b : Option Value} (hf : Fr S w w1) (hg : g < w.heap.size) (hn : ¬ S g) (h : w.cell? ⟨g, i0, none⟩ = a ∧ w.cell? ⟨g, i1, none⟩ = b) :
    w1.cell? ⟨g, i0, none⟩ = a ∧ w1.cell? ⟨g, i1, none⟩ = b := ⟨keepC hf hg hn h.1, keepC hf hg hn h.2⟩
theorem keepC2a {w : World} {ob : Obj} {g i0 i1 : Nat} {a b : Option Value} (hg : g < w.heap.size) (h : w.cell? ⟨g, i0, none⟩ = a ∧ w.cell? ⟨g, i1, none⟩ = b) :
    (w.alloc ob).cell? ⟨g, i0, none⟩ = a ∧ (w.alloc ob).cell? ⟨g, i1, none⟩ = b := keepC2 ((Fr.refl No w).alloc ob) hg (fun h => h) h
theorem keepC3 {S : Nat → Prop} {w w1 : World} {g i0 i1 i2 : Nat} {a b c : Option Value} (hf : Fr S w w1) (hg : g < w.heap.size) (hn : ¬ S g) (h : w.cell? ⟨g, i0, none⟩ = a ∧ w.cell? ⟨g, i1, none⟩ = b ∧ w.cell? ⟨g, i2, none⟩ = c) :
    w1.cell? ⟨g, i0, none⟩ = a ∧ w1.cell? ⟨g, i1, none⟩ = b ∧ w1.cell? ⟨g, i2, none⟩ = c := ⟨keepC hf hg hn h.1, keepC hf hg hn h.2.1, keepC hf hg hn h.2.2⟩
theorem keepC3a {w : World} {ob : Obj} {g i0 i1 i2 : Nat} {a b c : Option Value} (hg : g < w.heap.size) (h : w.cell? ⟨g, i0, none⟩ = a ∧ w.cell? ⟨g, i1, none⟩ = b ∧ w.cell? ⟨g, i2, none⟩ = c) :
    (w.alloc ob).cell? ⟨g, i0, none⟩ = a ∧ (w.alloc ob).cell? ⟨g, i1, none⟩ = b ∧ (w.alloc ob).cell? ⟨g, i2, none⟩ = c := keepC3 ((Fr.refl No w).alloc ob) hg (fun h => h) h
theorem keepC5 {S : Nat → Prop} {w w1 : World} {g i0 i1 i2 i3 i4 : Nat} {a b c d e : Option Value} (hf : Fr S w w1) (hg : g < w.heap.size) (hn : ¬ S g) (h : w.cell? ⟨g, i0, none⟩ = a ∧ w.cell? ⟨g, i1, none⟩ = b ∧ w.cell? ⟨g, i2, none⟩ = c ∧ w.cell? ⟨g, i3, none⟩ = d ∧ w.cell? ⟨g, i4, none⟩ = e) :
    w1.cell? ⟨g, i0, none⟩ = a ∧ w1.cell? ⟨g, i1, none⟩ = b ∧ w1.cell? ⟨g, i2, none⟩ = c ∧ w1.cell? ⟨g, i3, none⟩ = d ∧ w1.cell? ⟨g, i4, none⟩ = e := ⟨keepC hf hg hn h.1, keepC hf hg hn h.2.1, keepC hf hg hn h.2.2.1, keepC hf hg hn h.2.2.2.1, keepC hf hg hn h.2.2.2.2⟩
theorem keepC5a {w : World} {ob : Obj} {g i0 i1 i2 i3 i4 : Nat} {a b c d e : Option Value} (hg : g < w.heap.size) (h : w.cell? ⟨g, i0, none⟩ = a ∧ w.cell? ⟨g, i1, none⟩ = b ∧ w.cell? ⟨g, i2, none⟩ = c ∧ w.cell? ⟨g, i3, none⟩ = d ∧ w.cell? ⟨g, i4, none⟩ = e) :
    (w.alloc ob).cell? ⟨g, i0, none⟩ = a ∧ (w.alloc ob).cell? ⟨g, i1, none⟩ = b ∧ (w.alloc ob).cell? ⟨g, i2, none⟩ = c ∧ (w.alloc ob).cell? ⟨g, i3, none⟩ = d ∧ (w.alloc ob).cell? ⟨g, i4, none⟩ = e := keepC5 ((Fr.refl No w).alloc ob) hg (fun h => h) h
set_option maxRecDepth 100000 in
set_option maxHeartbeats 1600000 in
theorem wr1_calls (K : Int) (U : Nat) (F : Int) (S : Nat) (Z P Y X Q C : Int) (rA dA : Option Addr) (rn rc dn dc : Nat) (w : World) (hF : -9223372036854775808 ≤ F ∧ F ≤ 9223372036854775807) (hS : S < 4294967296) (hP : -9223372036854775808 ≤ P ∧ P ≤ 9223372036854775807) :
    Calls Try.prog 39 #[.agg #[.int .i64 K, .int .u32 (U : Int), .int .i64 F, .int .u32 (S : Int), .int .i64 Z, .int .i64 P, .int .i64 Y, .int .i64 X, .int .i64 Q, .int .i64 C, .slice rA rn rc, .slice dA dn dc]] w (RetP w [putBE 1 F, putBE 4 (S : Int), putBE 4 P]) := by
  obtain ⟨g, hgg⟩ : ∃ g, g = w.heap.size := ⟨_, rfl⟩
  have HG := hid hgg
  go_enter Try.func39, Try.ntmps39
  go_wp2_with fail
  obtain ⟨w1, hw1⟩ : ∃ W, W = w.alloc (.cells #[.int .i64 K, .int .u32 (U : Int), .int .i64 F, .int .u32 (S : Int), .int .i64 Z, .int .i64 P, .int .i64 Y, .int .i64 X, .int .i64 Q, .int .i64 C, .slice rA rn rc, .slice dA dn dc] 26) := ⟨_, rfl⟩
  rw [← hw1, ← hgg]
  obtain ⟨c0, c1, c2, c3, c4, c5, c6, c7, c8, c9, c10, c11⟩ := blk12 (show w1.heap[g]? = some (.cells #[.int .i64 K, .int .u32 (U : Int), .int .i64 F, .int .u32 (S : Int), .int .i64 Z, .int .i64 P, .int .i64 Y, .int .i64 X, .int .i64 Q, .int .i64 C, .slice rA rn rc, .slice dA dn dc] 26 (0, 0)) by rw [hw1, hgg]; exact heap_new _ _)
  have hf1 : Fr No w w1 := by rw [hw1]; exact (Fr.refl No w).alloc _
  have hg1 : g < w1.heap.size := lt_of_cell c0
  have HF := hid hf1
  have hwS : IntKind.i64.wrap (S : Int) = (S : Int) := w64 _ (by omega) (by omega)
  clear hf1 hw1 hgg c0 c1 c4 c6 c7 c8 c9 c10 c11
  go_region_held3 (fun w' => w'.cell? ⟨g, 2, none⟩ = some (.int .i64 F) ∧ w'.cell? ⟨g, 3, none⟩ = some (.int .u32 (S : Int)) ∧ w'.cell? ⟨g, 5, none⟩ = some (.int .i64 P))
    (first | assumption | (refine keepC3a ?_ (by assumption); first | omega | (simp; omega)) | exact ⟨c2, c3, c5⟩ | exact keepC3 N4.out.2.2.2 (by first | omega | (simp; omega)) (fun h => h) (by assumption) | exact keepC3 N3.out.2.2.2 (by first | omega | (simp; omega)) (fun h => h) (by assumption) | exact keepC3 N2.out.2.2.2 (by first | omega | (simp; omega)) (fun h => h) (by assumption))
    (first
      | (go_at_call 19; (with_reducible refine (sbig_calls 1 F 1 cut8_1 _ hF).mono ?_); rintro e w2 ⟨A2, c2', rfl, N2⟩; have hg2 : g < w2.heap.size := by have := N2.out.2.2.2.size; (try simp at this); omega)
      | (go_at_call 19; (with_reducible refine (sbig_calls 4 (S : Int) 4 cut8_4 _ (by omega)).mono ?_); rintro e w3 ⟨A3, c3', rfl, N3⟩; have hg3 : g < w3.heap.size := by have := N3.out.2.2.2.size; (try simp at this); omega)
      | (go_at_call 19; (with_reducible refine (sbig_calls 4 P 4 cut8_4 _ hP).mono ?_); rintro e w4 ⟨A4, c4', rfl, N4⟩; have hg4 : g < w4.heap.size := by have := N4.out.2.2.2.size; (try simp at this); omega))
  all_goals
    go_wp2_with fail
    go_ret
    refine ⟨_, 3, 3, [.slice A2 1 c2', .slice A3 4 c3', .slice A4 4 c4'], rfl, rfl, by omega, rd_vals rfl _ _, EachS.fr0 ((Fr.refl No _).alloc _) ⟨EachS.one N2.out.1 ?_, EachS.one N3.out.1 ?_, EachS.one N4.out.1 ?_, trivial⟩, ?_⟩
    all_goals repeat (first | with_reducible exact N2.out.2.1 | with_reducible exact N3.out.2.1 | with_reducible exact N4.out.2.1 | with_reducible refine Rd.fr0 ?_ N4.out.2.2.2 | with_reducible refine Rd.fr0 ?_ N3.out.2.2.2 | with_reducible refine Rd.fr0 ?_ N2.out.2.2.2 | with_reducible refine Rd.drew ?_ | with_reducible refine Rd.alloc ?_ _ | with_reducible exact HF.out | with_reducible refine Fr.then ?_ N4.out.2.2.2 | with_reducible refine Fr.then ?_ N3.out.2.2.2 | with_reducible refine Fr.then ?_ N2.out.2.2.2 | with_reducible refine Fr.drew ?_ | with_reducible refine Fr.alloc ?_ _)
set_option maxRecDepth 100000 in
set_option maxHeartbeats 1600000 in
theorem wr2_calls (K : Int) (U : Nat) (F : Int) (S : Nat) (Z P Y X Q C : Int) (rA dA : Option Addr) (rn rc dn dc : Nat) (w : World) (hF : -9223372036854775808 ≤ F ∧ F ≤ 9223372036854775807) (hS : S < 4294967296) (hZ : -9223372036854775808 ≤ Z ∧ Z ≤ 9223372036854775807) (hP : -9223372036854775808 ≤ P ∧ P ≤ 9223372036854775807) (hY : -9223372036854775808 ≤ Y ∧ Y ≤ 9223372036854775807) :
    Calls Try.prog 41 #[.agg #[.int .i64 K, .int .u32 (U : Int), .int .i64 F, .int .u32 (S : Int), .int .i64 Z, .int .i64 P, .int .i64 Y, .int .i64 X, .int .i64 Q, .int .i64 C, .slice rA rn rc, .slice dA dn dc]] w (RetP w [putBE 1 F, putBE 4 (S : Int), putBE 4 Z, putBE 4 P, putBE 2 Y]) := by
  obtain ⟨g, hgg⟩ : ∃ g, g = w.heap.size := ⟨_, rfl⟩
  have HG := hid hgg
  go_enter Try.func41, Try.ntmps41
  go_wp2_with fail
  obtain ⟨w1, hw1⟩ : ∃ W, W = w.alloc (.cells #[.int .i64 K, .int .u32 (U : Int), .int .i64 F, .int .u32 (S : Int), .int .i64 Z, .int .i64 P, .int .i64 Y, .int .i64 X, .int .i64 Q, .int .i64 C, .slice rA rn rc, .slice dA dn dc] 26) := ⟨_, rfl⟩
  rw [← hw1, ← hgg]
  obtain ⟨c0, c1, c2, c3, c4, c5, c6, c7, c8, c9, c10, c11⟩ := blk12 (show w1.heap[g]? = some (.cells #[.int .i64 K, .int .u32 (U : Int), .int .i64 F, .int .u32 (S : Int), .int .i64 Z, .int .i64 P, .int .i64 Y, .int .i64 X, .int .i64 Q, .int .i64 C, .slice rA rn rc, .slice dA dn dc] 26 (0, 0)) by rw [hw1, hgg]; exact heap_new _ _)
  have hf1 : Fr No w w1 := by rw [hw1]; exact (Fr.refl No w).alloc _
  have hg1 : g < w1.heap.size := lt_of_cell c0
  have HF := hid hf1
  have hwS : IntKind.i64.wrap (S : Int) = (S : Int) := w64 _ (by omega) (by omega)
  clear hf1 hw1 hgg c0 c1 c7 c8 c9 c10 c11
  go_region_held3 (fun w' => w'.cell? ⟨g, 2, none⟩ = some (.int .i64 F) ∧ w'.cell? ⟨g, 3, none⟩ = some (.int .u32 (S : Int)) ∧ w'.cell? ⟨g, 4, none⟩ = some (.int .i64 Z) ∧ w'.cell? ⟨g, 5, none⟩ = some (.int .i64 P) ∧ w'.cell? ⟨g, 6, none⟩ = some (.int .i64 Y))
    (first | assumption | (refine keepC5a ?_ (by assumption); first | omega | (simp; omega)) | exact ⟨c2, c3, c4, c5, c6⟩ | exact keepC5 N6.out.2.2.2 (by first | omega | (simp; omega)) (fun h => h) (by assumption) | exact keepC5 N5.out.2.2.2 (by first | omega | (simp; omega)) (fun h => h) (by assumption) | exact keepC5 N4.out.2.2.2 (by first | omega | (simp; omega)) (fun h => h) (by assumption) | exact keepC5 N3.out.2.2.2 (by first | omega | (simp; omega)) (fun h => h) (by assumption) | exact keepC5 N2.out.2.2.2 (by first | omega | (simp; omega)) (fun h => h) (by assumption))
    (first
      | (go_at_call 19; (with_reducible refine (sbig_calls 1 F 1 cut8_1 _ hF).mono ?_); rintro e w2 ⟨A2, c2', rfl, N2⟩; have hg2 : g < w2.heap.size := by have := N2.out.2.2.2.size; (try simp at this); omega)
      | (go_at_call 19; (with_reducible refine (sbig_calls 4 (S : Int) 4 cut8_4 _ (by omega)).mono ?_); rintro e w3 ⟨A3, c3', rfl, N3⟩; have hg3 : g < w3.heap.size := by have := N3.out.2.2.2.size; (try simp at this); omega)
      | (go_at_call 19; (with_reducible refine (sbig_calls 4 Z 4 cut8_4 _ hZ).mono ?_); rintro e w4 ⟨A4, c4', rfl, N4⟩; have hg4 : g < w4.heap.size := by have := N4.out.2.2.2.size; (try simp at this); omega)
      | (go_at_call 19; (with_reducible refine (sbig_calls 4 P 4 cut8_4 _ hP).mono ?_); rintro e w5 ⟨A5, c5', rfl, N5⟩; have hg5 : g < w5.heap.size := by have := N5.out.2.2.2.size; (try simp at this); omega)
      | (go_at_call 19; (with_reducible refine (sbig_calls 2 Y 2 cut8_2 _ hY).mono ?_); rintro e w6 ⟨A6, c6', rfl, N6⟩; have hg6 : g < w6.heap.size := by have := N6.out.2.2.2.size; (try simp at this); omega))
  all_goals
    go_wp2_with fail
    go_ret
    refine ⟨_, 5, 5, [.slice A2 1 c2', .slice A3 4 c3', .slice A4 4 c4', .slice A5 4 c5', .slice A6 2 c6'], rfl, rfl, by omega, rd_vals rfl _ _, EachS.fr0 ((Fr.refl No _).alloc _) ⟨EachS.one N2.out.1 ?_, EachS.one N3.out.1 ?_, EachS.one N4.out.1 ?_, EachS.one N5.out.1 ?_, EachS.one N6.out.1 ?_, trivial⟩, ?_⟩
    all_goals repeat (first | with_reducible exact N2.out.2.1 | with_reducible exact N3.out.2.1 | with_reducible exact N4.out.2.1 | with_reducible exact N5.out.2.1 | with_reducible exact N6.out.2.1 | with_reducible refine Rd.fr0 ?_ N6.out.2.2.2 | with_reducible refine Rd.fr0 ?_ N5.out.2.2.2 | with_reducible refine Rd.fr0 ?_ N4.out.2.2.2 | with_reducible refine Rd.fr0 ?_ N3.out.2.2.2 | with_reducible refine Rd.fr0 ?_ N2.out.2.2.2 | with_reducible refine Rd.drew ?_ | with_reducible refine Rd.alloc ?_ _ | with_reducible exact HF.out | with_reducible refine Fr.then ?_ N6.out.2.2.2 | with_reducible refine Fr.then ?_ N5.out.2.2.2 | with_reducible refine Fr.then ?_ N4.out.2.2.2 | with_reducible refine Fr.then ?_ N3.out.2.2.2 | with_reducible refine Fr.then ?_ N2.out.2.2.2 | with_reducible refine Fr.drew ?_ | with_reducible refine Fr.alloc ?_ _)
set_option maxRecDepth 100000 in
set_option maxHeartbeats 1600000 in
theorem wr3_calls (K : Int) (U : Nat) (F : Int) (S : Nat) (Z P Y X Q C : Int) (rA dA : Option Addr) (rn rc dn dc : Nat) (w : World) (hX : -9223372036854775808 ≤ X ∧ X ≤ 9223372036854775807) (hQ : -9223372036854775808 ≤ Q ∧ Q ≤ 9223372036854775807) (D : List UInt8) (hD : D.length = dn) (hrD : Rd B w dA D) :
    Calls Try.prog 43 #[.agg #[.int .i64 K, .int .u32 (U : Int), .int .i64 F, .int .u32 (S : Int), .int .i64 Z, .int .i64 P, .int .i64 Y, .int .i64 X, .int .i64 Q, .int .i64 C, .slice rA rn rc, .slice dA dn dc]] w (RetP w [putBE 4 X, putBE 1 Q, D]) := by
  have HDD := hid (And.intro hD hrD)
  clear hD hrD
  obtain ⟨g, hgg⟩ : ∃ g, g = w.heap.size := ⟨_, rfl⟩
  have HG := hid hgg
  go_enter Try.func43, Try.ntmps43
  go_wp2_with fail
  obtain ⟨w1, hw1⟩ : ∃ W, W = w.alloc (.cells #[.int .i64 K, .int .u32 (U : Int), .int .i64 F, .int .u32 (S : Int), .int .i64 Z, .int .i64 P, .int .i64 Y, .int .i64 X, .int .i64 Q, .int .i64 C, .slice rA rn rc, .slice dA dn dc] 26) := ⟨_, rfl⟩
  rw [← hw1, ← hgg]
  obtain ⟨c0, c1, c2, c3, c4, c5, c6, c7, c8, c9, c10, c11⟩ := blk12 (show w1.heap[g]? = some (.cells #[.int .i64 K, .int .u32 (U : Int), .int .i64 F, .int .u32 (S : Int), .int .i64 Z, .int .i64 P, .int .i64 Y, .int .i64 X, .int .i64 Q, .int .i64 C, .slice rA rn rc, .slice dA dn dc] 26 (0, 0)) by rw [hw1, hgg]; exact heap_new _ _)
  have hf1 : Fr No w w1 := by rw [hw1]; exact (Fr.refl No w).alloc _
  have hg1 : g < w1.heap.size := lt_of_cell c0
  have HF := hid hf1
  clear hf1 hw1 hgg c0 c1 c2 c3 c4 c5 c6 c9 c10
  go_region_held3 (fun w' => w'.cell? ⟨g, 7, none⟩ = some (.int .i64 X) ∧ w'.cell? ⟨g, 8, none⟩ = some (.int .i64 Q) ∧ w'.cell? ⟨g, 11, none⟩ = some (.slice dA dn dc))
    (first | assumption | (refine keepC3a ?_ (by assumption); first | omega | (simp; omega)) | exact ⟨c7, c8, c11⟩ | exact keepC3 N3.out.2.2.2 (by first | omega | (simp; omega)) (fun h => h) (by assumption) | exact keepC3 N2.out.2.2.2 (by first | omega | (simp; omega)) (fun h => h) (by assumption))
    (first
      | (go_at_call 19; (with_reducible refine (sbig_calls 4 X 4 cut8_4 _ hX).mono ?_); rintro e w2 ⟨A2, c2', rfl, N2⟩; have hg2 : g < w2.heap.size := by have := N2.out.2.2.2.size; (try simp at this); omega)
      | (go_at_call 19; (with_reducible refine (sbig_calls 1 Q 1 cut8_1 _ hQ).mono ?_); rintro e w3 ⟨A3, c3', rfl, N3⟩; have hg3 : g < w3.heap.size := by have := N3.out.2.2.2.size; (try simp at this); omega))
  all_goals
    go_wp2_with fail
    go_ret
    refine ⟨_, 3, 3, [.slice A2 4 c2', .slice A3 1 c3', .slice dA dn dc], rfl, rfl, by omega, rd_vals rfl _ _, EachS.fr0 ((Fr.refl No _).alloc _) ⟨EachS.one N2.out.1 ?_, EachS.one N3.out.1 ?_, EachS.one HDD.out.1 ?_, trivial⟩, ?_⟩
    all_goals repeat (first | with_reducible exact N2.out.2.1 | with_reducible exact N3.out.2.1 | with_reducible exact HDD.out.2 | with_reducible refine Rd.fr0 ?_ N3.out.2.2.2 | with_reducible refine Rd.fr0 ?_ N2.out.2.2.2 | with_reducible refine Rd.fr0 ?_ HF.out | with_reducible refine Rd.drew ?_ | with_reducible refine Rd.alloc ?_ _ | with_reducible exact HF.out | with_reducible refine Fr.then ?_ N3.out.2.2.2 | with_reducible refine Fr.then ?_ N2.out.2.2.2 | with_reducible refine Fr.drew ?_ | with_reducible refine Fr.alloc ?_ _)
set_option maxRecDepth 100000 in
set_option maxHeartbeats 1600000 in
theorem wr5_calls (K : Int) (U : Nat) (F : Int) (S : Nat) (Z P Y X Q C : Int) (rA dA : Option Addr) (rn rc dn dc : Nat) (w : World) (hF : -9223372036854775808 ≤ F ∧ F ≤ 9223372036854775807) (hC : -9223372036854775808 ≤ C ∧ C ≤ 9223372036854775807) :
    Calls Try.prog 48 #[.agg #[.int .i64 K, .int .u32 (U : Int), .int .i64 F, .int .u32 (S : Int), .int .i64 Z, .int .i64 P, .int .i64 Y, .int .i64 X, .int .i64 Q, .int .i64 C, .slice rA rn rc, .slice dA dn dc]] w (RetP w [putBE 1 F, putBE 1 C]) := by
  obtain ⟨g, hgg⟩ : ∃ g, g = w.heap.size := ⟨_, rfl⟩
  have HG := hid hgg
  go_enter Try.func48, Try.ntmps48
  go_wp2_with fail
  obtain ⟨w1, hw1⟩ : ∃ W, W = w.alloc (.cells #[.int .i64 K, .int .u32 (U : Int), .int .i64 F, .int .u32 (S : Int), .int .i64 Z, .int .i64 P, .int .i64 Y, .int .i64 X, .int .i64 Q, .int .i64 C, .slice rA rn rc, .slice dA dn dc] 26) := ⟨_, rfl⟩
  rw [← hw1, ← hgg]
  obtain ⟨c0, c1, c2, c3, c4, c5, c6, c7, c8, c9, c10, c11⟩ := blk12 (show w1.heap[g]? = some (.cells #[.int .i64 K, .int .u32 (U : Int), .int .i64 F, .int .u32 (S : Int), .int .i64 Z, .int .i64 P, .int .i64 Y, .int .i64 X, .int .i64 Q, .int .i64 C, .slice rA rn rc, .slice dA dn dc] 26 (0, 0)) by rw [hw1, hgg]; exact heap_new _ _)
  have hf1 : Fr No w w1 := by rw [hw1]; exact (Fr.refl No w).alloc _
  have hg1 : g < w1.heap.size := lt_of_cell c0
  have HF := hid hf1
  clear hf1 hw1 hgg c0 c1 c3 c4 c5 c6 c7 c8 c10 c11
  go_region_held3 (fun w' => w'.cell? ⟨g, 2, none⟩ = some (.int .i64 F) ∧ w'.cell? ⟨g, 9, none⟩ = some (.int .i64 C))
    (first | assumption | (refine keepC2a ?_ (by assumption); first | omega | (simp; omega)) | exact ⟨c2, c9⟩ | exact keepC2 N3.out.2.2.2 (by first | omega | (simp; omega)) (fun h => h) (by assumption) | exact keepC2 N2.out.2.2.2 (by first | omega | (simp; omega)) (fun h => h) (by assumption))
    (first
      | (go_at_call 19; (with_reducible refine (sbig_calls 1 F 1 cut8_1 _ hF).mono ?_); rintro e w2 ⟨A2, c2', rfl, N2⟩; have hg2 : g < w2.heap.size := by have := N2.out.2.2.2.size; (try simp at this); omega)
      | (go_at_call 19; (with_reducible refine (sbig_calls 1 C 1 cut8_1 _ hC).mono ?_); rintro e w3 ⟨A3, c3', rfl, N3⟩; have hg3 : g < w3.heap.size := by have := N3.out.2.2.2.size; (try simp at this); omega))
  all_goals
    go_wp2_with fail
    go_ret
    refine ⟨_, 2, 2, [.slice A2 1 c2', .slice A3 1 c3'], rfl, rfl, by omega, rd_vals rfl _ _, EachS.fr0 ((Fr.refl No _).alloc _) ⟨EachS.one N2.out.1 ?_, EachS.one N3.out.1 ?_, trivial⟩, ?_⟩
    all_goals repeat (first | with_reducible exact N2.out.2.1 | with_reducible exact N3.out.2.1 | with_reducible refine Rd.fr0 ?_ N3.out.2.2.2 | with_reducible refine Rd.fr0 ?_ N2.out.2.2.2 | with_reducible refine Rd.drew ?_ | with_reducible refine Rd.alloc ?_ _ | with_reducible exact HF.out | with_reducible refine Fr.then ?_ N3.out.2.2.2 | with_reducible refine Fr.then ?_ N2.out.2.2.2 | with_reducible refine Fr.drew ?_ | with_reducible refine Fr.alloc ?_ _)
end Go.Proofs.Ytamkfjbdcjkchaa

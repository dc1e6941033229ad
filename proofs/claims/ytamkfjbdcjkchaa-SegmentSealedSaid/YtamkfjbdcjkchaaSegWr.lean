/- The contract of segment.Write. -/
import Derived.Test.YtamkfjbdcjkchaaSegRd
import Derived.Test.YtamkfjbdcjkchaaSegP3
namespace Go.Proofs.Ytamkfjbdcjkchaa
open Go.RowKit Go.Proofs.HK
set_option linter.unusedVariables false
set_option linter.unusedSimpArgs false
attribute [local go_sem] max2_int min2_int max_two min_two

theorem base_of {m : MsgS} (h : rangedB m = true) : base0 m = true ∧ base1 m = true ∧ chainB m.X m.R = true := by
  unfold rangedB at h
  simp only [Bool.and_eq_true] at h
  exact ⟨h.1.1, h.1.2, h.2⟩
/-- Each kind's writer. -/
theorem wparts_calls (K : Int) (U : Nat) (F : Int) (S : Nat) (Z P Y X Q C : Int) (R : List (Int × Int)) (D : List UInt8) (rA dA : Option Addr) (rn rc dn dc : Nat) (w : World) (f f' : FuncId) (hf : formAt K = some (f, f')) (hg : rangedB (⟨K, U, F, S, Z, P, Y, X, Q, C, R, D⟩ : MsgS) = true) (hS : S < 4294967296)
    (hR : R.length = rn) (hD : D.length = dn) (hr : Cells w rA (rngC R)) (hd : Rd B w dA D) :
    Calls Try.prog f #[.agg #[.int .i64 K, .int .u32 (U : Int), .int .i64 F, .int .u32 (S : Int), .int .i64 Z, .int .i64 P, .int .i64 Y, .int .i64 X, .int .i64 Q, .int .i64 C, .slice rA rn rc, .slice dA dn dc]] w (RetP w (segParts (⟨K, U, F, S, Z, P, Y, X, Q, C, R, D⟩ : MsgS))) := by
  obtain ⟨g0, g1, g2⟩ := base_of hg
  have g0 := of_decide_eq_true g0
  simp only at g0 g2
  unfold base1 at g1
  simp only at g1
  unfold formAt at hf
  unfold segParts
  simp only
  by_cases k1 : K = 1
  · rw [if_pos k1] at hf ⊢
    injection hf with hf; injection hf with h1 h2; subst h1
    exact wr1_calls K U F S Z P Y X Q C rA dA rn rc dn dc w (by omega) hS (by omega)
  rw [if_neg k1] at hf ⊢
  by_cases k2 : K = 2
  · rw [if_pos k2] at hf g1 ⊢
    have g1 := of_decide_eq_true g1
    injection hf with hf; injection hf with h1 h2; subst h1
    exact wr2_calls K U F S Z P Y X Q C rA dA rn rc dn dc w (by omega) hS (by omega) (by omega) (by omega)
  rw [if_neg k2] at hf ⊢
  by_cases k3 : K = 3
  · rw [if_pos k3] at hf ⊢
    injection hf with hf; injection hf with h1 h2; subst h1
    exact wr3_calls K U F S Z P Y X Q C rA dA rn rc dn dc w (by omega) (by omega) D hD hd
  rw [if_neg k3] at hf ⊢
  by_cases k4 : K = 4
  · rw [if_pos k4] at hf ⊢
    injection hf with hf; injection hf with h1 h2; subst h1
    exact wr4_calls K U F S Z P Y X Q C R rA dA rn rc dn dc w (by omega) (chain_bd R X (by omega) g2) hR hr (by omega)
  rw [if_neg k4] at hf ⊢
  by_cases k5 : K = 5
  · rw [if_pos k5] at hf
    injection hf with hf; injection hf with h1 h2; subst h1
    exact wr5_calls K U F S Z P Y X Q C rA dA rn rc dn dc w (by omega) (by omega)
  rw [if_neg k5] at hf
  cases hf
theorem formAt_litsW {K : Int} {f f' : FuncId} (h : formAt K = some (f, f')) : f = 39 ∨ f = 41 ∨ f = 43 ∨ f = 46 ∨ f = 48 := by
  unfold formAt at h
  repeat' split at h
  all_goals first | (injection h with h; injection h with h1 h2; subst h1; simp) | cases h
theorem segO_lt (m : MsgS) (h : rangedB m = true) : (segO m).length ≤ 1100 := by
  obtain ⟨g0, _, _⟩ := base_of h
  have g0 := of_decide_eq_true g0
  rw [segO_eq]
  simp only [List.length_append, putBE_length]
  have : (segParts m).flatten.length ≤ 1090 := by
    unfold segParts
    repeat' split
    all_goals simp only [List.flatten_append, List.flatten_cons, List.flatten_nil, List.length_append, putBE_length, rgParts_length, List.length_nil]
    all_goals omega
  omega
theorem segParts_len (m : MsgS) (h : rangedB m = true) : (segParts m).length ≤ 10 := by
  obtain ⟨g0, _, _⟩ := base_of h
  have g0 := of_decide_eq_true g0
  unfold segParts
  repeat' split
  all_goals simp only [List.length_append, List.length_cons, List.length_nil, rgParts_len2]
  all_goals omega
/-- Bytes lie in no block of slices. -/
theorem rd_keepS {W W' : World} {b : Nat} {A a0 a1 : Option Addr} {n0 c0 n1 c1 : Nat} {t : TypeId} {xs : List UInt8} (hb : W.heap[b]? = some (.cells #[.slice a0 n0 c0, .slice a1 n1 c1] t (0, 0))) (hf : Fr (Opt (some b)) W W') (h : Rd B W A xs) : Rd B W' A xs := by
  rcases Nat.eq_zero_or_pos xs.length with h0 | h0
  · have : xs = [] := List.eq_nil_of_length_eq_zero h0
    subst this; exact Rd.nil
  · refine h.fr hf (fun ad e ho => ?_)
    have ho : ad.block = b := Option.some.inj ho
    obtain ⟨ad', e', hc⟩ := h h0
    rw [e] at e'
    injection e' with e'
    subst e'
    have h1 := hc 0 h0
    rw [add_zero] at h1
    unfold World.cell? at h1
    rw [ho, hb] at h1
    simp only at h1
    split at h1
    · cases h1
    obtain ⟨hlt, he⟩ := Array.getElem?_eq_some_iff.1 h1
    have hlt : ad.off < 2 := by simpa using hlt
    have h01 : ad.off = 0 ∨ ad.off = 1 := by omega
    unfold B at he
    rcases h01 with h01 | h01 <;> simp [h01] at he
theorem EachS.keepS {W W' : World} {b : Nat} {a0 a1 : Option Addr} {n0 c0 n1 c1 : Nat} {t : TypeId} (hb : W.heap[b]? = some (.cells #[.slice a0 n0 c0, .slice a1 n1 c1] t (0, 0))) (hf : Fr (Opt (some b)) W W') : ∀ {vs : List Value} {xss : List (List UInt8)}, EachS W vs xss → EachS W' vs xss
  | [], [], _ => trivial
  | v :: vs, x :: xss, ⟨⟨A, n, c, e1, e2, e3⟩, h⟩ => ⟨⟨A, n, c, e1, e2, rd_keepS hb hf e3⟩, EachS.keepS hb hf h⟩
  | [], _ :: _, h => h.elim
  | _ :: _, [], h => h.elim

set_option maxRecDepth 100000 in
set_option maxHeartbeats 6400000 in
theorem swrite_calls (K : Int) (U : Nat) (F : Int) (S : Nat) (Z P Y X Q C : Int) (R : List (Int × Int)) (D : List UInt8) (rA dA : Option Addr) (rn rc dn dc : Nat) (w : World) (hU : U < 4294967296) (hS : S < 4294967296)
    (hR : R.length = rn) (hD : D.length = dn) (hr : Cells w rA (rngC R)) (hd : Rd B w dA D) (hl : rn ≤ 140737488355328) (hl2 : dn ≤ 140737488355328) :
    Calls Try.prog 9 #[.agg #[.int .i64 K, .int .u32 (U : Int), .int .i64 F, .int .u32 (S : Int), .int .i64 Z, .int .i64 P, .int .i64 Y, .int .i64 X, .int .i64 Q, .int .i64 C, .slice rA rn rc, .slice dA dn dc]] w fun e w' => ∃ v, e = .returned (.tuple #[v, .int .i64 (swrE (⟨K, U, F, S, Z, P, Y, X, Q, C, R, D⟩ : MsgS))]) ∧ New B w w' v (swrB (⟨K, U, F, S, Z, P, Y, X, Q, C, R, D⟩ : MsgS)) := by
  obtain ⟨M, hM⟩ : ∃ M, M = (⟨K, U, F, S, Z, P, Y, X, Q, C, R, D⟩ : MsgS) := ⟨_, rfl⟩
  obtain ⟨RB, hRB⟩ : ∃ b, b = rangedB (⟨K, U, F, S, Z, P, Y, X, Q, C, R, D⟩ : MsgS) := ⟨_, rfl⟩
  rw [← hM]
  have HMM := hid hM
  have HRB := hid hRB
  have HM := hid (And.intro hR (And.intro hD (And.intro hr hd)))
  have hran : ∀ W, Fr No w W → Calls Try.prog 18 #[.agg #[.int .i64 K, .int .u32 (U : Int), .int .i64 F, .int .u32 (S : Int), .int .i64 Z, .int .i64 P, .int .i64 Y, .int .i64 X, .int .i64 Q, .int .i64 C, .slice rA rn rc, .slice dA dn dc]] W fun e w' => e = .returned (.bool RB) ∧ Fr No W w' := fun W h => by
    rw [hRB]; exact ranged_calls K U F S Z P Y X Q C R D rA dA rn rc dn dc W hR hD (hr.fr h (fun _ _ h => h)) hl hl2
  have HRAN := hid hran
  obtain ⟨fa, fb, hfab⟩ : ∃ a b : Value, (kindB K = true ∧ ∃ f f', formAt K = some (f, f') ∧ a = .func (.func f) #[] #[] ∧ b = .func (.func f') #[] #[]) ∨ (kindB K = false ∧ a = .nilFunc ∧ b = .nilFunc) := by
    cases hkb : kindB K with
    | true => obtain ⟨f, f', hff⟩ := formAt_yes hkb; exact ⟨_, _, .inl ⟨rfl, f, f', hff, rfl, rfl⟩⟩
    | false => exact ⟨_, _, .inr ⟨rfl, rfl, rfl⟩⟩
  have HFAB := hid hfab
  obtain ⟨kb, hkb⟩ : ∃ b, b = kindB K := ⟨_, rfl⟩
  have HKb := hid hkb
  obtain ⟨g, hgg⟩ : ∃ g, g = w.heap.size := ⟨_, rfl⟩
  obtain ⟨w1, hw1⟩ : ∃ W, W = w.alloc (.cells #[.int .i64 K, .int .u32 (U : Int), .int .i64 F, .int .u32 (S : Int), .int .i64 Z, .int .i64 P, .int .i64 Y, .int .i64 X, .int .i64 Q, .int .i64 C, .slice rA rn rc, .slice dA dn dc] 26) := ⟨_, rfl⟩
  have hb1 : w1.heap[g]? = some (.cells #[.int .i64 K, .int .u32 (U : Int), .int .i64 F, .int .u32 (S : Int), .int .i64 Z, .int .i64 P, .int .i64 Y, .int .i64 X, .int .i64 Q, .int .i64 C, .slice rA rn rc, .slice dA dn dc] 26 (0, 0)) := by rw [hw1, hgg]; exact heap_new _ _
  have hf1 : Fr No w w1 := by rw [hw1]; exact (Fr.refl No w).alloc _
  have hg1 : g < w1.heap.size := (Array.getElem?_eq_some_iff.1 hb1).1
  have n0 := (blk12 hb1).1
  have HB := hid (And.intro hb1 (And.intro hf1 (And.intro hgg hw1)))
  clear hM hRB hR hD hr hd hran hfab hkb hgg hw1 hb1 hf1
  go_enter Try.func9, Try.ntmps9
  go_wp2_with fail
  rw [← HB.out.2.2.2, ← HB.out.2.2.1]
  go_cut [4, 5] (fun s4 s5 wx => ∃ q : Nat, s4 = .pointer (some ⟨q, 0, none⟩) ∧ s5 = .bool kb ∧ wx.heap[q]? = some (.cells #[fa, fb] 44 (0, 0)) ∧ Fr No w1 wx ∧ w1.heap.size ≤ q)
  case first =>
    rcases HFAB.out with ⟨hk1, f, f', hff, rfl, rfl⟩ | ⟨hk1, rfl, rfl⟩
    · have HFF := hid hff
      obtain rfl : kb = true := HKb.out.trans hk1
      clear hff hk1
      go_region_held3 (fun w' => w'.cell? ⟨g, 0, none⟩ = some (.int .i64 K))
        (first | assumption | exact keepSt hg1 n8 | (refine keepC ((Fr.refl No _).alloc _) ?_ (fun h => h) (by assumption); first | omega | (simp; omega)) | exact keepC hf8 (by first | omega | (simp; omega)) (fun h => h) (by assumption))
        ((go_at_call 17; (with_reducible refine (forms_calls _).mono ?_); rintro e w8 ⟨b, rfl, hb8, hge8, hf8⟩; have hl1 := look_forms hb8 K f f' HFF.out; have hl2 := look_forms (W := w8.drew) hb8 K f f' HFF.out; have hl3 : ∀ ob, (Instr.lookup 46 (.map (some b)) (.int .i64 K) true).run Try.prog (w8.alloc ob) = _ := fun ob => look_forms (W := w8.alloc ob) ((((Fr.refl No w8).alloc ob).block b (Array.getElem?_eq_some_iff.1 hb8).1 (fun h => h)).trans hb8) K f f' HFF.out; have n8 : w8.cell? ⟨g, 0, none⟩ = some (.int .i64 K) := (by first | exact (hf8.cellg g 0 (by first | omega | (simp; omega)) (fun h => h)).trans n0 | exact (hf8.cellg g 0 (by first | omega | (simp; omega)) (fun h => h)).trans (keepC (S := No) ((Fr.refl No w1).alloc _) hg1 (fun h => h) n0) | exact (hf8.cellg g 0 (by first | omega | (simp; omega)) (fun h => h)).trans (keepC (S := No) ((Fr.refl No w1).alloc _).drew hg1 (fun h => h) n0) | exact (hf8.cellg g 0 (by first | omega | (simp; omega)) (fun h => h)).trans (keepC (S := No) ((Fr.refl No w1).drew.alloc _) hg1 (fun h => h) n0)); (try (have hq8 : w8.heap[w1.heap.size]? = some (.cells #[.nilFunc, .nilFunc] 44 (0, 0)) := (hf8.block w1.heap.size (by simp) (fun h => h)).trans (heap_new w1 _); obtain ⟨q0, q1, z0, z1⟩ := blk2f hq8)); have hg8 : g < w8.heap.size := Nat.lt_of_lt_of_le (by first | omega | (simp; omega)) hf8.size))
      all_goals
        go_wp2_with fail
        go_meet
        first
          | exact ⟨w8.heap.size, rfl, rfl, heap_new w8 _, by repeat (first | with_reducible exact Fr.refl _ _ | with_reducible refine Fr.then ?_ hf8 | with_reducible refine Fr.drew ?_ | with_reducible refine Fr.alloc ?_ _), by have := hf8.size; (try simp only [World.size_drew, World.size_alloc] at this); omega⟩
          | exact ⟨w1.heap.size, rfl, rfl, st2b hq8 _ _, frB (by repeat (first | with_reducible exact Fr.refl _ _ | with_reducible refine Fr.then ?_ hf8 | with_reducible refine Fr.drew ?_ | with_reducible refine Fr.alloc ?_ _)) _ _, Nat.le_refl _⟩
    · obtain rfl : kb = false := HKb.out.trans hk1
      have HKB := hid (show kindIn K = false from hk1)
      clear hk1
      go_region_held3 (fun w' => w'.cell? ⟨g, 0, none⟩ = some (.int .i64 K))
        (first | assumption | exact keepSt hg1 n8 | (refine keepC ((Fr.refl No _).alloc _) ?_ (fun h => h) (by assumption); first | omega | (simp; omega)) | exact keepC hf8 (by first | omega | (simp; omega)) (fun h => h) (by assumption))
        ((go_at_call 17; (with_reducible refine (forms_calls _).mono ?_); rintro e w8 ⟨b, rfl, hb8, hge8, hf8⟩; have hl1 := look_forms_no hb8 K HKB.out; have hl2 := look_forms_no (W := w8.drew) hb8 K HKB.out; have hl3 : ∀ ob, (Instr.lookup 46 (.map (some b)) (.int .i64 K) true).run Try.prog (w8.alloc ob) = _ := fun ob => look_forms_no (W := w8.alloc ob) ((((Fr.refl No w8).alloc ob).block b (Array.getElem?_eq_some_iff.1 hb8).1 (fun h => h)).trans hb8) K HKB.out; have n8 : w8.cell? ⟨g, 0, none⟩ = some (.int .i64 K) := (by first | exact (hf8.cellg g 0 (by first | omega | (simp; omega)) (fun h => h)).trans n0 | exact (hf8.cellg g 0 (by first | omega | (simp; omega)) (fun h => h)).trans (keepC (S := No) ((Fr.refl No w1).alloc _) hg1 (fun h => h) n0) | exact (hf8.cellg g 0 (by first | omega | (simp; omega)) (fun h => h)).trans (keepC (S := No) ((Fr.refl No w1).alloc _).drew hg1 (fun h => h) n0) | exact (hf8.cellg g 0 (by first | omega | (simp; omega)) (fun h => h)).trans (keepC (S := No) ((Fr.refl No w1).drew.alloc _) hg1 (fun h => h) n0)); (try (have hq8 : w8.heap[w1.heap.size]? = some (.cells #[.nilFunc, .nilFunc] 44 (0, 0)) := (hf8.block w1.heap.size (by simp) (fun h => h)).trans (heap_new w1 _); obtain ⟨q0, q1, z0, z1⟩ := blk2f hq8)); have hg8 : g < w8.heap.size := Nat.lt_of_lt_of_le (by first | omega | (simp; omega)) hf8.size))
      all_goals
        go_wp2_with fail
        go_meet
        first
          | exact ⟨w8.heap.size, rfl, rfl, heap_new w8 _, by repeat (first | with_reducible exact Fr.refl _ _ | with_reducible refine Fr.then ?_ hf8 | with_reducible refine Fr.drew ?_ | with_reducible refine Fr.alloc ?_ _), by have := hf8.size; (try simp only [World.size_drew, World.size_alloc] at this); omega⟩
          | exact ⟨w1.heap.size, rfl, rfl, st2b hq8 _ _, frB (by repeat (first | with_reducible exact Fr.refl _ _ | with_reducible refine Fr.then ?_ hf8 | with_reducible refine Fr.drew ?_ | with_reducible refine Fr.alloc ?_ _)) _ _, Nat.le_refl _⟩
  case rest =>
    obtain ⟨wq, rfl⟩ : ∃ x : World, x = wc := ⟨_, rfl⟩
    obtain ⟨q, rfl, rfl, hbq, hfq, hq0⟩ := hcut
    have hbg : wq.heap[g]? = some (.cells #[.int .i64 K, .int .u32 (U : Int), .int .i64 F, .int .u32 (S : Int), .int .i64 Z, .int .i64 P, .int .i64 Y, .int .i64 X, .int .i64 Q, .int .i64 C, .slice rA rn rc, .slice dA dn dc] 26 (0, 0)) := (hfq.block g hg1 (fun h => h)).trans HB.out.1
    have hfw : Fr No w wq := HB.out.2.1.then hfq
    have HQ := hid (And.intro hbq (And.intro hbg (And.intro hfw hq0)))
    obtain ⟨m0, m1, m2, m3, m4, m5, m6, m7, m8, m9, m10, m11⟩ := blk12 hbg
    clear hbq hfq hq0 hbg hfw n0
    cases kb with
    | false =>
      have HE := hid (show swrE M = 1 ∧ swrB M = [] by
        have e : swrE M = 1 := by rw [HMM.out]; unfold swrE; simp only; rw [← HKb.out]; rfl
        exact ⟨e, by unfold swrB; rw [e]; rfl⟩)
      go_wp2_with fail
      go_ret2
      rw [HE.out.1, HE.out.2]
      exact ⟨_, rfl, NewR.nil, HQ.out.2.2.1⟩
    | true =>
      obtain ⟨f, f', hff, rfl, rfl⟩ : ∃ f f', formAt K = some (f, f') ∧ fa = .func (.func f) #[] #[] ∧ fb = .func (.func f') #[] #[] := by
        rcases HFAB.out with ⟨_, h⟩ | ⟨h, _⟩
        · exact h
        · exact absurd (HKb.out.trans h) (by simp)
      have HFF := hid hff
      clear hff HFAB
      go_wp2_with fail
      refine (HRAN.out wq HQ.out.2.2.1).mono ?_
      rintro e w2 ⟨rfl, hf2⟩
      have H2 := hid hf2
      clear hf2
      cases RB with
      | false =>
        have HE := hid (show swrE M = 1 ∧ swrB M = [] by
          have e : swrE M = 1 := by rw [HMM.out]; unfold swrE; rw [← HRB.out]; simp
          exact ⟨e, by unfold swrB; rw [e]; rfl⟩)
        go_wp2_with fail
        go_ret2
        rw [HE.out.1, HE.out.2]
        exact ⟨_, rfl, NewR.nil, HQ.out.2.2.1.then H2.out⟩
      | true =>
        clear m0 m1 m2 m3 m4 m5 m6 m7 m8 m9 m10 m11
        have hkk := of_decide_eq_true HKb.out.symm
        have hwU : IntKind.i64.wrap (U : Int) = (U : Int) := w64 _ (by omega) (by omega)
        have hSB : ∀ W, Fr No w2 W → (W.heap[g]? = some (.cells #[.int .i64 K, .int .u32 (U : Int), .int .i64 F, .int .u32 (S : Int), .int .i64 Z, .int .i64 P, .int .i64 Y, .int .i64 X, .int .i64 Q, .int .i64 C, .slice rA rn rc, .slice dA dn dc] 26 (0, 0)) ∧ W.heap[q]? = some (.cells #[.func (.func f) #[] #[], .func (.func f') #[] #[]] 44 (0, 0))) := fun W h => by
          have h2 := H2.out.then h
          exact ⟨(h2.block g (Array.getElem?_eq_some_iff.1 HQ.out.2.1).1 (fun h => h)).trans HQ.out.2.1, (h2.block q (Array.getElem?_eq_some_iff.1 HQ.out.1).1 (fun h => h)).trans HQ.out.1⟩
        have HSB := hid hSB
        have HW2 := hid (HQ.out.2.2.1.then H2.out)
        clear hSB
        go_upto_region 4 with fail
        go_cut [6] (fun s6 wx => ∃ A n c vs, s6 = .slice A n c ∧ vs.length = n ∧ n ≤ 100 ∧ Rd (fun v => v) wx A vs ∧ EachS wx vs ([putBE 1 K, putBE 4 (U : Int)] ++ segParts (⟨K, U, F, S, Z, P, Y, X, Q, C, R, D⟩ : MsgS)) ∧ Fr No w2 wx)
        case first =>
          rcases formAt_litsW HFF.out with rfl | rfl | rfl | rfl | rfl
          all_goals
            refine wp_region_held_drew (S := (fun W' => W'.heap[g]? = some (.cells #[.int .i64 K, .int .u32 (U : Int), .int .i64 F, .int .u32 (S : Int), .int .i64 Z, .int .i64 P, .int .i64 Y, .int .i64 X, .int .i64 Q, .int .i64 C, .slice rA rn rc, .slice dA dn dc] 26 (0, 0)) ∧ W'.heap[q]? = some (.cells #[.func (.func _) #[] #[], .func (.func f') #[] #[]] 44 (0, 0)))) (by kernel_rfl) (HSB.out _ ((Fr.refl No w2).drew)) (fun hHeld => ?_)
            refine takeD (i := 0) (d := some 24) (v := ?_) rfl rfl (by kernel_rfl) (by kernel_rfl) (by kernel_rfl) (fun _ _ _ h => h) (by rfl) ?_ (by assumption) ?_
            rotate_left
            · intro w' hSw
              obtain ⟨c0, c1, c2, c3, c4, c5, c6, c7, c8, c9, c10, c11⟩ := blk12 hSw.1
              obtain ⟨x0, x1, y0, y1⟩ := blk2f hSw.2
              clear hSw
              go_simp
              try with_reducible rfl
            try simp only [Act.put, List.setIfInBounds_toArray, List.set_cons_zero, List.set_cons_succ]
            refine takeD (i := 1) (d := some 25) (v := ?_) rfl rfl (by kernel_rfl) (by kernel_rfl) (by kernel_rfl) (fun _ _ _ h => h) (by rfl) ?_ (by assumption) ?_
            rotate_left
            · intro w' hSw
              obtain ⟨c0, c1, c2, c3, c4, c5, c6, c7, c8, c9, c10, c11⟩ := blk12 hSw.1
              obtain ⟨x0, x1, y0, y1⟩ := blk2f hSw.2
              clear hSw
              go_simp
              try with_reducible rfl
            try simp only [Act.put, List.setIfInBounds_toArray, List.set_cons_zero, List.set_cons_succ]
            refine takeD (i := 3) (d := some 27) (v := ?_) rfl rfl (by kernel_rfl) (by kernel_rfl) (by kernel_rfl) (fun _ _ _ h => h) (by rfl) ?_ (by assumption) ?_
            rotate_left
            · intro w' hSw
              obtain ⟨c0, c1, c2, c3, c4, c5, c6, c7, c8, c9, c10, c11⟩ := blk12 hSw.1
              obtain ⟨x0, x1, y0, y1⟩ := blk2f hSw.2
              clear hSw
              go_simp
              try with_reducible rfl
            try simp only [Act.put, List.setIfInBounds_toArray, List.set_cons_zero, List.set_cons_succ]
            refine takeD (i := 4) (d := some 28) (v := ?_) rfl rfl (by kernel_rfl) (by kernel_rfl) (by kernel_rfl) (fun _ _ _ h => h) (by rfl) ?_ (by assumption) ?_
            rotate_left
            · intro w' hSw
              obtain ⟨c0, c1, c2, c3, c4, c5, c6, c7, c8, c9, c10, c11⟩ := blk12 hSw.1
              obtain ⟨x0, x1, y0, y1⟩ := blk2f hSw.2
              clear hSw
              go_simp
              try with_reducible rfl
            try simp only [Act.put, List.setIfInBounds_toArray, List.set_cons_zero, List.set_cons_succ]
            refine takeD (i := 5) (d := some 29) (v := ?_) rfl rfl (by kernel_rfl) (by kernel_rfl) (by kernel_rfl) (fun _ _ _ h => h) (by rfl) ?_ (by assumption) ?_
            rotate_left
            · intro w' hSw
              obtain ⟨c0, c1, c2, c3, c4, c5, c6, c7, c8, c9, c10, c11⟩ := blk12 hSw.1
              obtain ⟨x0, x1, y0, y1⟩ := blk2f hSw.2
              clear hSw
              go_simp
              try with_reducible rfl
            try simp only [Act.put, List.setIfInBounds_toArray, List.set_cons_zero, List.set_cons_succ]
            refine takeD (i := 8) (d := some 32) (v := ?_) rfl rfl (by kernel_rfl) (by kernel_rfl) (by kernel_rfl) (fun _ _ _ h => h) (by rfl) ?_ (by assumption) ?_
            rotate_left
            · intro w' hSw
              obtain ⟨c0, c1, c2, c3, c4, c5, c6, c7, c8, c9, c10, c11⟩ := blk12 hSw.1
              obtain ⟨x0, x1, y0, y1⟩ := blk2f hSw.2
              clear hSw
              go_simp
              try with_reducible rfl
            try simp only [Act.put, List.setIfInBounds_toArray, List.set_cons_zero, List.set_cons_succ]
            refine takeD (i := 9) (d := some 33) (v := ?_) rfl rfl (by kernel_rfl) (by kernel_rfl) (by kernel_rfl) (fun _ _ _ h => h) (by rfl) ?_ (by assumption) ?_
            rotate_left
            · intro w' hSw
              obtain ⟨c0, c1, c2, c3, c4, c5, c6, c7, c8, c9, c10, c11⟩ := blk12 hSw.1
              obtain ⟨x0, x1, y0, y1⟩ := blk2f hSw.2
              clear hSw
              go_simp
              try with_reducible rfl
            try simp only [Act.put, List.setIfInBounds_toArray, List.set_cons_zero, List.set_cons_succ]
            refine takeD (i := 10) (d := some 34) (v := ?_) rfl rfl (by kernel_rfl) (by kernel_rfl) (by kernel_rfl) (fun _ _ _ h => h) (by rfl) ?_ (by assumption) ?_
            rotate_left
            · intro w' hSw
              obtain ⟨c0, c1, c2, c3, c4, c5, c6, c7, c8, c9, c10, c11⟩ := blk12 hSw.1
              obtain ⟨x0, x1, y0, y1⟩ := blk2f hSw.2
              clear hSw
              go_simp
              try with_reducible rfl
            try simp only [Act.put, List.setIfInBounds_toArray, List.set_cons_zero, List.set_cons_succ]
            refine oneD (i := 2) (by kernel_rfl) rfl (fun K0 hK => ?_)
            go_simp
            go_at_call 19
            refine (sbig2_calls 1 K 1 cut8_1 _ (by omega)).mono ?_
            rintro e w3 ⟨A3, c3, rfl, N3, G3⟩
            refine hK.out _ _ (HSB.out w3 (((Fr.refl No w2).drew).then N3.out.2.2.2)) (fun hHeld => ?_)
            clear hK K0
            try simp only [Act.put, List.setIfInBounds_toArray, List.set_cons_zero, List.set_cons_succ]
            refine oneD (i := 6) (by kernel_rfl) rfl (fun K0 hK => ?_)
            go_simp
            go_at_call 19
            refine (sbig2_calls 4 (U : Int) 4 cut8_4 _ (by omega)).mono ?_
            rintro e w4 ⟨A4, c4, rfl, N4, G4⟩
            refine hK.out _ _ (HSB.out w4 ((((Fr.refl No w2).drew).then N3.out.2.2.2).then N4.out.2.2.2)) (fun hHeld => ?_)
            clear hK K0
            try simp only [Act.put, List.setIfInBounds_toArray, List.set_cons_zero, List.set_cons_succ]
            have hw24 : Fr No w2 w4 := (((Fr.refl No w2).drew).then N3.out.2.2.2).then N4.out.2.2.2
            have h34 : EachS w4 [.slice A3 1 c3, .slice A4 4 c4] [putBE 1 K, putBE 4 (U : Int)] := ⟨EachS.one N3.out.1 (N3.out.2.1.fr0 N4.out.2.2.2), EachS.one N4.out.1 N4.out.2.1, trivial⟩
            have H4 := hid (And.intro hw24 h34)
            clear N3 G3 N4 G4 hw24 h34
            refine wpAnyH_ready (rs := [7, 11]) (by kernel_rfl) (by simp) (AllReadyH.cons rfl (fun K0 hK => ?_) (AllReadyH.cons rfl (fun K0 hK => ?_) AllReadyH.nil))
            · go_simp
              have hb5 := heap_new w4 (.cells #[.slice A3 1 c3, .slice A4 4 c4] 24)
              have hrow := Row.new w4 1 2 [.slice A3 1 c3, .slice A4 4 c4] 24 rfl (by omega)
              have hf45 : Fr No w4 (w4.alloc (.cells #[.slice A3 1 c3, .slice A4 4 c4] 24)) := (Fr.refl No w4).alloc _
              obtain ⟨w5, hw5⟩ : ∃ W, W = w4.alloc (.cells #[.slice A3 1 c3, .slice A4 4 c4] 24) := ⟨_, rfl⟩
              rw [← hw5]
              rw [← hw5] at hb5 hf45
              have hrow : Row w5 1 (.slice (some ⟨w4.heap.size, 0, none⟩) 2 2) (some w4.heap.size) 2 [.slice A3 1 c3, .slice A4 4 c4] := by rw [hw5]; exact hrow
              have H5 := hid (And.intro hb5 (And.intro hrow hf45))
              clear hb5 hrow hf45 hw5
              refine hK.out _ _ (HSB.out _ (H4.out.1.then H5.out.2.2)) (fun hHeld => ?_)
              clear hK K0
              try simp only [Act.put, List.setIfInBounds_toArray, List.set_cons_zero, List.set_cons_succ]
              refine oneD (i := 11) (by kernel_rfl) rfl (fun K0 hK => ?_)
              go_simp
              refine (wparts_calls K U F S Z P Y X Q C R D rA dA rn rc dn dc w5 _ f' HFF.out HRB.out.symm hS HM.out.1 HM.out.2.1 (HM.out.2.2.1.fr (HW2.out.then (H4.out.1.then H5.out.2.2)) (fun _ _ h => h)) (HM.out.2.2.2.fr0 (HW2.out.then (H4.out.1.then H5.out.2.2)))).mono ?_
              rintro e w6 ⟨A6, n6, c6, vs6, rfl, hn6, hc6, hr6, he6, hf6⟩
              have H6 := hid (And.intro hn6 (And.intro hc6 (And.intro hr6 (And.intro he6 hf6))))
              clear hn6 hc6 hr6 he6 hf6
              refine hK.out _ _ (HSB.out _ ((H4.out.1.then H5.out.2.2).then H6.out.2.2.2.2)) (fun hHeld => ?_)
              clear hK K0
              try simp only [Act.put, List.setIfInBounds_toArray, List.set_cons_zero, List.set_cons_succ]
              have hn10 : n6 ≤ 10 := by
                have := H6.out.2.2.2.1.len
                have h2 := segParts_len _ HRB.out.symm
                rw [H6.out.1] at this
                omega
              have HA := hid (And.intro (H5.out.2.1.fr H6.out.2.2.2.2 (fun _ _ h => h)) (And.intro ((H6.out.2.2.2.2.block w4.heap.size (Array.getElem?_eq_some_iff.1 H5.out.1).1 (fun h => h)).trans H5.out.1) (And.intro ((H4.out.2.fr0 (H5.out.2.2.then H6.out.2.2.2.2)).append H6.out.2.2.2.1) (And.intro (show Cells w6 A6 vs6 by have := Rd.cells.1 H6.out.2.2.1; rwa [List.map_id'] at this) (And.intro ((H4.out.1.then H5.out.2.2).then H6.out.2.2.2.2) (And.intro H4.out.1.size hn10))))))
              clear hn10
              refine oneD (i := 12) (by kernel_rfl) rfl (fun K0 hK => ?_)
              refine step_app slSl rfl (.tmp 31) (.tmp 35) rfl rfl HA.out.1 rfl (show vs6.length = n6 * 1 by rw [H6.out.1, Nat.mul_one]) HA.out.2.2.2.1 (oneSl H6.out.2.2.2.1) (by have := HA.out.2.2.2.2.2.2; omega) (by have := HA.out.2.2.2.2.2.2; omega) ?_
              intro A7 c7 w7 ob7 hv7 hf7 hob7
              have hf27 : Fr No w2 w7 := HA.out.2.2.2.2.1.fresh hf7 (fun k hk => by injection hk with hk; have := HA.out.2.2.2.2.2.1; omega)
              have he7 : EachS w7 ([.slice A3 1 c3, .slice A4 4 c4] ++ vs6) ([putBE 1 K, putBE 4 (U : Int)] ++ segParts (⟨K, U, F, S, Z, P, Y, X, Q, C, R, D⟩ : MsgS)) := EachS.keepS HA.out.2.1 hf7 HA.out.2.2.1
              obtain ⟨A7', c7', e7, _, hc7, _⟩ := hv7.cells
              injection e7 with e7 _ _
              subst e7
              have H7 := hid (And.intro hf27 (And.intro he7 hc7))
              have hn2 : ([.slice A3 1 c3, .slice A4 4 c4] ++ vs6 : List Value).length = 2 + n6 := by rw [List.length_append, H6.out.1]; rfl
              have hn10 : 2 + n6 ≤ 100 := by have := HA.out.2.2.2.2.2.2; omega
              clear hv7 hf7 hob7 hf27 he7 hc7
              refine hK.out _ _ (HSB.out _ H7.out.1) (fun hHeld => ?_)
              clear hK K0
              try simp only [Act.put, List.setIfInBounds_toArray, List.set_cons_zero, List.set_cons_succ]
              refine takeD (i := 13) (d := some 6) (v := ?_) rfl rfl (by kernel_rfl) (by kernel_rfl) (by kernel_rfl) (fun _ _ _ h => h) (by rfl) ?_ (by assumption) ?_
              rotate_left
              · intro w' hSw
                obtain ⟨c0, c1, c2, c3, c4, c5, c6, c7, c8, c9, c10, c11⟩ := blk12 hSw.1
                obtain ⟨x0, x1, y0, y1⟩ := blk2f hSw.2
                clear hSw
                go_simp
                try with_reducible rfl
              try simp only [Act.put, List.setIfInBounds_toArray, List.set_cons_zero, List.set_cons_succ]
              refine wpAnyH_done (by kernel_rfl) ?_ _
              clear hHeld
              go_wp2_with fail
              go_meet
              exact ⟨_, _, _, _, rfl, hn2, hn10, Rd.cells.2 (by rw [List.map_id']; exact H7.out.2.2), H7.out.2.1, H7.out.1⟩
            · go_simp
              refine (wparts_calls K U F S Z P Y X Q C R D rA dA rn rc dn dc w4 _ f' HFF.out HRB.out.symm hS HM.out.1 HM.out.2.1 (HM.out.2.2.1.fr (HW2.out.then H4.out.1) (fun _ _ h => h)) (HM.out.2.2.2.fr0 (HW2.out.then H4.out.1))).mono ?_
              rintro e w6 ⟨A6, n6, c6, vs6, rfl, hn6, hc6, hr6, he6, hf6⟩
              have H6 := hid (And.intro hn6 (And.intro hc6 (And.intro hr6 (And.intro he6 hf6))))
              clear hn6 hc6 hr6 he6 hf6
              refine hK.out _ _ (HSB.out _ (H4.out.1.then H6.out.2.2.2.2)) (fun hHeld => ?_)
              clear hK K0
              try simp only [Act.put, List.setIfInBounds_toArray, List.set_cons_zero, List.set_cons_succ]
              refine oneD (i := 7) (by kernel_rfl) rfl (fun K0 hK => ?_)
              go_simp
              have hb5 := heap_new w6 (.cells #[.slice A3 1 c3, .slice A4 4 c4] 24)
              have hrow := Row.new w6 1 2 [.slice A3 1 c3, .slice A4 4 c4] 24 rfl (by omega)
              have hf45 : Fr No w6 (w6.alloc (.cells #[.slice A3 1 c3, .slice A4 4 c4] 24)) := (Fr.refl No w6).alloc _
              obtain ⟨w5, hw5⟩ : ∃ W, W = w6.alloc (.cells #[.slice A3 1 c3, .slice A4 4 c4] 24) := ⟨_, rfl⟩
              rw [← hw5]
              rw [← hw5] at hb5 hf45
              have hrow : Row w5 1 (.slice (some ⟨w6.heap.size, 0, none⟩) 2 2) (some w6.heap.size) 2 [.slice A3 1 c3, .slice A4 4 c4] := by rw [hw5]; exact hrow
              have hn10 : n6 ≤ 10 := by
                have := H6.out.2.2.2.1.len
                have h2 := segParts_len _ HRB.out.symm
                rw [H6.out.1] at this
                omega
              have HA := hid (And.intro hrow (And.intro hb5 (And.intro (((H4.out.2.fr0 H6.out.2.2.2.2).append H6.out.2.2.2.1).fr0 hf45) (And.intro (show Cells w5 A6 vs6 by have := Rd.cells.1 (H6.out.2.2.1.fr0 hf45); rwa [List.map_id'] at this) (And.intro ((H4.out.1.then H6.out.2.2.2.2).then hf45) (And.intro (Nat.le_trans H4.out.1.size H6.out.2.2.2.2.size) hn10))))))
              clear hb5 hrow hf45 hw5 hn10
              refine hK.out _ _ (HSB.out _ HA.out.2.2.2.2.1) (fun hHeld => ?_)
              clear hK K0
              try simp only [Act.put, List.setIfInBounds_toArray, List.set_cons_zero, List.set_cons_succ]
              refine oneD (i := 12) (by kernel_rfl) rfl (fun K0 hK => ?_)
              refine step_app slSl rfl (.tmp 31) (.tmp 35) rfl rfl HA.out.1 rfl (show vs6.length = n6 * 1 by rw [H6.out.1, Nat.mul_one]) HA.out.2.2.2.1 (oneSl H6.out.2.2.2.1) (by have := HA.out.2.2.2.2.2.2; omega) (by have := HA.out.2.2.2.2.2.2; omega) ?_
              intro A7 c7 w7 ob7 hv7 hf7 hob7
              have hf27 : Fr No w2 w7 := HA.out.2.2.2.2.1.fresh hf7 (fun k hk => by injection hk with hk; have := HA.out.2.2.2.2.2.1; omega)
              have he7 : EachS w7 ([.slice A3 1 c3, .slice A4 4 c4] ++ vs6) ([putBE 1 K, putBE 4 (U : Int)] ++ segParts (⟨K, U, F, S, Z, P, Y, X, Q, C, R, D⟩ : MsgS)) := EachS.keepS HA.out.2.1 hf7 HA.out.2.2.1
              obtain ⟨A7', c7', e7, _, hc7, _⟩ := hv7.cells
              injection e7 with e7 _ _
              subst e7
              have H7 := hid (And.intro hf27 (And.intro he7 hc7))
              have hn2 : ([.slice A3 1 c3, .slice A4 4 c4] ++ vs6 : List Value).length = 2 + n6 := by rw [List.length_append, H6.out.1]; rfl
              have hn10 : 2 + n6 ≤ 100 := by have := HA.out.2.2.2.2.2.2; omega
              clear hv7 hf7 hob7 hf27 he7 hc7
              refine hK.out _ _ (HSB.out _ H7.out.1) (fun hHeld => ?_)
              clear hK K0
              try simp only [Act.put, List.setIfInBounds_toArray, List.set_cons_zero, List.set_cons_succ]
              refine takeD (i := 13) (d := some 6) (v := ?_) rfl rfl (by kernel_rfl) (by kernel_rfl) (by kernel_rfl) (fun _ _ _ h => h) (by rfl) ?_ (by assumption) ?_
              rotate_left
              · intro w' hSw
                obtain ⟨c0, c1, c2, c3, c4, c5, c6, c7, c8, c9, c10, c11⟩ := blk12 hSw.1
                obtain ⟨x0, x1, y0, y1⟩ := blk2f hSw.2
                clear hSw
                go_simp
                try with_reducible rfl
              try simp only [Act.put, List.setIfInBounds_toArray, List.set_cons_zero, List.set_cons_succ]
              refine wpAnyH_done (by kernel_rfl) ?_ _
              clear hHeld
              go_wp2_with fail
              go_meet
              exact ⟨_, _, _, _, rfl, hn2, hn10, Rd.cells.2 (by rw [List.map_id']; exact H7.out.2.2), H7.out.2.1, H7.out.1⟩
        case rest =>
          obtain ⟨A5, n5, c5, vs5, rfl, hn5, hn5b, hr5, he5, hf5⟩ := hcut
          have H5 := hid (And.intro hn5 (And.intro hr5 (And.intro he5 hf5)))
          clear hn5 hr5 he5 hf5
          obtain ⟨o, ho⟩ : ∃ o, o = segO (⟨K, U, F, S, Z, P, Y, X, Q, C, R, D⟩ : MsgS) := ⟨_, rfl⟩
          have hol : o.length ≤ 1100 := by rw [ho]; exact segO_lt _ HRB.out.symm
          have hfl : ([putBE 1 K, putBE 4 (U : Int)] ++ segParts (⟨K, U, F, S, Z, P, Y, X, Q, C, R, D⟩ : MsgS)).flatten = o := by rw [ho]; rfl
          have h5l : 5 ≤ o.length := by rw [ho]; exact segO_len _
          have HO := hid (And.intro ho hfl)
          clear ho hfl
          go_wp2_with fail
          refine (concat_calls A5 n5 c5 vs5 _ H5.out.1 wc (EachS.rdS H5.out.2.2.1 H5.out.2.1) (by rw [HO.out.2]; omega) (by omega)).mono ?_
          rw [HO.out.2]
          rintro e w6 ⟨v6, rfl, hnew6⟩
          obtain ⟨A6, n6, c6, rfl, N6⟩ := hnew6.use
          clear hnew6
          have hn6 : n6 ≤ 1100 := by rw [← N6.out.1]; exact hol
          go_wp2_with fail
          refine (of_calls _ 1 1 [.slice A6 n6 c6] [o] rfl _ (rdS1 rfl N6.out.1 N6.out.2.1) (by simp only [List.flatten_cons, List.flatten_nil, List.append_nil]; omega) (by decide)).mono ?_
          rw [show [o].flatten = o by simp]
          rintro e w7 ⟨rfl, hw7⟩
          rw [hw7]
          clear hw7 w7
          have hcl := crcM_lt 0 o
          obtain ⟨CC, hC⟩ : ∃ C, C = crcOf o := ⟨_, rfl⟩
          have hCl : CC < 4294967296 := by rw [hC]; exact hcl
          have HC := hid hC
          rw [← hC]
          clear hC hcl
          have hwC : IntKind.i64.wrap (CC : Int) = (CC : Int) := w64 _ (by omega) (by omega)
          go_wp2_with fail
          refine (putLittle_calls 4 (CC : Int) _ (by omega)).mono ?_
          rw [cut8_4]
          rintro e w8 ⟨v8, rfl, hnew8⟩
          obtain ⟨A8, n8, c8, rfl, N8⟩ := hnew8.use
          clear hnew8
          obtain rfl : n8 = 4 := by rw [← N8.out.1, putLE_length]
          obtain ⟨ob6, hrow6, hob6⟩ := N6.out.2.2.2.2
          have hF68 : Fr No w6 w8 := by
            repeat (first | with_reducible exact Fr.refl _ _ | with_reducible refine Fr.then ?_ N8.out.2.2.2.1 | with_reducible refine Fr.drew ?_ | with_reducible refine Fr.alloc ?_ _)
          have HR6 := hid (And.intro (hrow6.fr hF68 (fun _ _ h => h)) (And.intro hob6 hF68))
          clear hrow6 hob6 hF68
          go_wp2_with (at_builtin; refine wpList_app slU8 rfl (.tmp 39) (.tmp 44) rfl rfl HR6.out.1 rfl (by rw [List.length_map, N8.out.1]) (Rd.cells.1 N8.out.2.1) (oneB _) (by omega) (by omega) ?_; intro A9 c9 w9 ob9 hrow9 hfr9 hob9; have H9 := hid (And.intro hrow9 (And.intro hfr9 hob9)); clear hrow9 hfr9 hob9)
          have hsl : (sealB o).length = n6 + 4 := by rw [sealB_length, N6.out.1]
          have hrow9 : Row w9 1 (.slice A9 (n6 + 4) c9) ob9 (n6 + 4) ((sealB o).map B) := by
            rw [show (sealB o).map B = o.map B ++ (putLE 4 (CC : Int)).map B by rw [HC.out, ← List.map_append]; rfl]
            exact H9.out.1
          have hf9 : Fr No wc w9 := (N6.out.2.2.2.1.then HR6.out.2.2).fresh H9.out.2.1 HR6.out.2.1
          have hf09 : Fr No w w9 := (HW2.out.then H5.out.2.2.2).then hf9
          have hob9 : ∀ k, ob9 = some k → w.heap.size ≤ k := fun k hk => by
            have h1 := (HW2.out.then H5.out.2.2.2).size
            have h2 := N6.out.2.2.2.1.size
            have h3 := HR6.out.2.2.size
            rcases H9.out.2.2 with h | ⟨j, h, hj⟩
            · have := HR6.out.2.1 k (by rw [← h]; exact hk)
              omega
            · rw [h] at hk; injection hk with hk; omega
          have HX := hid (And.intro hsl (And.intro hrow9 (And.intro hf9 (And.intro hf09 hob9))))
          clear hsl hrow9 hf9 hf09 hob9
          (try go_wp2_with fail)
          refine (sread_calls A9 (sealB o) (n6 + 4) c9 w9 HX.out.1 HX.out.2.1.rd.1 HX.out.2.1.rd.2.1 (by omega)).mono ?_
          rw [(srd_seal h5l).1, (srd_seal h5l).2]
          cases hp : prB o with
          | false =>
            have HE := hid (show swrE M = 1 ∧ swrB M = [] by
              have e : swrE M = 1 := by rw [HMM.out]; unfold swrE; rw [← HO.out.1, hp]; simp
              exact ⟨e, by unfold swrB; rw [e]; rfl⟩)
            simp only [Bool.false_eq_true, if_false]
            rintro e w10 ⟨rA', rn', rc', dA', dn', dc', rfl, hrm, hf10⟩
            have H10 := hid hf10
            clear hrm hf10 hp
            unfold mC
            go_wp2_with fail
            go_ret2
            rw [HE.out.1, HE.out.2]
            exact ⟨_, rfl, NewR.nil, (HX.out.2.2.2.1.then H10.out).alloc _⟩
          | true =>
            obtain ⟨⟨K', U', F', S', Z', P', Y', X', Q', C', R', D'⟩, hm'⟩ : ∃ m', m' = mO o := ⟨_, rfl⟩
            have hus := (read_back h5l hp).2.2
            simp only [if_true]
            rw [← hm'] at hus ⊢
            simp only at hus
            rintro e w10 ⟨rA', rn', rc', dA', dn', dc', rfl, hrm, hf10⟩
            have hdec : swrE M = (if decide ((⟨K, U, F, S, Z, P, Y, X, Q, C, R, D⟩ : MsgS) = ⟨K', U', F', S', Z', P', Y', X', Q', C', R', D'⟩) then 0 else 1) := by
              rw [HMM.out]
              unfold swrE
              simp only
              rw [← HKb.out, ← HRB.out, ← HO.out.1, hp, ← hm']
              by_cases h : (⟨K', U', F', S', Z', P', Y', X', Q', C', R', D'⟩ : MsgS) = (⟨K, U, F, S, Z, P, Y, X, Q, C, R, D⟩ : MsgS)
              · simp [h]
              · have h' : ¬ (⟨K, U, F, S, Z, P, Y, X, Q, C, R, D⟩ : MsgS) = ⟨K', U', F', S', Z', P', Y', X', Q', C', R', D'⟩ := fun e => h e.symm
                simp [h, h']
            have HDEC := hid hdec
            have H10 := hid (And.intro hrm hf10)
            obtain ⟨hU', hS'⟩ := hus
            have hbg10 := (HSB.out w10 (H5.out.2.2.2.then (HX.out.2.2.1.then hf10))).1
            clear hrm hf10 hp hm' hdec
            have hX2 : ∀ ob, (w10.alloc ob).heap[g]? = some (.cells #[.int .i64 K, .int .u32 (U : Int), .int .i64 F, .int .u32 (S : Int), .int .i64 Z, .int .i64 P, .int .i64 Y, .int .i64 X, .int .i64 Q, .int .i64 C, .slice rA rn rc, .slice dA dn dc] 26 (0, 0)) := fun ob => (((Fr.refl No w10).alloc ob).block g (Array.getElem?_eq_some_iff.1 hbg10).1 (fun h => h)).trans hbg10
            have m0 := fun ob => (blk12 (hX2 ob)).1
            have m1 := fun ob => (blk12 (hX2 ob)).2.1
            have m2 := fun ob => (blk12 (hX2 ob)).2.2.1
            have m3 := fun ob => (blk12 (hX2 ob)).2.2.2.1
            have m4 := fun ob => (blk12 (hX2 ob)).2.2.2.2.1
            have m5 := fun ob => (blk12 (hX2 ob)).2.2.2.2.2.1
            have m6 := fun ob => (blk12 (hX2 ob)).2.2.2.2.2.2.1
            have m7 := fun ob => (blk12 (hX2 ob)).2.2.2.2.2.2.2.1
            have m8 := fun ob => (blk12 (hX2 ob)).2.2.2.2.2.2.2.2.1
            have m9 := fun ob => (blk12 (hX2 ob)).2.2.2.2.2.2.2.2.2.1
            have m10 := fun ob => (blk12 (hX2 ob)).2.2.2.2.2.2.2.2.2.2.1
            have m11 := fun ob => (blk12 (hX2 ob)).2.2.2.2.2.2.2.2.2.2.2
            clear hX2 hbg10
            unfold mC
            go_wp2_with fail
            have hFS : ∀ ob, Fr No w (w10.alloc ob) := fun ob => (HX.out.2.2.2.1.then H10.out.2).alloc ob
            refine (spare_calls K U F S Z P Y X Q C R D rA dA rn rc dn dc K' U' F' S' Z' P' Y' X' Q' C' R' D' rA' dA' rn' rc' dn' dc' _ hU hS hU' hS' HM.out.1 HM.out.2.1 (HM.out.2.2.1.fr (hFS _) (fun _ _ h => h)) (HM.out.2.2.2.fr0 (hFS _)) H10.out.1.rl H10.out.1.dl (H10.out.1.rd.fr ((Fr.refl No w10).alloc _) (fun _ _ h => h)) (H10.out.1.dd.fr0 ((Fr.refl No w10).alloc _)) hl hl2).mono ?_
            rintro e w11 ⟨rfl, hf11⟩
            have H11 := hid (And.intro hf11 (HDEC.out))
            obtain ⟨eb, heb⟩ : ∃ b, b = decide ((⟨K, U, F, S, Z, P, Y, X, Q, C, R, D⟩ : MsgS) = ⟨K', U', F', S', Z', P', Y', X', Q', C', R', D'⟩) := ⟨_, rfl⟩
            have HEB := hid heb
            rw [← heb]
            clear hf11 heb m0 m1 m2 m3 m4 m5 m6 m7 m8 m9 m10 m11 hFS
            cases eb with
            | false =>
              have HE := hid (show swrE M = 1 ∧ swrB M = [] by
                have e : swrE M = 1 := by rw [HDEC.out, ← HEB.out]; rfl
                exact ⟨e, by unfold swrB; rw [e]; rfl⟩)
              go_wp2_with fail
              go_ret2
              rw [HE.out.1, HE.out.2]
              exact ⟨_, rfl, NewR.nil, ((HX.out.2.2.2.1.then H10.out.2).alloc _).then H11.out.1⟩
            | true =>
              have HE := hid (show swrE M = 0 ∧ swrB M = sealB o by
                have e : swrE M = 0 := by rw [HDEC.out, ← HEB.out]; rfl
                exact ⟨e, by unfold swrB; rw [e, if_pos rfl, HMM.out, ← HO.out.1]⟩)
              go_wp2_with fail
              go_ret2
              rw [HE.out.1, HE.out.2]
              exact ⟨_, rfl, New.mk' rfl HX.out.1 (HX.out.2.1.fr (((H10.out.2).alloc _).then H11.out.1) (fun _ _ h => h)) HX.out.2.2.2.2 (((HX.out.2.2.2.1.then H10.out.2).alloc _).then H11.out.1)⟩
end Go.Proofs.Ytamkfjbdcjkchaa

/- AdamLeft's walk. -/
import Derived.Test.YtkhglmmidgfliaaALaw3
import Derived.Test.YtkhglmmidgfliaaOnce
import Derived.Test.YtkhglmmidgfliaaRegIn
namespace Go.Proofs.Ytkhglmmidgfliaa
open Go.RowKit Go.Proofs.HK
set_option linter.unusedVariables false
set_option linter.unusedSimpArgs false
attribute [local go_sem] max2_int min2_int max_two min_two
attribute [local go_sem] Oper.semAt_some

/-- The blocks of a slice of lines that is still written: its own cell, its row, its lines. -/
def TL (g : Nat) (ob : Option Nat) (xs : List LN) : Nat → Prop := fun b => b = g ∨ ob = some b ∨ ∃ x ∈ xs, ∃ ad, x.A = some ad ∧ ad.block = b
theorem NewL.frT {w w' : World} {lo g : Nat} {its : List (Nat × List (Nat × Nat))} {A : Option Addr} {k c : Nat} {ob : Option Nat} {xs : List LN} {S : Nat → Prop} (h : NewL w lo its A k c ob xs) (hf : Fr S w w') (hS : ∀ b, TL g ob xs b → ¬ S b) : NewL w' lo its A k c ob xs :=
  ⟨h.1.fr hf (fun j hj => hS j (.inr (.inl hj))), h.2.1, h.2.2.1.fr hf (fun x hx ad e => hS _ (.inr (.inr ⟨x, hx, ad, e, rfl⟩))), h.2.2.2⟩
theorem NewL.tl {w : World} {lo g : Nat} {its : List (Nat × List (Nat × Nat))} {A : Option Addr} {k c : Nat} {ob : Option Nat} {xs : List LN} (h : NewL w lo its A k c ob xs) {b : Nat} (hb : TL g ob xs b) : b = g ∨ lo ≤ b ∧ b < w.heap.size := by
  rcases hb with e | e | ⟨x, hx, ad, e, rfl⟩
  · exact .inl e
  · exact .inr ⟨h.2.2.2 b e, h.1.lt e⟩
  · exact .inr ⟨((h.2.2.1 x hx).2 ad e).1, ((h.2.2.1 x hx).2 ad e).2.1⟩
/-- The block of a row that is handed over. -/
theorem row_blk {w : World} {p : Value} {A : Option Addr} {n c : Nat} {ob : Option Nat} {cs : List Value} (h : Row w 2 (.slice A n c) ob n cs) : ∀ j, ob = some j → blkOf #[p, .slice A n c] j := fun j hj => by
  obtain ⟨_, _, h3⟩ := h
  rcases h3 with ⟨_, _, e⟩ | ⟨g, o, cap, e, e2, _⟩
  · rw [e] at hj; cases hj
  · injection e with e1 _ _
    subst e1
    rw [e2] at hj
    injection hj with hj
    exact ⟨1, ⟨g, o, none⟩, n, c, rfl, hj⟩
/-- Behind k rounds of the first walk: so many lines are copied. -/
def LeftI (w3 : World) (g lo : Nat) (its : List (Nat × List (Nat × Nat))) (stop k : Nat) (T : Nat → Prop) (X : World) : Prop :=
  ∃ A c ob xs, T = TL g ob xs ∧ X.heap[g]? = some (.cells #[.slice A k c] 27 (0, 0)) ∧ k ≤ stop ∧ NewL X lo (its.take k) A k c ob xs ∧ Fr No w3 X
def LeftX (w3 : World) (g lo : Nat) (its : List (Nat × List (Nat × Nat))) (stop : Nat) (c : Code) (k : Nat) (X : World) : Prop :=
  c = .exit 0 ∧ k = stop ∧ ∃ T, LeftI w3 g lo its stop k T X
theorem LeftI.fr {w3 : World} {g lo stop k : Nat} {its : List (Nat × List (Nat × Nat))} {T : Nat → Prop} {X Y : World} (h : LeftI w3 g lo its stop k T X) {j : Nat} (hf : Fr (One j) X Y) (hj : j < lo) (hg : g ≠ j) (hw : w3.heap.size ≤ j) : LeftI w3 g lo its stop k T Y := by
  obtain ⟨A, c, ob, xs, h0, h1, hk, h2, h3⟩ := h
  exact ⟨A, c, ob, xs, h0, (hf.block g (Array.getElem?_eq_some_iff.1 h1).1 (fun e => hg e)).trans h1, hk, h2.fr hf (fun b hb e => by have e : b = j := e; omega), h3.trans hf (fun b hb e => by have e : b = j := e; omega)⟩
theorem rowCells {w : World} {sz : Nat} {A : Option Addr} {n c : Nat} {ob : Option Nat} {cs : List Value} (h : Row w sz (.slice A n c) ob n cs) : Cells w A cs := by
  obtain ⟨A', c', e, _, hc, _⟩ := h.cells
  injection e with e1 _ _
  subst e1
  exact hc
theorem oneSpot (l : List (Nat × Nat)) : ∀ u ∈ spotC l, u.oneCell' = true := by
  intro u hu
  obtain ⟨s, _, hu⟩ := List.mem_flatMap.1 hu
  simp at hu
  rcases hu with rfl | rfl <;> rfl
theorem LnsIn.take {w : World} {A : Option Addr} {xs : List LN} (h : LnsIn w A xs) (k : Nat) : LnsIn w A (xs.take k) := by
  refine ⟨?_, fun x hx => h.2 x (List.mem_of_mem_take hx)⟩
  have e0 : lnsC xs = lnsC (xs.take k) ++ lnsC (xs.drop k) := by
    conv => lhs; rw [← List.take_append_drop k xs]
    simp only [lnsC, List.flatMap_append]
  have e : lnsC (xs.take k) = (lnsC xs).take ((xs.take k).length * 2) := by
    rw [e0, List.take_left' (lnsC_length _)]
  rw [e]
  exact h.1.take _
theorem mn_left (a b : Nat) (h : a ≤ b) : mn (a : Int) (b : Int) = (a : Int) := by unfold mn; split <;> omega
theorem mn_right (a b : Nat) (h : b < a) : mn (a : Int) (b : Int) = (b : Int) := by unfold mn; split <;> omega
set_option maxRecDepth 100000 in
set_option maxHeartbeats 3200000 in
theorem adamLeft_walk (a b : Int) (laced : Bool) (s : Int) (w : World) (ha : 0 ≤ a ∧ a ≤ 255) (hb : 0 ≤ b ∧ b ≤ 255) (hs : 0 ≤ s ∧ s ≤ 255) : Calls Try.prog 7 #[.int .u8 a, .int .u8 b, .bool laced, .int .u8 s] w fun e w' => e = .returned (.bool true) ∧ Fr No w w' := by
  obtain ⟨ha0, ha1⟩ := ha
  obtain ⟨hb0, hb1⟩ := hb
  obtain ⟨hs0, hs1⟩ := hs
  obtain ⟨stop, rfl⟩ : ∃ n : Nat, s = n := ⟨s.toNat, by omega⟩
  obtain ⟨X, hX⟩ : ∃ X : Nat, 1 + a % 40 = X := ⟨(1 + a % 40).toNat, by omega⟩
  obtain ⟨Y, hY⟩ : ∃ X : Nat, 1 + b % 40 = X := ⟨(1 + b % 40).toNat, by omega⟩
  refine (callsIn_wide (n := 4)).1 (callsIn_of_wp_marks Try.func7 rfl trivial (wpIn_wide.2 ?_) rfl)
  simp only [Try.ntmps7, List.size_toArray, List.length_cons, List.length_nil, Nat.reduceAdd, Nat.reduceSub, Array.replicate_succ, Array.replicate_zero, List.push_toArray, List.append_toArray, List.nil_append, List.cons_append]
  go_wp2_with fail
  refine (fixed14_calls _).mono ?_
  rintro e w1 ⟨rfl, hf1⟩
  obtain ⟨g7, hg7⟩ : ∃ g, g = w.heap.size := ⟨_, rfl⟩
  have hb7 : w1.heap[g7]? = some (.cells #[.int .u8 stop] 5 (0, 0)) := by
    rw [hg7, hf1.block w.heap.size (by rw [World.size_alloc]; omega) (fun h => h)]; exact heap_new _ _
  rw [← hg7]
  have HB7 := hid (And.intro hb7 (And.intro (((Fr.refl No w).alloc _).then hf1) hg7))
  clear hf1 hb7 hg7
  go_wp2_with fail
  refine (lawLines_calls X Y laced _).mono ?_
  rintro e w2 ⟨A2, k2, c2, ob2, xs2, rfl, hN2, hf2⟩
  have hk2 : k2 ≤ 409600 := by rw [← hN2.len]; exact itsOf_le _ _ _
  have H2 := hid (And.intro hN2 hf2)
  clear hN2 hf2
  go_wp2_with fail
  refine (lines_calls X Y laced _).mono ?_
  rintro e w3 ⟨v, rfl, hI, hf3⟩
  obtain ⟨gI, rfl, hseq⟩ := hI.seq 3 (by decide) (psOf_ok X Y laced).1 (psOf_ok X Y laced).2
  obtain ⟨g, hg⟩ : ∃ g, g = w3.heap.size := ⟨_, rfl⟩
  have H3 := hid (And.intro hI (And.intro hf3 (And.intro hseq hg)))
  clear hI hf3 hseq
  go_wp2_with fail
  obtain ⟨w4, hw4⟩ : ∃ w4, w4 = w3.alloc (.cells #[.slice none 0 0] 27) := ⟨_, rfl⟩
  have hs4 : w4.heap.size = g + 1 := by rw [hw4, World.size_alloc, hg]
  have hb4 : w4.heap[g]? = some (.cells #[.slice none 0 0] 27 (0, 0)) := by rw [hw4, hg]; exact heap_new _ _
  have hf4 : Fr No w3 w4 := by rw [hw4]; exact (Fr.refl _ _).alloc _
  rw [← hw4, ← hg]
  obtain ⟨its, hits⟩ : ∃ its, its = itsOf X Y laced := ⟨_, rfl⟩
  have hNle : its.length ≤ 409600 := by rw [hits]; exact itsOf_le _ _ _
  have hget : ∀ (k : Nat) (it : Nat × List (Nat × Nat)), (itemsF 0 (psOf X Y laced))[k]? = some it → its[k]? = some it := fun k it h => by rw [hits]; exact h
  have hlen4 : ∀ it ∈ its, it.2.length ≤ 4096 := fun it h => itsOf_len X Y laced it (by rw [← hits]; exact h)
  have hU : w3.heap.size ≤ g := by omega
  have hb7 : w4.heap[g7]? = some (.cells #[.int .u8 stop] 5 (0, 0)) ∧ g7 < w3.heap.size := by
    have h := ((H2.out.2.then H3.out.2.1).block g7 (Array.getElem?_eq_some_iff.1 HB7.out.1).1 (fun h => h)).trans HB7.out.1
    exact ⟨(hf4.block g7 (Array.getElem?_eq_some_iff.1 h).1 (fun h => h)).trans h, (Array.getElem?_eq_some_iff.1 h).1⟩
  have hseq : SeqT Fence.wide 3 Try.prog 65 #[.pointer (some ⟨gI, 0, none⟩)] its.length (ovOk (psOf X Y laced)) w2.heap.size w3.heap.size w3 := by rw [hits]; exact H3.out.2.2.1
  have H4 := hid (And.intro hb4 (And.intro hf4 (And.intro hget (And.intro hlen4 (And.intro hb7 hg)))))
  have HITS := hid hits
  have HSEQ := hid hseq
  clear hw4 hb4 hits hget hlen4 hb7 hg hseq hX hY
  refine wpIn_wide.1 (wpIn_rangeFunc_T (F := Fence.wide) (n := 4) rfl (by omega) (gf := 65) (lb := #[.pointer (some ⟨gI, 0, none⟩)]) rfl trivial (enters_of Try.func65 (by kernel_rfl) rfl)
    HSEQ.out hf4.size (KeepLU.of_fr hf4 (Nat.le_refl _) (fun _ _ _ h => h)) (by omega)
    (fun k T X => LeftI w3 g (g + 3) its stop k T X)
    (fun c k X => LeftX w3 g (g + 3) its stop c k X) (TL g none []) ?hT0 ?hI ?hIx ?hIT ?h0 ?hOk ?round ?done ?stop)
  case hT0 =>
    rintro b (rfl | e | ⟨x, hx, _⟩)
    · exact ⟨by omega, by omega⟩
    · cases e
    · cases hx
  case hI =>
    intro k T A B h hf
    exact h.fr hf (by omega) (by omega) (by omega)
  case hIx =>
    rintro c k A B ⟨h1, h2, T, h3⟩ hf
    exact ⟨h1, h2, T, h3.fr hf (by omega) (by omega) (by omega)⟩
  case hIT =>
    rintro k T X ⟨A, c, ob, xs, rfl, h1, hk, h2, h3⟩ b hb
    have := h2.tl hb
    exact ⟨by omega, by omega⟩
  case h0 =>
    intro X hf
    exact ⟨none, 0, none, [], rfl, (hf.block g (by omega) (fun h => h)).trans H4.out.1, Nat.zero_le _, NewL.nil _ _, H4.out.2.1.then hf⟩
  case hOk =>
    intro k args X hk hok
    exact ⟨hok.args.1, fun b hb => by have := hok.args.2 b hb; omega, fun X' hf => hok.fr hf (fun b hb e => by have e : b = w4.heap.size + 1 := e; omega)⟩
  case round =>
    rintro k T args X X2 hk ⟨A, c, ob, xs, rfl, h1, hks, h2, h3⟩ hTs hsz ⟨it, A3, n3, c3, ob3, hit, rfl, hl3, hrow3, hob3⟩
    obtain ⟨q0, q1⟩ := blk1lawLines h1
    replace hit := H4.out.2.2.1 _ _ hit
    have hgx : g < X2.heap.size := (Array.getElem?_eq_some_iff.1 h1).1
    have h7 := (h3.block g7 H4.out.2.2.2.2.1.2 (fun h => h)).trans ((H4.out.2.1.block g7 H4.out.2.2.2.2.1.2 (fun h => h)).symm.trans H4.out.2.2.2.2.1.1)
    obtain ⟨r0, r1⟩ := blk1lawLines h7
    have hkl : k < its.length := hk
    have hn4 : n3 ≤ 4096 := by rw [← hl3]; exact H4.out.2.2.2.1 it (List.mem_of_getElem? hit)
    obtain ⟨p, hp⟩ : ∃ p, p = it.1 := ⟨_, rfl⟩
    rw [← hp]
    have HX := hid (And.intro hit (And.intro h1 (And.intro h2 (And.intro h3 (And.intro hTs (And.intro hl3 (And.intro hrow3 (And.intro hob3 (And.intro hp h7)))))))))
    clear hit h1 h2 h3 hTs hl3 hrow3 hob3 hp h7
    simp only [List.zip_toArray, List.zip_cons_cons, List.zip_nil_right, List.foldl_toArray, List.foldl_cons, List.foldl_nil, List.setIfInBounds_toArray, List.set_cons_zero, List.set_cons_succ]
    gi_wp2
    refine ⟨trivial, ?_⟩
    by_cases hst : k = stop
    · have hself : ((k : Int) == (stop : Int)) = true := by rw [beq_iff_eq]; omega
      have HST := hid hst
      clear hst
      gi_wp2
      exact ⟨⟨rfl, HST.out, _, A, c, ob, xs, rfl, HX.out.2.1, hks, HX.out.2.2.1, HX.out.2.2.2.1⟩, Fr.refl _ _⟩
    · have hself : ((k : Int) == (stop : Int)) = false := by rw [beq_eq_false_iff_ne]; omega
      have hks2 : k < stop := by omega
      clear q1 r1 hst
      gi_wp2
      refine wpIn_region_round (S := fun _ => True) (by kernel_rfl) (by kernel_rfl) trivial (fun hHeld => ?_)
      refine take_round (i := 1) (v := ?_) rfl (by kernel_rfl) (by kernel_rfl) (by kernel_rfl) (by rfl) (fun w' hSw => ?_) trivial ?_
      rotate_left
      · go_simp
        try with_reducible rfl
      (try simp only [Act.put, List.setIfInBounds_toArray, List.set_cons_zero, List.set_cons_succ])
      refine take_round (i := 3) (v := ?_) rfl (by kernel_rfl) (by kernel_rfl) (by kernel_rfl) (by rfl) (fun w' hSw => ?_) trivial ?_
      rotate_left
      · go_simp
        try with_reducible rfl
      (try simp only [Act.put, List.setIfInBounds_toArray, List.set_cons_zero, List.set_cons_succ])
      refine wpAnyH_ready (rs := [0, 2]) (by kernel_rfl) (by simp) (AllReadyH.cons rfl (fun K hK => ?_) (AllReadyH.cons rfl (fun K hK => ?_) AllReadyH.nil))
      · skip
        go_simp
        refine hK.out _ _ trivial (fun _ => ?_)
        (try simp only [Act.put, List.setIfInBounds_toArray, List.set_cons_zero, List.set_cons_succ])
        refine one_round (i := 2) (by kernel_rfl) rfl (fun K hK => ?_)
        go_simp
        obtain ⟨V1, hV1⟩ : ∃ V1, V1 = (X2.alloc (.cells #[] 45)).drew := ⟨_, rfl⟩
        obtain ⟨z, hz⟩ : ∃ z, z = X2.heap.size := ⟨_, rfl⟩
        have hfV1 : Fr No X2 V1 := by rw [hV1]; exact ((Fr.refl No X2).alloc _).drew
        have hrV1 : Row V1 2 (.slice (some ⟨z, 0, none⟩) 0 0) (some z) 0 [] := by rw [hV1, hz]; exact (Row.new X2 2 0 [] 45 rfl (by omega)).drew
        rw [← hV1, ← hz]
        have e46 := (hfV1.cellg g 0 hgx (fun h => h)).trans q0
        have HV1 := hid (And.intro hrV1 (And.intro hfV1 hz))
        clear hrV1 hfV1 hV1 hz
        refine hK.out _ _ trivial (fun _ => ?_)
        (try simp only [Act.put, List.setIfInBounds_toArray, List.set_cons_zero, List.set_cons_succ])
        refine one_round (i := 4) (by kernel_rfl) rfl (fun K hK => ?_)
        refine step_app slSpot rfl (.tmp 48) (.tmp 49) rfl rfl HV1.out.1 rfl (m := n3) (c := c3) (ys := spotC it.2) (by rw [spotC_length, HX.out.2.2.2.2.2.1]) ((rowCells HX.out.2.2.2.2.2.2.1).fr HV1.out.2.1 (fun _ _ h => h)) (oneSpot _) (by omega) (by omega) ?_
        intro A5 c5 V2 ob5 hrow5 hfr5 hob5
        rw [Nat.zero_add] at hrow5 ⊢
        rw [List.nil_append] at hrow5
        have hfV2 : Fr No X2 V2 := HV1.out.2.1.fresh hfr5 (fun q hq => by injection hq with hq; have := HV1.out.2.2; omega)
        have hob5' : ∀ q, ob5 = some q → X2.heap.size ≤ q := fun q hq => by
          have h2 := HV1.out.2.2
          have h3 := HV1.out.2.1.size
          rcases hob5 with h | ⟨j, h, hj⟩
          · rw [h] at hq; injection hq with hq; omega
          · rw [h] at hq; injection hq with hq; omega
        clear e46
        have e46 := (hfV2.cellg g 0 hgx (fun h => h)).trans q0
        have HV2 := hid (And.intro hrow5 (And.intro hfV2 hob5'))
        clear hrow5 hfr5 hob5 hfV2 hob5'
        refine hK.out _ _ trivial (fun _ => ?_)
        (try simp only [Act.put, List.setIfInBounds_toArray, List.set_cons_zero, List.set_cons_succ])
        refine take_round (i := 5) (v := ?_) rfl (by kernel_rfl) (by kernel_rfl) (by kernel_rfl) (by rfl) (fun w' hSw => ?_) trivial ?_
        rotate_left
        · go_simp
          try with_reducible rfl
        (try simp only [Act.put, List.setIfInBounds_toArray, List.set_cons_zero, List.set_cons_succ])
        refine one_round (i := 6) (by kernel_rfl) rfl (fun K hK => ?_)
        go_simp
        obtain ⟨V3, hV3⟩ : ∃ V3, V3 = V2.alloc (.cells #[.int .i64 p, .slice A5 n3 c5] 43) := ⟨_, rfl⟩
        obtain ⟨z3, hz3⟩ : ∃ z, z = V2.heap.size := ⟨_, rfl⟩
        have hfV3 : Fr No V2 V3 := by rw [hV3]; exact (Fr.refl No V2).alloc _
        have hcV3 : Cells V3 (some ⟨z3, 0, none⟩) [.int .i64 p, .slice A5 n3 c5] := by rw [hV3, hz3]; exact cells_new V2 [.int .i64 p, .slice A5 n3 c5] 43
        rw [← hV3, ← hz3]
        clear e46
        have e46 := ((HV2.out.2.1.then hfV3).cellg g 0 hgx (fun h => h)).trans q0
        have HV3 := hid (And.intro hfV3 hcV3)
        clear hfV3 hcV3 hV3 hz3
        refine hK.out _ _ trivial (fun _ => ?_)
        (try simp only [Act.put, List.setIfInBounds_toArray, List.set_cons_zero, List.set_cons_succ])
        refine one_round (i := 7) (by kernel_rfl) rfl (fun K hK => ?_)
        refine step_app slLine rfl (.tmp 46) (.tmp 52) rfl rfl (HX.out.2.2.1.1.fr (HV2.out.2.1.then HV3.out.1) (fun _ _ h => h)) rfl (m := 1) (c := 1) (ys := [.int .i64 p, .slice A5 n3 c5]) rfl HV3.out.2 (by simp [Value.oneCell']) (by omega) (by omega) ?_
        intro A6 c6 V4 ob6 hrow6 hfr6 hob6
        have hg4 := (hfr6.block g (Nat.lt_of_lt_of_le hgx (HV2.out.2.1.then HV3.out.1).size) (fun e => by have := HX.out.2.2.1.2.2.2 g e.symm; omega)).trans (((HV2.out.2.1.then HV3.out.1).block g hgx (fun h => h)).trans HX.out.2.1)
        clear e46
        have HV4 := hid (And.intro hrow6 (And.intro hfr6 (And.intro hob6 hg4)))
        clear hrow6 hfr6 hob6
        obtain ⟨s0, s1⟩ := blk1lawLines hg4
        clear hg4
        refine hK.out _ _ trivial (fun _ => ?_)
        (try simp only [Act.put, List.setIfInBounds_toArray, List.set_cons_zero, List.set_cons_succ])
        refine one_round (i := 8) (by kernel_rfl) rfl (fun K hK => ?_)
        go_simp
        refine hK.out _ _ trivial (fun _ => ?_)
        refine wpAnyH_done (by kernel_rfl) ⟨rfl, ?_⟩ _
        obtain ⟨V5, hV5⟩ : ∃ V5, V5 = V4.setCell ⟨g, 0, none⟩ (.slice A6 (k + 1) c6) := ⟨_, rfl⟩
        rw [← hV5]
        have hZ : Fr (One g) V4 V5 := by rw [hV5]; exact Fr.set1 _ _ _ _
        have hgV5 : V5.heap[g]? = some (.cells #[.slice A6 (k + 1) c6] 27 (0, 0)) := by rw [hV5, heap_set _ _ _ _ _ _ HV4.out.2.2.2]; rfl
        have hX3 := HV2.out.2.1.then HV3.out.1
        obtain ⟨hik, hie⟩ := List.getElem?_eq_some_iff.1 HX.out.1
        obtain ⟨x, hx⟩ : ∃ x : LN, x = ⟨p, it.2, A5, c5⟩ := ⟨_, rfl⟩
        have hxit : its.take (k + 1) = its.take k ++ [x.it] := by rw [List.take_succ_eq_append_getElem hik, hie, hx, HX.out.2.2.2.2.2.2.2.2.1]; rfl
        have hA5 : ∀ ad, A5 = some ad → X2.heap.size ≤ ad.block ∧ ad.block < V3.heap.size := fun ad e => by
          obtain ⟨A', c', e', _, _, hA'⟩ := HV2.out.1.cells
          injection e' with e1 _ _
          have h1 := hA' ad (by rw [← e1]; exact e)
          have h2 := HV2.out.1.lt h1
          have h3 := HV3.out.1.size
          exact ⟨HV2.out.2.2 _ h1, by omega⟩
        have hxc : Cells V3 x.A (spotC x.s) ∧ ∀ ad, x.A = some ad → g + 3 ≤ ad.block ∧ ad.block < V3.heap.size ∧ ob ≠ some ad.block := by
          rw [hx]
          refine ⟨(rowCells HV2.out.1).fr HV3.out.1 (fun _ _ h => h), fun ad e => ?_⟩
          have h1 := hA5 ad e
          exact ⟨by omega, h1.2, fun e2 => by have := HX.out.2.2.1.1.lt e2; omega⟩
        have hys : lnC x = [.int .i64 (p : Nat), .slice A5 n3 c5] := by rw [hx, ← HX.out.2.2.2.2.2.1]; rfl
        have hpush := (HX.out.2.2.1.fr0 hX3).push x hxc (by rw [hys]; exact HV4.out.1) HV4.out.2.1 HV4.out.2.2.1 (by have := hX3.size; omega)
        rw [← hxit] at hpush
        have hN5 := hpush.fr hZ (fun b hb (e : b = g) => by omega)
        have ho3 : ∀ j, ob3 = some j → w4.heap.size + 2 ≤ j ∧ j < X2.heap.size ∧ ¬ TL g ob xs j := fun j hj =>
          ⟨HX.out.2.2.2.2.2.2.2.1 j hj, HX.out.2.2.2.2.2.2.1.lt hj, fun hT => (HX.out.2.2.2.2.1 j hT).2 (row_blk HX.out.2.2.2.2.2.2.1 j hj)⟩
        have hrow5 := ((HX.out.2.2.2.2.2.2.1.fr hX3 (fun _ _ h => h)).fr HV4.out.2.1 (fun j hj e => (ho3 j hj).2.2 (.inr (.inl e.symm)))).fr hZ (fun j hj (e : j = g) => by have := ho3 j hj; omega)
        have hT6 : ∀ b, TL g ob6 (xs ++ [x]) b → (TL g ob xs b ∨ X2.heap.size ≤ b) ∧ b < V5.heap.size := fun b hb => by
          have h5 := hZ.size
          have h4 := HV4.out.2.1.size
          have h3 := hX3.size
          refine ⟨?_, by rcases hN5.tl hb with e | e; · rw [e]; omega
                         · exact e.2⟩
          rcases hb with e | e | ⟨y, hy, ad, e, e2⟩
          · exact .inl (.inl e)
          · rcases HV4.out.2.2.1 with h | ⟨j, h, hj⟩
            · exact .inl (.inr (.inl (by rw [← h]; exact e)))
            · rw [h] at e; injection e with e; exact .inr (by omega)
          · rcases List.mem_append.1 hy with hy | hy
            · exact .inl (.inr (.inr ⟨y, hy, ad, e, e2⟩))
            · rw [List.mem_singleton.1 hy, hx] at e
              have := hA5 ad e
              exact .inr (by omega)
        have hfX : Fr (fun b => TL g ob xs b ∨ blkOf #[.int .i64 p, .slice A3 n3 c3] b) X2 V5 :=
          ((hX3.mono (S' := fun b => TL g ob xs b ∨ blkOf #[.int .i64 p, .slice A3 n3 c3] b) (fun _ _ h => h.elim)).trans HV4.out.2.1 (fun j _ e => .inl (.inr (.inl e.symm)))).trans hZ (fun j _ e => .inl (.inl e))
        have hf5 : Fr No w3 V5 := ((HX.out.2.2.2.1.then hX3).fresh HV4.out.2.1 (fun j hj => by have := HX.out.2.2.1.2.2.2 j hj; omega)).trans hZ (fun j hj (e : j = g) => by omega)
        have HN := hid (And.intro hgV5 (And.intro hN5 (And.intro hT6 (And.intro hfX (And.intro hf5 (And.intro ho3 hrow5))))))
        clear hV5 hZ hgV5 hX3 hik hie hxit hA5 hxc hys hpush hN5 ho3 hrow5 hT6 hfX hf5 hx s0 s1 q0 r0 HV1 HV2 HV3 HV4
        gi_wp2
        gi_loopw [56] (fun i wr => ∃ (j : Nat) (cs : List Value), i = .int .i64 j ∧ Hid (j ≤ n3 ∧ Row wr 2 (.slice A3 n3 c3) ob3 n3 cs ∧ Fr (Opt ob3) V5 wr)) (fun i _ => n3 - (intOf i).toNat)
        case atStart => exact ⟨0, _, rfl, Nat.zero_le _, HN.out.2.2.2.2.2.2, Fr.refl _ _⟩
        case round =>
          obtain ⟨j, cs, rfl, HS⟩ := hrel
          by_cases hlt : j < n3
          · have hlt' : (j : Int) < (n3 : Int) := by omega
            obtain ⟨ad, rfl⟩ : ∃ ad, A3 = some ad := by
              obtain ⟨g', o', old, e, _⟩ := Row.setz HS.out.2.1 (j * 2) (by omega) undef; exact ⟨_, e⟩
            obtain ⟨⟨o0, m0⟩, f0, ⟨o1, m1⟩, f1, hrow2, hfr2⟩ := Row.set2 HS.out.2.1 j hlt (.int .i64 (-1)) (.int .i64 (-1))
            have HS2 := hid (And.intro hrow2 hfr2)
            clear hrow2 hfr2
            gi_wp2
            go_roundw
            case rel => exact ⟨j + 1, _, by go_num, by omega, HS2.out.1, HS.out.2.2.then HS2.out.2⟩
            case measure => simp [intOf] <;> omega
          · have hge : ¬ ((j : Int) < (n3 : Int)) := by omega
            clear hlt
            gi_wp2
            have hno : ∀ b, TL g ob6 (xs ++ [x]) b → ¬ Opt ob3 b := fun b hb e => by
              have h3 := HN.out.2.2.2.2.2.1 b e.symm
              rcases (HN.out.2.2.1 b hb).1 with h | h
              · exact h3.2.2 h
              · omega
            have hS := HS.out.2.2
            refine ⟨TL g ob6 (xs ++ [x]), ⟨A6, c6, ob6, xs ++ [x], rfl, (hS.block g (Array.getElem?_eq_some_iff.1 HN.out.1).1 (hno g (.inl rfl))).trans HN.out.1, hks2, HN.out.2.1.frT hS hno, HN.out.2.2.2.2.1.trans hS (fun q hq e => by have := HN.out.2.2.2.2.2.1 q e.symm; omega)⟩,
              HN.out.2.2.2.1.trans hS (fun q hq e => .inr (row_blk HN.out.2.2.2.2.2.2 q e.symm)), fun b hb => ⟨Nat.lt_of_lt_of_le (HN.out.2.2.1 b hb).2 hS.size, (HN.out.2.2.1 b hb).1⟩⟩
      · skip
        go_simp
        obtain ⟨V1, hV1⟩ : ∃ V1, V1 = (X2.alloc (.cells #[] 45)).drew := ⟨_, rfl⟩
        obtain ⟨z, hz⟩ : ∃ z, z = X2.heap.size := ⟨_, rfl⟩
        have hfV1 : Fr No X2 V1 := by rw [hV1]; exact ((Fr.refl No X2).alloc _).drew
        have hrV1 : Row V1 2 (.slice (some ⟨z, 0, none⟩) 0 0) (some z) 0 [] := by rw [hV1, hz]; exact (Row.new X2 2 0 [] 45 rfl (by omega)).drew
        rw [← hV1, ← hz]
        have e46 := (hfV1.cellg g 0 hgx (fun h => h)).trans q0
        have HV1 := hid (And.intro hrV1 (And.intro hfV1 hz))
        clear hrV1 hfV1 hV1 hz
        refine hK.out _ _ trivial (fun _ => ?_)
        (try simp only [Act.put, List.setIfInBounds_toArray, List.set_cons_zero, List.set_cons_succ])
        refine wpAnyH_ready (rs := [0, 4]) (by kernel_rfl) (by simp) (AllReadyH.cons rfl (fun K hK => ?_) (AllReadyH.cons rfl (fun K hK => ?_) AllReadyH.nil))
        · skip
          go_simp
          refine hK.out _ _ trivial (fun _ => ?_)
          (try simp only [Act.put, List.setIfInBounds_toArray, List.set_cons_zero, List.set_cons_succ])
          refine one_round (i := 4) (by kernel_rfl) rfl (fun K hK => ?_)
          refine step_app slSpot rfl (.tmp 48) (.tmp 49) rfl rfl HV1.out.1 rfl (m := n3) (c := c3) (ys := spotC it.2) (by rw [spotC_length, HX.out.2.2.2.2.2.1]) ((rowCells HX.out.2.2.2.2.2.2.1).fr HV1.out.2.1 (fun _ _ h => h)) (oneSpot _) (by omega) (by omega) ?_
          intro A5 c5 V2 ob5 hrow5 hfr5 hob5
          rw [Nat.zero_add] at hrow5 ⊢
          rw [List.nil_append] at hrow5
          have hfV2 : Fr No X2 V2 := HV1.out.2.1.fresh hfr5 (fun q hq => by injection hq with hq; have := HV1.out.2.2; omega)
          have hob5' : ∀ q, ob5 = some q → X2.heap.size ≤ q := fun q hq => by
            have h2 := HV1.out.2.2
            have h3 := HV1.out.2.1.size
            rcases hob5 with h | ⟨j, h, hj⟩
            · rw [h] at hq; injection hq with hq; omega
            · rw [h] at hq; injection hq with hq; omega
          clear e46
          have e46 := (hfV2.cellg g 0 hgx (fun h => h)).trans q0
          have HV2 := hid (And.intro hrow5 (And.intro hfV2 hob5'))
          clear hrow5 hfr5 hob5 hfV2 hob5'
          refine hK.out _ _ trivial (fun _ => ?_)
          (try simp only [Act.put, List.setIfInBounds_toArray, List.set_cons_zero, List.set_cons_succ])
          refine take_round (i := 5) (v := ?_) rfl (by kernel_rfl) (by kernel_rfl) (by kernel_rfl) (by rfl) (fun w' hSw => ?_) trivial ?_
          rotate_left
          · go_simp
            try with_reducible rfl
          (try simp only [Act.put, List.setIfInBounds_toArray, List.set_cons_zero, List.set_cons_succ])
          refine one_round (i := 6) (by kernel_rfl) rfl (fun K hK => ?_)
          go_simp
          obtain ⟨V3, hV3⟩ : ∃ V3, V3 = V2.alloc (.cells #[.int .i64 p, .slice A5 n3 c5] 43) := ⟨_, rfl⟩
          obtain ⟨z3, hz3⟩ : ∃ z, z = V2.heap.size := ⟨_, rfl⟩
          have hfV3 : Fr No V2 V3 := by rw [hV3]; exact (Fr.refl No V2).alloc _
          have hcV3 : Cells V3 (some ⟨z3, 0, none⟩) [.int .i64 p, .slice A5 n3 c5] := by rw [hV3, hz3]; exact cells_new V2 [.int .i64 p, .slice A5 n3 c5] 43
          rw [← hV3, ← hz3]
          clear e46
          have e46 := ((HV2.out.2.1.then hfV3).cellg g 0 hgx (fun h => h)).trans q0
          have HV3 := hid (And.intro hfV3 hcV3)
          clear hfV3 hcV3 hV3 hz3
          refine hK.out _ _ trivial (fun _ => ?_)
          (try simp only [Act.put, List.setIfInBounds_toArray, List.set_cons_zero, List.set_cons_succ])
          refine one_round (i := 7) (by kernel_rfl) rfl (fun K hK => ?_)
          refine step_app slLine rfl (.tmp 46) (.tmp 52) rfl rfl (HX.out.2.2.1.1.fr (HV2.out.2.1.then HV3.out.1) (fun _ _ h => h)) rfl (m := 1) (c := 1) (ys := [.int .i64 p, .slice A5 n3 c5]) rfl HV3.out.2 (by simp [Value.oneCell']) (by omega) (by omega) ?_
          intro A6 c6 V4 ob6 hrow6 hfr6 hob6
          have hg4 := (hfr6.block g (Nat.lt_of_lt_of_le hgx (HV2.out.2.1.then HV3.out.1).size) (fun e => by have := HX.out.2.2.1.2.2.2 g e.symm; omega)).trans (((HV2.out.2.1.then HV3.out.1).block g hgx (fun h => h)).trans HX.out.2.1)
          clear e46
          have HV4 := hid (And.intro hrow6 (And.intro hfr6 (And.intro hob6 hg4)))
          clear hrow6 hfr6 hob6
          obtain ⟨s0, s1⟩ := blk1lawLines hg4
          clear hg4
          refine hK.out _ _ trivial (fun _ => ?_)
          (try simp only [Act.put, List.setIfInBounds_toArray, List.set_cons_zero, List.set_cons_succ])
          refine one_round (i := 8) (by kernel_rfl) rfl (fun K hK => ?_)
          go_simp
          refine hK.out _ _ trivial (fun _ => ?_)
          refine wpAnyH_done (by kernel_rfl) ⟨rfl, ?_⟩ _
          obtain ⟨V5, hV5⟩ : ∃ V5, V5 = V4.setCell ⟨g, 0, none⟩ (.slice A6 (k + 1) c6) := ⟨_, rfl⟩
          rw [← hV5]
          have hZ : Fr (One g) V4 V5 := by rw [hV5]; exact Fr.set1 _ _ _ _
          have hgV5 : V5.heap[g]? = some (.cells #[.slice A6 (k + 1) c6] 27 (0, 0)) := by rw [hV5, heap_set _ _ _ _ _ _ HV4.out.2.2.2]; rfl
          have hX3 := HV2.out.2.1.then HV3.out.1
          obtain ⟨hik, hie⟩ := List.getElem?_eq_some_iff.1 HX.out.1
          obtain ⟨x, hx⟩ : ∃ x : LN, x = ⟨p, it.2, A5, c5⟩ := ⟨_, rfl⟩
          have hxit : its.take (k + 1) = its.take k ++ [x.it] := by rw [List.take_succ_eq_append_getElem hik, hie, hx, HX.out.2.2.2.2.2.2.2.2.1]; rfl
          have hA5 : ∀ ad, A5 = some ad → X2.heap.size ≤ ad.block ∧ ad.block < V3.heap.size := fun ad e => by
            obtain ⟨A', c', e', _, _, hA'⟩ := HV2.out.1.cells
            injection e' with e1 _ _
            have h1 := hA' ad (by rw [← e1]; exact e)
            have h2 := HV2.out.1.lt h1
            have h3 := HV3.out.1.size
            exact ⟨HV2.out.2.2 _ h1, by omega⟩
          have hxc : Cells V3 x.A (spotC x.s) ∧ ∀ ad, x.A = some ad → g + 3 ≤ ad.block ∧ ad.block < V3.heap.size ∧ ob ≠ some ad.block := by
            rw [hx]
            refine ⟨(rowCells HV2.out.1).fr HV3.out.1 (fun _ _ h => h), fun ad e => ?_⟩
            have h1 := hA5 ad e
            exact ⟨by omega, h1.2, fun e2 => by have := HX.out.2.2.1.1.lt e2; omega⟩
          have hys : lnC x = [.int .i64 (p : Nat), .slice A5 n3 c5] := by rw [hx, ← HX.out.2.2.2.2.2.1]; rfl
          have hpush := (HX.out.2.2.1.fr0 hX3).push x hxc (by rw [hys]; exact HV4.out.1) HV4.out.2.1 HV4.out.2.2.1 (by have := hX3.size; omega)
          rw [← hxit] at hpush
          have hN5 := hpush.fr hZ (fun b hb (e : b = g) => by omega)
          have ho3 : ∀ j, ob3 = some j → w4.heap.size + 2 ≤ j ∧ j < X2.heap.size ∧ ¬ TL g ob xs j := fun j hj =>
            ⟨HX.out.2.2.2.2.2.2.2.1 j hj, HX.out.2.2.2.2.2.2.1.lt hj, fun hT => (HX.out.2.2.2.2.1 j hT).2 (row_blk HX.out.2.2.2.2.2.2.1 j hj)⟩
          have hrow5 := ((HX.out.2.2.2.2.2.2.1.fr hX3 (fun _ _ h => h)).fr HV4.out.2.1 (fun j hj e => (ho3 j hj).2.2 (.inr (.inl e.symm)))).fr hZ (fun j hj (e : j = g) => by have := ho3 j hj; omega)
          have hT6 : ∀ b, TL g ob6 (xs ++ [x]) b → (TL g ob xs b ∨ X2.heap.size ≤ b) ∧ b < V5.heap.size := fun b hb => by
            have h5 := hZ.size
            have h4 := HV4.out.2.1.size
            have h3 := hX3.size
            refine ⟨?_, by rcases hN5.tl hb with e | e; · rw [e]; omega
                           · exact e.2⟩
            rcases hb with e | e | ⟨y, hy, ad, e, e2⟩
            · exact .inl (.inl e)
            · rcases HV4.out.2.2.1 with h | ⟨j, h, hj⟩
              · exact .inl (.inr (.inl (by rw [← h]; exact e)))
              · rw [h] at e; injection e with e; exact .inr (by omega)
            · rcases List.mem_append.1 hy with hy | hy
              · exact .inl (.inr (.inr ⟨y, hy, ad, e, e2⟩))
              · rw [List.mem_singleton.1 hy, hx] at e
                have := hA5 ad e
                exact .inr (by omega)
          have hfX : Fr (fun b => TL g ob xs b ∨ blkOf #[.int .i64 p, .slice A3 n3 c3] b) X2 V5 :=
            ((hX3.mono (S' := fun b => TL g ob xs b ∨ blkOf #[.int .i64 p, .slice A3 n3 c3] b) (fun _ _ h => h.elim)).trans HV4.out.2.1 (fun j _ e => .inl (.inr (.inl e.symm)))).trans hZ (fun j _ e => .inl (.inl e))
          have hf5 : Fr No w3 V5 := ((HX.out.2.2.2.1.then hX3).fresh HV4.out.2.1 (fun j hj => by have := HX.out.2.2.1.2.2.2 j hj; omega)).trans hZ (fun j hj (e : j = g) => by omega)
          have HN := hid (And.intro hgV5 (And.intro hN5 (And.intro hT6 (And.intro hfX (And.intro hf5 (And.intro ho3 hrow5))))))
          clear hV5 hZ hgV5 hX3 hik hie hxit hA5 hxc hys hpush hN5 ho3 hrow5 hT6 hfX hf5 hx s0 s1 q0 r0 HV1 HV2 HV3 HV4
          gi_wp2
          gi_loopw [56] (fun i wr => ∃ (j : Nat) (cs : List Value), i = .int .i64 j ∧ Hid (j ≤ n3 ∧ Row wr 2 (.slice A3 n3 c3) ob3 n3 cs ∧ Fr (Opt ob3) V5 wr)) (fun i _ => n3 - (intOf i).toNat)
          case atStart => exact ⟨0, _, rfl, Nat.zero_le _, HN.out.2.2.2.2.2.2, Fr.refl _ _⟩
          case round =>
            obtain ⟨j, cs, rfl, HS⟩ := hrel
            by_cases hlt : j < n3
            · have hlt' : (j : Int) < (n3 : Int) := by omega
              obtain ⟨ad, rfl⟩ : ∃ ad, A3 = some ad := by
                obtain ⟨g', o', old, e, _⟩ := Row.setz HS.out.2.1 (j * 2) (by omega) undef; exact ⟨_, e⟩
              obtain ⟨⟨o0, m0⟩, f0, ⟨o1, m1⟩, f1, hrow2, hfr2⟩ := Row.set2 HS.out.2.1 j hlt (.int .i64 (-1)) (.int .i64 (-1))
              have HS2 := hid (And.intro hrow2 hfr2)
              clear hrow2 hfr2
              gi_wp2
              go_roundw
              case rel => exact ⟨j + 1, _, by go_num, by omega, HS2.out.1, HS.out.2.2.then HS2.out.2⟩
              case measure => simp [intOf] <;> omega
            · have hge : ¬ ((j : Int) < (n3 : Int)) := by omega
              clear hlt
              gi_wp2
              have hno : ∀ b, TL g ob6 (xs ++ [x]) b → ¬ Opt ob3 b := fun b hb e => by
                have h3 := HN.out.2.2.2.2.2.1 b e.symm
                rcases (HN.out.2.2.1 b hb).1 with h | h
                · exact h3.2.2 h
                · omega
              have hS := HS.out.2.2
              refine ⟨TL g ob6 (xs ++ [x]), ⟨A6, c6, ob6, xs ++ [x], rfl, (hS.block g (Array.getElem?_eq_some_iff.1 HN.out.1).1 (hno g (.inl rfl))).trans HN.out.1, hks2, HN.out.2.1.frT hS hno, HN.out.2.2.2.2.1.trans hS (fun q hq e => by have := HN.out.2.2.2.2.2.1 q e.symm; omega)⟩,
                HN.out.2.2.2.1.trans hS (fun q hq e => .inr (row_blk HN.out.2.2.2.2.2.2 q e.symm)), fun b hb => ⟨Nat.lt_of_lt_of_le (HN.out.2.2.1 b hb).2 hS.size, (HN.out.2.2.1 b hb).1⟩⟩
        · skip
          refine step_app slSpot rfl (.tmp 48) (.tmp 49) rfl rfl HV1.out.1 rfl (m := n3) (c := c3) (ys := spotC it.2) (by rw [spotC_length, HX.out.2.2.2.2.2.1]) ((rowCells HX.out.2.2.2.2.2.2.1).fr HV1.out.2.1 (fun _ _ h => h)) (oneSpot _) (by omega) (by omega) ?_
          intro A5 c5 V2 ob5 hrow5 hfr5 hob5
          rw [Nat.zero_add] at hrow5 ⊢
          rw [List.nil_append] at hrow5
          have hfV2 : Fr No X2 V2 := HV1.out.2.1.fresh hfr5 (fun q hq => by injection hq with hq; have := HV1.out.2.2; omega)
          have hob5' : ∀ q, ob5 = some q → X2.heap.size ≤ q := fun q hq => by
            have h2 := HV1.out.2.2
            have h3 := HV1.out.2.1.size
            rcases hob5 with h | ⟨j, h, hj⟩
            · rw [h] at hq; injection hq with hq; omega
            · rw [h] at hq; injection hq with hq; omega
          clear e46
          have e46 := (hfV2.cellg g 0 hgx (fun h => h)).trans q0
          have HV2 := hid (And.intro hrow5 (And.intro hfV2 hob5'))
          clear hrow5 hfr5 hob5 hfV2 hob5'
          refine hK.out _ _ trivial (fun _ => ?_)
          (try simp only [Act.put, List.setIfInBounds_toArray, List.set_cons_zero, List.set_cons_succ])
          refine take_round (i := 5) (v := ?_) rfl (by kernel_rfl) (by kernel_rfl) (by kernel_rfl) (by rfl) (fun w' hSw => ?_) trivial ?_
          rotate_left
          · go_simp
            try with_reducible rfl
          (try simp only [Act.put, List.setIfInBounds_toArray, List.set_cons_zero, List.set_cons_succ])
          refine wpAnyH_ready (rs := [0, 6]) (by kernel_rfl) (by simp) (AllReadyH.cons rfl (fun K hK => ?_) (AllReadyH.cons rfl (fun K hK => ?_) AllReadyH.nil))
          · skip
            go_simp
            refine hK.out _ _ trivial (fun _ => ?_)
            (try simp only [Act.put, List.setIfInBounds_toArray, List.set_cons_zero, List.set_cons_succ])
            refine one_round (i := 6) (by kernel_rfl) rfl (fun K hK => ?_)
            go_simp
            obtain ⟨V3, hV3⟩ : ∃ V3, V3 = V2.alloc (.cells #[.int .i64 p, .slice A5 n3 c5] 43) := ⟨_, rfl⟩
            obtain ⟨z3, hz3⟩ : ∃ z, z = V2.heap.size := ⟨_, rfl⟩
            have hfV3 : Fr No V2 V3 := by rw [hV3]; exact (Fr.refl No V2).alloc _
            have hcV3 : Cells V3 (some ⟨z3, 0, none⟩) [.int .i64 p, .slice A5 n3 c5] := by rw [hV3, hz3]; exact cells_new V2 [.int .i64 p, .slice A5 n3 c5] 43
            rw [← hV3, ← hz3]
            clear e46
            have e46 := ((HV2.out.2.1.then hfV3).cellg g 0 hgx (fun h => h)).trans q0
            have HV3 := hid (And.intro hfV3 hcV3)
            clear hfV3 hcV3 hV3 hz3
            refine hK.out _ _ trivial (fun _ => ?_)
            (try simp only [Act.put, List.setIfInBounds_toArray, List.set_cons_zero, List.set_cons_succ])
            refine one_round (i := 7) (by kernel_rfl) rfl (fun K hK => ?_)
            refine step_app slLine rfl (.tmp 46) (.tmp 52) rfl rfl (HX.out.2.2.1.1.fr (HV2.out.2.1.then HV3.out.1) (fun _ _ h => h)) rfl (m := 1) (c := 1) (ys := [.int .i64 p, .slice A5 n3 c5]) rfl HV3.out.2 (by simp [Value.oneCell']) (by omega) (by omega) ?_
            intro A6 c6 V4 ob6 hrow6 hfr6 hob6
            have hg4 := (hfr6.block g (Nat.lt_of_lt_of_le hgx (HV2.out.2.1.then HV3.out.1).size) (fun e => by have := HX.out.2.2.1.2.2.2 g e.symm; omega)).trans (((HV2.out.2.1.then HV3.out.1).block g hgx (fun h => h)).trans HX.out.2.1)
            clear e46
            have HV4 := hid (And.intro hrow6 (And.intro hfr6 (And.intro hob6 hg4)))
            clear hrow6 hfr6 hob6
            obtain ⟨s0, s1⟩ := blk1lawLines hg4
            clear hg4
            refine hK.out _ _ trivial (fun _ => ?_)
            (try simp only [Act.put, List.setIfInBounds_toArray, List.set_cons_zero, List.set_cons_succ])
            refine one_round (i := 8) (by kernel_rfl) rfl (fun K hK => ?_)
            go_simp
            refine hK.out _ _ trivial (fun _ => ?_)
            refine wpAnyH_done (by kernel_rfl) ⟨rfl, ?_⟩ _
            obtain ⟨V5, hV5⟩ : ∃ V5, V5 = V4.setCell ⟨g, 0, none⟩ (.slice A6 (k + 1) c6) := ⟨_, rfl⟩
            rw [← hV5]
            have hZ : Fr (One g) V4 V5 := by rw [hV5]; exact Fr.set1 _ _ _ _
            have hgV5 : V5.heap[g]? = some (.cells #[.slice A6 (k + 1) c6] 27 (0, 0)) := by rw [hV5, heap_set _ _ _ _ _ _ HV4.out.2.2.2]; rfl
            have hX3 := HV2.out.2.1.then HV3.out.1
            obtain ⟨hik, hie⟩ := List.getElem?_eq_some_iff.1 HX.out.1
            obtain ⟨x, hx⟩ : ∃ x : LN, x = ⟨p, it.2, A5, c5⟩ := ⟨_, rfl⟩
            have hxit : its.take (k + 1) = its.take k ++ [x.it] := by rw [List.take_succ_eq_append_getElem hik, hie, hx, HX.out.2.2.2.2.2.2.2.2.1]; rfl
            have hA5 : ∀ ad, A5 = some ad → X2.heap.size ≤ ad.block ∧ ad.block < V3.heap.size := fun ad e => by
              obtain ⟨A', c', e', _, _, hA'⟩ := HV2.out.1.cells
              injection e' with e1 _ _
              have h1 := hA' ad (by rw [← e1]; exact e)
              have h2 := HV2.out.1.lt h1
              have h3 := HV3.out.1.size
              exact ⟨HV2.out.2.2 _ h1, by omega⟩
            have hxc : Cells V3 x.A (spotC x.s) ∧ ∀ ad, x.A = some ad → g + 3 ≤ ad.block ∧ ad.block < V3.heap.size ∧ ob ≠ some ad.block := by
              rw [hx]
              refine ⟨(rowCells HV2.out.1).fr HV3.out.1 (fun _ _ h => h), fun ad e => ?_⟩
              have h1 := hA5 ad e
              exact ⟨by omega, h1.2, fun e2 => by have := HX.out.2.2.1.1.lt e2; omega⟩
            have hys : lnC x = [.int .i64 (p : Nat), .slice A5 n3 c5] := by rw [hx, ← HX.out.2.2.2.2.2.1]; rfl
            have hpush := (HX.out.2.2.1.fr0 hX3).push x hxc (by rw [hys]; exact HV4.out.1) HV4.out.2.1 HV4.out.2.2.1 (by have := hX3.size; omega)
            rw [← hxit] at hpush
            have hN5 := hpush.fr hZ (fun b hb (e : b = g) => by omega)
            have ho3 : ∀ j, ob3 = some j → w4.heap.size + 2 ≤ j ∧ j < X2.heap.size ∧ ¬ TL g ob xs j := fun j hj =>
              ⟨HX.out.2.2.2.2.2.2.2.1 j hj, HX.out.2.2.2.2.2.2.1.lt hj, fun hT => (HX.out.2.2.2.2.1 j hT).2 (row_blk HX.out.2.2.2.2.2.2.1 j hj)⟩
            have hrow5 := ((HX.out.2.2.2.2.2.2.1.fr hX3 (fun _ _ h => h)).fr HV4.out.2.1 (fun j hj e => (ho3 j hj).2.2 (.inr (.inl e.symm)))).fr hZ (fun j hj (e : j = g) => by have := ho3 j hj; omega)
            have hT6 : ∀ b, TL g ob6 (xs ++ [x]) b → (TL g ob xs b ∨ X2.heap.size ≤ b) ∧ b < V5.heap.size := fun b hb => by
              have h5 := hZ.size
              have h4 := HV4.out.2.1.size
              have h3 := hX3.size
              refine ⟨?_, by rcases hN5.tl hb with e | e; · rw [e]; omega
                             · exact e.2⟩
              rcases hb with e | e | ⟨y, hy, ad, e, e2⟩
              · exact .inl (.inl e)
              · rcases HV4.out.2.2.1 with h | ⟨j, h, hj⟩
                · exact .inl (.inr (.inl (by rw [← h]; exact e)))
                · rw [h] at e; injection e with e; exact .inr (by omega)
              · rcases List.mem_append.1 hy with hy | hy
                · exact .inl (.inr (.inr ⟨y, hy, ad, e, e2⟩))
                · rw [List.mem_singleton.1 hy, hx] at e
                  have := hA5 ad e
                  exact .inr (by omega)
            have hfX : Fr (fun b => TL g ob xs b ∨ blkOf #[.int .i64 p, .slice A3 n3 c3] b) X2 V5 :=
              ((hX3.mono (S' := fun b => TL g ob xs b ∨ blkOf #[.int .i64 p, .slice A3 n3 c3] b) (fun _ _ h => h.elim)).trans HV4.out.2.1 (fun j _ e => .inl (.inr (.inl e.symm)))).trans hZ (fun j _ e => .inl (.inl e))
            have hf5 : Fr No w3 V5 := ((HX.out.2.2.2.1.then hX3).fresh HV4.out.2.1 (fun j hj => by have := HX.out.2.2.1.2.2.2 j hj; omega)).trans hZ (fun j hj (e : j = g) => by omega)
            have HN := hid (And.intro hgV5 (And.intro hN5 (And.intro hT6 (And.intro hfX (And.intro hf5 (And.intro ho3 hrow5))))))
            clear hV5 hZ hgV5 hX3 hik hie hxit hA5 hxc hys hpush hN5 ho3 hrow5 hT6 hfX hf5 hx s0 s1 q0 r0 HV1 HV2 HV3 HV4
            gi_wp2
            gi_loopw [56] (fun i wr => ∃ (j : Nat) (cs : List Value), i = .int .i64 j ∧ Hid (j ≤ n3 ∧ Row wr 2 (.slice A3 n3 c3) ob3 n3 cs ∧ Fr (Opt ob3) V5 wr)) (fun i _ => n3 - (intOf i).toNat)
            case atStart => exact ⟨0, _, rfl, Nat.zero_le _, HN.out.2.2.2.2.2.2, Fr.refl _ _⟩
            case round =>
              obtain ⟨j, cs, rfl, HS⟩ := hrel
              by_cases hlt : j < n3
              · have hlt' : (j : Int) < (n3 : Int) := by omega
                obtain ⟨ad, rfl⟩ : ∃ ad, A3 = some ad := by
                  obtain ⟨g', o', old, e, _⟩ := Row.setz HS.out.2.1 (j * 2) (by omega) undef; exact ⟨_, e⟩
                obtain ⟨⟨o0, m0⟩, f0, ⟨o1, m1⟩, f1, hrow2, hfr2⟩ := Row.set2 HS.out.2.1 j hlt (.int .i64 (-1)) (.int .i64 (-1))
                have HS2 := hid (And.intro hrow2 hfr2)
                clear hrow2 hfr2
                gi_wp2
                go_roundw
                case rel => exact ⟨j + 1, _, by go_num, by omega, HS2.out.1, HS.out.2.2.then HS2.out.2⟩
                case measure => simp [intOf] <;> omega
              · have hge : ¬ ((j : Int) < (n3 : Int)) := by omega
                clear hlt
                gi_wp2
                have hno : ∀ b, TL g ob6 (xs ++ [x]) b → ¬ Opt ob3 b := fun b hb e => by
                  have h3 := HN.out.2.2.2.2.2.1 b e.symm
                  rcases (HN.out.2.2.1 b hb).1 with h | h
                  · exact h3.2.2 h
                  · omega
                have hS := HS.out.2.2
                refine ⟨TL g ob6 (xs ++ [x]), ⟨A6, c6, ob6, xs ++ [x], rfl, (hS.block g (Array.getElem?_eq_some_iff.1 HN.out.1).1 (hno g (.inl rfl))).trans HN.out.1, hks2, HN.out.2.1.frT hS hno, HN.out.2.2.2.2.1.trans hS (fun q hq e => by have := HN.out.2.2.2.2.2.1 q e.symm; omega)⟩,
                  HN.out.2.2.2.1.trans hS (fun q hq e => .inr (row_blk HN.out.2.2.2.2.2.2 q e.symm)), fun b hb => ⟨Nat.lt_of_lt_of_le (HN.out.2.2.1 b hb).2 hS.size, (HN.out.2.2.1 b hb).1⟩⟩
          · skip
            go_simp
            obtain ⟨V3, hV3⟩ : ∃ V3, V3 = V2.alloc (.cells #[.int .i64 p, .slice A5 n3 c5] 43) := ⟨_, rfl⟩
            obtain ⟨z3, hz3⟩ : ∃ z, z = V2.heap.size := ⟨_, rfl⟩
            have hfV3 : Fr No V2 V3 := by rw [hV3]; exact (Fr.refl No V2).alloc _
            have hcV3 : Cells V3 (some ⟨z3, 0, none⟩) [.int .i64 p, .slice A5 n3 c5] := by rw [hV3, hz3]; exact cells_new V2 [.int .i64 p, .slice A5 n3 c5] 43
            rw [← hV3, ← hz3]
            clear e46
            have e46 := ((HV2.out.2.1.then hfV3).cellg g 0 hgx (fun h => h)).trans q0
            have HV3 := hid (And.intro hfV3 hcV3)
            clear hfV3 hcV3 hV3 hz3
            refine hK.out _ _ trivial (fun _ => ?_)
            (try simp only [Act.put, List.setIfInBounds_toArray, List.set_cons_zero, List.set_cons_succ])
            refine one_round (i := 0) (by kernel_rfl) rfl (fun K hK => ?_)
            go_simp
            refine hK.out _ _ trivial (fun _ => ?_)
            (try simp only [Act.put, List.setIfInBounds_toArray, List.set_cons_zero, List.set_cons_succ])
            refine one_round (i := 7) (by kernel_rfl) rfl (fun K hK => ?_)
            refine step_app slLine rfl (.tmp 46) (.tmp 52) rfl rfl (HX.out.2.2.1.1.fr (HV2.out.2.1.then HV3.out.1) (fun _ _ h => h)) rfl (m := 1) (c := 1) (ys := [.int .i64 p, .slice A5 n3 c5]) rfl HV3.out.2 (by simp [Value.oneCell']) (by omega) (by omega) ?_
            intro A6 c6 V4 ob6 hrow6 hfr6 hob6
            have hg4 := (hfr6.block g (Nat.lt_of_lt_of_le hgx (HV2.out.2.1.then HV3.out.1).size) (fun e => by have := HX.out.2.2.1.2.2.2 g e.symm; omega)).trans (((HV2.out.2.1.then HV3.out.1).block g hgx (fun h => h)).trans HX.out.2.1)
            clear e46
            have HV4 := hid (And.intro hrow6 (And.intro hfr6 (And.intro hob6 hg4)))
            clear hrow6 hfr6 hob6
            obtain ⟨s0, s1⟩ := blk1lawLines hg4
            clear hg4
            refine hK.out _ _ trivial (fun _ => ?_)
            (try simp only [Act.put, List.setIfInBounds_toArray, List.set_cons_zero, List.set_cons_succ])
            refine one_round (i := 8) (by kernel_rfl) rfl (fun K hK => ?_)
            go_simp
            refine hK.out _ _ trivial (fun _ => ?_)
            refine wpAnyH_done (by kernel_rfl) ⟨rfl, ?_⟩ _
            obtain ⟨V5, hV5⟩ : ∃ V5, V5 = V4.setCell ⟨g, 0, none⟩ (.slice A6 (k + 1) c6) := ⟨_, rfl⟩
            rw [← hV5]
            have hZ : Fr (One g) V4 V5 := by rw [hV5]; exact Fr.set1 _ _ _ _
            have hgV5 : V5.heap[g]? = some (.cells #[.slice A6 (k + 1) c6] 27 (0, 0)) := by rw [hV5, heap_set _ _ _ _ _ _ HV4.out.2.2.2]; rfl
            have hX3 := HV2.out.2.1.then HV3.out.1
            obtain ⟨hik, hie⟩ := List.getElem?_eq_some_iff.1 HX.out.1
            obtain ⟨x, hx⟩ : ∃ x : LN, x = ⟨p, it.2, A5, c5⟩ := ⟨_, rfl⟩
            have hxit : its.take (k + 1) = its.take k ++ [x.it] := by rw [List.take_succ_eq_append_getElem hik, hie, hx, HX.out.2.2.2.2.2.2.2.2.1]; rfl
            have hA5 : ∀ ad, A5 = some ad → X2.heap.size ≤ ad.block ∧ ad.block < V3.heap.size := fun ad e => by
              obtain ⟨A', c', e', _, _, hA'⟩ := HV2.out.1.cells
              injection e' with e1 _ _
              have h1 := hA' ad (by rw [← e1]; exact e)
              have h2 := HV2.out.1.lt h1
              have h3 := HV3.out.1.size
              exact ⟨HV2.out.2.2 _ h1, by omega⟩
            have hxc : Cells V3 x.A (spotC x.s) ∧ ∀ ad, x.A = some ad → g + 3 ≤ ad.block ∧ ad.block < V3.heap.size ∧ ob ≠ some ad.block := by
              rw [hx]
              refine ⟨(rowCells HV2.out.1).fr HV3.out.1 (fun _ _ h => h), fun ad e => ?_⟩
              have h1 := hA5 ad e
              exact ⟨by omega, h1.2, fun e2 => by have := HX.out.2.2.1.1.lt e2; omega⟩
            have hys : lnC x = [.int .i64 (p : Nat), .slice A5 n3 c5] := by rw [hx, ← HX.out.2.2.2.2.2.1]; rfl
            have hpush := (HX.out.2.2.1.fr0 hX3).push x hxc (by rw [hys]; exact HV4.out.1) HV4.out.2.1 HV4.out.2.2.1 (by have := hX3.size; omega)
            rw [← hxit] at hpush
            have hN5 := hpush.fr hZ (fun b hb (e : b = g) => by omega)
            have ho3 : ∀ j, ob3 = some j → w4.heap.size + 2 ≤ j ∧ j < X2.heap.size ∧ ¬ TL g ob xs j := fun j hj =>
              ⟨HX.out.2.2.2.2.2.2.2.1 j hj, HX.out.2.2.2.2.2.2.1.lt hj, fun hT => (HX.out.2.2.2.2.1 j hT).2 (row_blk HX.out.2.2.2.2.2.2.1 j hj)⟩
            have hrow5 := ((HX.out.2.2.2.2.2.2.1.fr hX3 (fun _ _ h => h)).fr HV4.out.2.1 (fun j hj e => (ho3 j hj).2.2 (.inr (.inl e.symm)))).fr hZ (fun j hj (e : j = g) => by have := ho3 j hj; omega)
            have hT6 : ∀ b, TL g ob6 (xs ++ [x]) b → (TL g ob xs b ∨ X2.heap.size ≤ b) ∧ b < V5.heap.size := fun b hb => by
              have h5 := hZ.size
              have h4 := HV4.out.2.1.size
              have h3 := hX3.size
              refine ⟨?_, by rcases hN5.tl hb with e | e; · rw [e]; omega
                             · exact e.2⟩
              rcases hb with e | e | ⟨y, hy, ad, e, e2⟩
              · exact .inl (.inl e)
              · rcases HV4.out.2.2.1 with h | ⟨j, h, hj⟩
                · exact .inl (.inr (.inl (by rw [← h]; exact e)))
                · rw [h] at e; injection e with e; exact .inr (by omega)
              · rcases List.mem_append.1 hy with hy | hy
                · exact .inl (.inr (.inr ⟨y, hy, ad, e, e2⟩))
                · rw [List.mem_singleton.1 hy, hx] at e
                  have := hA5 ad e
                  exact .inr (by omega)
            have hfX : Fr (fun b => TL g ob xs b ∨ blkOf #[.int .i64 p, .slice A3 n3 c3] b) X2 V5 :=
              ((hX3.mono (S' := fun b => TL g ob xs b ∨ blkOf #[.int .i64 p, .slice A3 n3 c3] b) (fun _ _ h => h.elim)).trans HV4.out.2.1 (fun j _ e => .inl (.inr (.inl e.symm)))).trans hZ (fun j _ e => .inl (.inl e))
            have hf5 : Fr No w3 V5 := ((HX.out.2.2.2.1.then hX3).fresh HV4.out.2.1 (fun j hj => by have := HX.out.2.2.1.2.2.2 j hj; omega)).trans hZ (fun j hj (e : j = g) => by omega)
            have HN := hid (And.intro hgV5 (And.intro hN5 (And.intro hT6 (And.intro hfX (And.intro hf5 (And.intro ho3 hrow5))))))
            clear hV5 hZ hgV5 hX3 hik hie hxit hA5 hxc hys hpush hN5 ho3 hrow5 hT6 hfX hf5 hx s0 s1 q0 r0 HV1 HV2 HV3 HV4
            gi_wp2
            gi_loopw [56] (fun i wr => ∃ (j : Nat) (cs : List Value), i = .int .i64 j ∧ Hid (j ≤ n3 ∧ Row wr 2 (.slice A3 n3 c3) ob3 n3 cs ∧ Fr (Opt ob3) V5 wr)) (fun i _ => n3 - (intOf i).toNat)
            case atStart => exact ⟨0, _, rfl, Nat.zero_le _, HN.out.2.2.2.2.2.2, Fr.refl _ _⟩
            case round =>
              obtain ⟨j, cs, rfl, HS⟩ := hrel
              by_cases hlt : j < n3
              · have hlt' : (j : Int) < (n3 : Int) := by omega
                obtain ⟨ad, rfl⟩ : ∃ ad, A3 = some ad := by
                  obtain ⟨g', o', old, e, _⟩ := Row.setz HS.out.2.1 (j * 2) (by omega) undef; exact ⟨_, e⟩
                obtain ⟨⟨o0, m0⟩, f0, ⟨o1, m1⟩, f1, hrow2, hfr2⟩ := Row.set2 HS.out.2.1 j hlt (.int .i64 (-1)) (.int .i64 (-1))
                have HS2 := hid (And.intro hrow2 hfr2)
                clear hrow2 hfr2
                gi_wp2
                go_roundw
                case rel => exact ⟨j + 1, _, by go_num, by omega, HS2.out.1, HS.out.2.2.then HS2.out.2⟩
                case measure => simp [intOf] <;> omega
              · have hge : ¬ ((j : Int) < (n3 : Int)) := by omega
                clear hlt
                gi_wp2
                have hno : ∀ b, TL g ob6 (xs ++ [x]) b → ¬ Opt ob3 b := fun b hb e => by
                  have h3 := HN.out.2.2.2.2.2.1 b e.symm
                  rcases (HN.out.2.2.1 b hb).1 with h | h
                  · exact h3.2.2 h
                  · omega
                have hS := HS.out.2.2
                refine ⟨TL g ob6 (xs ++ [x]), ⟨A6, c6, ob6, xs ++ [x], rfl, (hS.block g (Array.getElem?_eq_some_iff.1 HN.out.1).1 (hno g (.inl rfl))).trans HN.out.1, hks2, HN.out.2.1.frT hS hno, HN.out.2.2.2.2.1.trans hS (fun q hq e => by have := HN.out.2.2.2.2.2.1 q e.symm; omega)⟩,
                  HN.out.2.2.2.1.trans hS (fun q hq e => .inr (row_blk HN.out.2.2.2.2.2.2 q e.symm)), fun b hb => ⟨Nat.lt_of_lt_of_le (HN.out.2.2.1 b hb).2 hS.size, (HN.out.2.2.1 b hb).1⟩⟩
  case done =>
    rintro T X9 ⟨A1, c1, ob1, xs1, _, h1, hks, h2, h3⟩ hD
    obtain ⟨kk, hkk⟩ : ∃ kk, kk = its.length := ⟨_, rfl⟩
    have hk2N : k2 = its.length := by rw [HITS.out]; exact H2.out.1.len.symm
    have hmin : mn (k2 : Int) (stop : Int) = (kk : Int) := by rw [hkk, hk2N]; exact mn_left _ _ (by omega)
    have hkle : kk ≤ k2 := by omega
    rw [← hkk] at h1 h2 hks
    have HR1 := hid (And.intro h1 (And.intro h2 (And.intro h3 (And.intro hD (And.intro hmin (And.intro hkk hk2N))))))
    have hD9 : w4.heap.size < X9.heap.size := (Array.getElem?_eq_some_iff.1 hD).1
    have h39 := h3.size
    have hg9 : g < X9.heap.size := (Array.getElem?_eq_some_iff.1 h1).1
    clear h1 h2 h3 hD hmin hkk hk2N
    go_wp2_with fail
    obtain ⟨g17, hg17⟩ : ∃ g, g = X9.heap.size := ⟨_, rfl⟩
    obtain ⟨w10, hw10⟩ : ∃ w10, w10 = X9.alloc (.cells #[.slice none 0 0] 27) := ⟨_, rfl⟩
    have hs10 : w10.heap.size = g17 + 1 := by rw [hw10, World.size_alloc, hg17]
    have hb10 : w10.heap[g17]? = some (.cells #[.slice none 0 0] 27 (0, 0)) := by rw [hw10, hg17]; exact heap_new _ _
    have hf10 : Fr No X9 w10 := by rw [hw10]; exact (Fr.refl _ _).alloc _
    rw [← hw10, ← hg17]
    rw [← hg17] at hD9 h39 hg9
    have H10 := hid (And.intro hb10 (And.intro hf10 hg17))
    clear hw10 hb10 hg17
    refine wpIn_wide.1 (wpIn_rangeFunc_T (F := Fence.wide) (n := 4) rfl (by omega) (gf := 65) (lb := #[.pointer (some ⟨gI, 0, none⟩)]) rfl trivial (enters_of Try.func65 (by kernel_rfl) rfl)
      HSEQ.out (by omega) (KeepLU.of_fr (HR1.out.2.2.1.then hf10) (Nat.le_refl _) (fun _ _ _ h => h)) (by omega)
      (fun k T X => ∃ A c ob xs, T = (fun b => b = g17 ∨ ob = some b) ∧ X.heap[g17]? = some (.cells #[.slice A k c] 27 (0, 0)) ∧ NewL X (w10.heap.size + 2) (its.take k) A k c ob xs ∧ Fr No X9 X)
      (fun _ _ _ => False) (fun b => b = g17 ∨ (none : Option Nat) = some b) ?hT0 ?hI (fun _ _ _ _ h _ => h) ?hIT ?h0 ?hOk ?round ?done (fun _ _ _ _ h _ => h.elim))
    case hT0 =>
      rintro b (rfl | e)
      · exact ⟨by omega, by omega⟩
      · cases e
    case hI =>
      rintro k T X Y ⟨A, c, ob, xs, rfl, h1, h2, h3⟩ hf
      have hl8 : g17 < X.heap.size := (Array.getElem?_eq_some_iff.1 h1).1
      exact ⟨A, c, ob, xs, rfl, (hf.block g17 hl8 (fun e => by have e : g17 = w10.heap.size + 1 := e; omega)).trans h1, h2.fr hf (fun b hb e => by have e : b = w10.heap.size + 1 := e; omega), h3.trans hf (fun j hj e => by have e : j = w10.heap.size + 1 := e; have := H10.out.2.2; omega)⟩
    case hIT =>
      rintro k T X ⟨A, c, ob, xs, rfl, h1, h2, h3⟩ b (rfl | e)
      · exact ⟨by omega, by omega⟩
      · have := h2.2.2.2 b e; exact ⟨by omega, by omega⟩
    case h0 => intro X hf; exact ⟨none, 0, none, [], rfl, (hf.block g17 (by omega) (fun h => h)).trans H10.out.1, NewL.nil _ _, H10.out.2.1.then hf⟩
    case hOk =>
      intro k args X hk hok
      exact ⟨hok.args.1, fun b hb => by have := hok.args.2 b hb; omega, fun X' hf => hok.fr hf (fun b hb e => by have e : b = w10.heap.size + 1 := e; omega)⟩
    case round =>
      rintro k T args X X2 hk ⟨A, c, ob, xs, rfl, h1, h2, h3⟩ hTs hsz ⟨it, A3, n3, c3, ob3, hit, rfl, hl3, hrow3, hob3⟩
      obtain ⟨q0, q1⟩ := blk1lawLines h1
      replace hit := H4.out.2.2.1 _ _ hit
      obtain ⟨hik, hie⟩ := List.getElem?_eq_some_iff.1 hit
      obtain ⟨x, hx⟩ : ∃ x : LN, x = ⟨it.1, it.2, A3, c3⟩ := ⟨_, rfl⟩
      have hxit : its.take (k + 1) = its.take k ++ [x.it] := by rw [List.take_succ_eq_append_getElem hik, hie, hx]; rfl
      have hcel : Cells X2 x.A (spotC x.s) ∧ ∀ ad, x.A = some ad → w10.heap.size + 2 ≤ ad.block ∧ ad.block < X2.heap.size ∧ ob ≠ some ad.block := by
        rw [hx]
        obtain ⟨A', c', e', _, hc', hA'⟩ := hrow3.cells
        injection e' with e1 _ _
        subst e1
        refine ⟨hc', fun ad e => ⟨hob3 _ (hA' ad e), hrow3.lt (hA' ad e), fun e2 => ?_⟩⟩
        refine (hTs ad.block (.inr e2)).2 ⟨1, ad, n3, c3, ?_, rfl⟩
        rw [show A3 = some ad from e]; rfl
      have hys : lnC x = [.int .i64 (it.1 : Nat), .slice A3 n3 c3] := by rw [hx, ← hl3]; rfl
      have HX := hid (And.intro hcel (And.intro hxit (And.intro h1 (And.intro h2 h3))))
      have hgx : g17 < X2.heap.size := (Array.getElem?_eq_some_iff.1 h1).1
      have hkl : k < its.length := hk
      have hnob : ob ≠ some g17 := fun e => by have := h2.2.2.2 g17 e; omega
      have hrow := h2.1
      have HH := hid (And.intro hrow hnob)
      obtain ⟨p, hp⟩ : ∃ p, p = it.1 := ⟨_, rfl⟩
      rw [← hp] at hys ⊢
      have HYS := hid hys
      clear hit hie hxit hcel hys h1 h2 h3 hrow3 hob3 hTs hx hp hl3 hrow hnob
      simp only [List.zip_toArray, List.zip_cons_cons, List.zip_nil_right, List.foldl_toArray, List.foldl_cons, List.foldl_nil, List.setIfInBounds_toArray, List.set_cons_zero, List.set_cons_succ]
      gi_wp2
      refine ⟨trivial, ?_⟩
      gi_wp2_with (gi_at_builtin; refine wpListIn_app1 slLine rfl (.tmp 67) (.tmp 71) rfl rfl HH.out.1 rfl (m := 1) (c := 1) (ys := [.int .i64 p, .slice A3 n3 c3]) rfl (by simp [Value.oneCell']) (by omega) (by omega) ?_; intro A4 c4 w5 ob4 hrow2 hfr2 hob2; have hg3 := (hfr2.block g17 hgx (fun e => HH.out.2 e.symm)).trans HX.out.2.2.1; have HF := hid (And.intro hrow2 (And.intro hfr2 (And.intro hob2 hg3))); clear hrow2 hfr2 hob2 q0 q1; obtain ⟨q0, q1⟩ := blk1lawLines hg3; clear hg3)
      have hZ := Fr.set1 w5 g17 0 (.slice A4 (k + 1) c4)
      have hpush := HX.out.2.2.2.1.push x HX.out.1 (by rw [HYS.out]; exact HF.out.1) HF.out.2.1 HF.out.2.2.1 (by omega)
      have hfw := HX.out.2.2.2.2.fresh HF.out.2.1 (fun j hj => by have := HX.out.2.2.2.1.2.2.2 j hj; have := H10.out.2.2; omega)
      have hgw := H10.out.2.2
      have hfT : Fr (fun b => (b = g17 ∨ ob = some b) ∨ blkOf #[.int .i64 p, .slice A3 n3 c3] b) X2 (w5.setCell ⟨g17, 0, none⟩ (.slice A4 (k + 1) c4)) :=
        (HF.out.2.1.mono (S' := fun b => (b = g17 ∨ ob = some b) ∨ blkOf #[.int .i64 p, .slice A3 n3 c3] b) (fun b _ e => .inl (.inr e.symm))).trans hZ (fun b _ e => .inl (.inl e))
      refine ⟨fun b => b = g17 ∨ ob4 = some b, ⟨A4, c4, ob4, xs ++ [x], rfl, by rw [heap_set _ _ _ _ _ _ HF.out.2.2.2]; rfl, by rw [HX.out.2.1]; exact hpush.fr hZ (fun b hb (e : b = g17) => by omega), hfw.trans hZ (fun j hj (e : j = g17) => by omega)⟩, hfT, fun b hb => ?_⟩
      rcases hb with rfl | hb
      · exact ⟨Nat.lt_of_lt_of_le hgx hfT.size, .inl (.inl rfl)⟩
      · refine ⟨by have := hpush.1.lt hb; have := hZ.size; omega, ?_⟩
        rcases HF.out.2.2.1 with e | ⟨j, e, hj⟩
        · exact .inl (.inr (by rw [← e]; exact hb))
        · rw [e] at hb; injection hb with hb; exact .inr (by omega)
    case done =>
      rintro T Z ⟨A5, c5, ob5, xs5, rfl, h1, h2, h3⟩ hD
      rw [List.take_length] at h2
      have hk2N := HR1.out.2.2.2.2.2.2
      rw [← hk2N] at h1 h2
      obtain ⟨q17, _⟩ := blk1lawLines h1
      have hg13 := (h3.block g (by have := H10.out.2.2; omega) (fun h => h)).trans HR1.out.1
      obtain ⟨q13, _⟩ := blk1lawLines hg13
      have hg7 := (h3.block g7 (by have := H4.out.2.2.2.2.1.2; have := H10.out.2.2; omega) (fun h => h)).trans ((HR1.out.2.2.1.block g7 H4.out.2.2.2.2.1.2 (fun h => h)).trans ((H4.out.2.1.block g7 H4.out.2.2.2.2.1.2 (fun h => h)).symm.trans H4.out.2.2.2.2.1.1))
      obtain ⟨q7, _⟩ := blk1lawLines hg7
      have hmin := HR1.out.2.2.2.2.1
      have hself : ((kk : Int) == (kk : Int)) = true := by simp
      have hc2 : k2 ≤ c2 := by obtain ⟨A', c', e', h, _⟩ := H2.out.1.1.cells; injection e' with _ _ e2; omega
      have hcut := cut_h slLine A2 k2 c2 (kk : Int) kk rfl (by omega)
      obtain ⟨x1, x2, x3, x4⟩ := HR1.out.2.1.same h3 (fun it hit => H4.out.2.2.2.1 it (List.mem_of_mem_take hit))
      obtain ⟨y1, y2, y3, y4⟩ := h2.same (Fr.refl _ _) H4.out.2.2.2.1
      obtain ⟨z1, z2, z3, z4⟩ := H2.out.1.same ((H3.out.2.1.then HR1.out.2.2.1).then h3) (itsOf_len X Y laced)
      rw [← HITS.out] at z3
      have hsame1 : LnsIn Z A2 (xs2.take kk) := z1.take kk
      have HC := hid (And.intro x1 (And.intro hsame1 (And.intro x2 (And.intro (show xs1.map LN.it = (xs2.take kk).map LN.it by rw [x3, List.map_take, z3]) x4))))
      have HC2 := hid (And.intro y1 (And.intro z1 (And.intro y2 (And.intro (y3.trans z3.symm) y4))))
      have HE := hid (And.intro hD (And.intro h3 hk2N))
      clear x1 x2 x3 x4 y1 y2 y3 y4 z1 z2 z3 z4 hsame1 h1 h2 h3 hD hk2N hg13 hg7 hc2
      have S1 : Hid (∀ n, Calls Try.prog 18 #[.slice A1 kk c1, .slice A2 kk c2] (Z.drewN n) fun e w' => e = .returned (.bool true) ∧ ∃ m, w' = (Z.drewN n).drewN m) := fun n =>
        refSame_quiet A1 A2 kk c1 c2 xs1 (xs2.take kk) _ (HC.out.1.fr0 ((Fr.refl _ _).drewN n)) (HC.out.2.1.fr0 ((Fr.refl _ _).drewN n)) HC.out.2.2.1 HC.out.2.2.2.1 (by omega) HC.out.2.2.2.2
      have S2 : Hid (∀ n, Calls Try.prog 18 #[.slice A5 k2 c5, .slice A2 k2 c2] (Z.drewN n) fun e w' => e = .returned (.bool true) ∧ ∃ m, w' = (Z.drewN n).drewN m) := fun n =>
        refSame_quiet A5 A2 k2 c5 c2 xs5 xs2 _ (HC2.out.1.fr0 ((Fr.refl _ _).drewN n)) (HC2.out.2.1.fr0 ((Fr.refl _ _).drewN n)) HC2.out.2.2.1 HC2.out.2.2.2.1 hk2 HC2.out.2.2.2.2
      go_wp2_with fail
      go_quiet ((first | (go_at_call_of 18 (Value.slice A1 kk c1); exact Calls.quiet_of (S1.out _)) | (go_at_call_of 18 (Value.slice A5 k2 c5); exact Calls.quiet_of (S2.out _))))
      go_wp2_with fail
      have hfw := ((HB7.out.2.1.then H2.out.2).then H3.out.2.1).then (HR1.out.2.2.1.then HE.out.2.1)
      have hsz3 := ((HB7.out.2.1.then H2.out.2).then H3.out.2.1).size
      have hD4 : ((Z.drewN nq).putObj w10.heap.size (.deferred none)).heap[w4.heap.size]? = some (.deferred (some [])) := by
        rw [(Fr.putObj w10.heap.size (Z.drewN nq) (.deferred none)).block w4.heap.size (Nat.lt_of_lt_of_le (by have := H10.out.2.2; omega) (show X9.heap.size ≤ Z.heap.size from HE.out.2.1.size)) (fun e => by have e : w4.heap.size = w10.heap.size := e; omega)]
        exact (HE.out.2.1.block w4.heap.size (by have := H10.out.2.2; omega) (fun h => h)).trans HR1.out.2.2.2.1
      refine ⟨by simp, .inl ⟨_, _, rfl, run_takeDeferred (show (Z.drewN nq).heap[w10.heap.size]? = some (.deferred (some [])) from HE.out.1), ?_⟩⟩
      refine ⟨by simp, .inl ⟨_, _, rfl, run_takeDeferred hD4, ?_⟩⟩
      refine ⟨_, results_tmp rfl _ _ _, ?_⟩
      exact ⟨rfl, ((hfw.drewN nq).trans (Fr.putObj _ _ _) (fun j hj (e : j = w10.heap.size) => by omega)).trans (Fr.putObj _ _ _) (fun j hj (e : j = w4.heap.size) => by omega)⟩
  case stop =>
    rintro cc kk X9 hkN ⟨rfl, hkk, T, A1, c1, ob1, xs1, _, h1, hks, h2, h3⟩ hD
    have hk2N : k2 = its.length := by rw [HITS.out]; exact H2.out.1.len.symm
    have hmin : mn (k2 : Int) (stop : Int) = (kk : Int) := by rw [hkk, hk2N]; exact mn_right _ _ (by omega)
    have hkle : kk ≤ k2 := by omega
    clear hkN
    refine wpIn_wide.2 ?_
    have HR1 := hid (And.intro h1 (And.intro h2 (And.intro h3 (And.intro hD (And.intro hmin (And.intro hkk hk2N))))))
    have hD9 : w4.heap.size < X9.heap.size := (Array.getElem?_eq_some_iff.1 hD).1
    have h39 := h3.size
    have hg9 : g < X9.heap.size := (Array.getElem?_eq_some_iff.1 h1).1
    clear h1 h2 h3 hD hmin hkk hk2N
    go_wp2_with fail
    obtain ⟨g17, hg17⟩ : ∃ g, g = X9.heap.size := ⟨_, rfl⟩
    obtain ⟨w10, hw10⟩ : ∃ w10, w10 = X9.alloc (.cells #[.slice none 0 0] 27) := ⟨_, rfl⟩
    have hs10 : w10.heap.size = g17 + 1 := by rw [hw10, World.size_alloc, hg17]
    have hb10 : w10.heap[g17]? = some (.cells #[.slice none 0 0] 27 (0, 0)) := by rw [hw10, hg17]; exact heap_new _ _
    have hf10 : Fr No X9 w10 := by rw [hw10]; exact (Fr.refl _ _).alloc _
    rw [← hw10, ← hg17]
    rw [← hg17] at hD9 h39 hg9
    have H10 := hid (And.intro hb10 (And.intro hf10 hg17))
    clear hw10 hb10 hg17
    refine wpIn_wide.1 (wpIn_rangeFunc_T (F := Fence.wide) (n := 4) rfl (by omega) (gf := 65) (lb := #[.pointer (some ⟨gI, 0, none⟩)]) rfl trivial (enters_of Try.func65 (by kernel_rfl) rfl)
      HSEQ.out (by omega) (KeepLU.of_fr (HR1.out.2.2.1.then hf10) (Nat.le_refl _) (fun _ _ _ h => h)) (by omega)
      (fun k T X => ∃ A c ob xs, T = (fun b => b = g17 ∨ ob = some b) ∧ X.heap[g17]? = some (.cells #[.slice A k c] 27 (0, 0)) ∧ NewL X (w10.heap.size + 2) (its.take k) A k c ob xs ∧ Fr No X9 X)
      (fun _ _ _ => False) (fun b => b = g17 ∨ (none : Option Nat) = some b) ?hT0 ?hI (fun _ _ _ _ h _ => h) ?hIT ?h0 ?hOk ?round ?done (fun _ _ _ _ h _ => h.elim))
    case hT0 =>
      rintro b (rfl | e)
      · exact ⟨by omega, by omega⟩
      · cases e
    case hI =>
      rintro k T X Y ⟨A, c, ob, xs, rfl, h1, h2, h3⟩ hf
      have hl8 : g17 < X.heap.size := (Array.getElem?_eq_some_iff.1 h1).1
      exact ⟨A, c, ob, xs, rfl, (hf.block g17 hl8 (fun e => by have e : g17 = w10.heap.size + 1 := e; omega)).trans h1, h2.fr hf (fun b hb e => by have e : b = w10.heap.size + 1 := e; omega), h3.trans hf (fun j hj e => by have e : j = w10.heap.size + 1 := e; have := H10.out.2.2; omega)⟩
    case hIT =>
      rintro k T X ⟨A, c, ob, xs, rfl, h1, h2, h3⟩ b (rfl | e)
      · exact ⟨by omega, by omega⟩
      · have := h2.2.2.2 b e; exact ⟨by omega, by omega⟩
    case h0 => intro X hf; exact ⟨none, 0, none, [], rfl, (hf.block g17 (by omega) (fun h => h)).trans H10.out.1, NewL.nil _ _, H10.out.2.1.then hf⟩
    case hOk =>
      intro k args X hk hok
      exact ⟨hok.args.1, fun b hb => by have := hok.args.2 b hb; omega, fun X' hf => hok.fr hf (fun b hb e => by have e : b = w10.heap.size + 1 := e; omega)⟩
    case round =>
      rintro k T args X X2 hk ⟨A, c, ob, xs, rfl, h1, h2, h3⟩ hTs hsz ⟨it, A3, n3, c3, ob3, hit, rfl, hl3, hrow3, hob3⟩
      obtain ⟨q0, q1⟩ := blk1lawLines h1
      replace hit := H4.out.2.2.1 _ _ hit
      obtain ⟨hik, hie⟩ := List.getElem?_eq_some_iff.1 hit
      obtain ⟨x, hx⟩ : ∃ x : LN, x = ⟨it.1, it.2, A3, c3⟩ := ⟨_, rfl⟩
      have hxit : its.take (k + 1) = its.take k ++ [x.it] := by rw [List.take_succ_eq_append_getElem hik, hie, hx]; rfl
      have hcel : Cells X2 x.A (spotC x.s) ∧ ∀ ad, x.A = some ad → w10.heap.size + 2 ≤ ad.block ∧ ad.block < X2.heap.size ∧ ob ≠ some ad.block := by
        rw [hx]
        obtain ⟨A', c', e', _, hc', hA'⟩ := hrow3.cells
        injection e' with e1 _ _
        subst e1
        refine ⟨hc', fun ad e => ⟨hob3 _ (hA' ad e), hrow3.lt (hA' ad e), fun e2 => ?_⟩⟩
        refine (hTs ad.block (.inr e2)).2 ⟨1, ad, n3, c3, ?_, rfl⟩
        rw [show A3 = some ad from e]; rfl
      have hys : lnC x = [.int .i64 (it.1 : Nat), .slice A3 n3 c3] := by rw [hx, ← hl3]; rfl
      have HX := hid (And.intro hcel (And.intro hxit (And.intro h1 (And.intro h2 h3))))
      have hgx : g17 < X2.heap.size := (Array.getElem?_eq_some_iff.1 h1).1
      have hkl : k < its.length := hk
      have hnob : ob ≠ some g17 := fun e => by have := h2.2.2.2 g17 e; omega
      have hrow := h2.1
      have HH := hid (And.intro hrow hnob)
      obtain ⟨p, hp⟩ : ∃ p, p = it.1 := ⟨_, rfl⟩
      rw [← hp] at hys ⊢
      have HYS := hid hys
      clear hit hie hxit hcel hys h1 h2 h3 hrow3 hob3 hTs hx hp hl3 hrow hnob
      simp only [List.zip_toArray, List.zip_cons_cons, List.zip_nil_right, List.foldl_toArray, List.foldl_cons, List.foldl_nil, List.setIfInBounds_toArray, List.set_cons_zero, List.set_cons_succ]
      gi_wp2
      refine ⟨trivial, ?_⟩
      gi_wp2_with (gi_at_builtin; refine wpListIn_app1 slLine rfl (.tmp 67) (.tmp 71) rfl rfl HH.out.1 rfl (m := 1) (c := 1) (ys := [.int .i64 p, .slice A3 n3 c3]) rfl (by simp [Value.oneCell']) (by omega) (by omega) ?_; intro A4 c4 w5 ob4 hrow2 hfr2 hob2; have hg3 := (hfr2.block g17 hgx (fun e => HH.out.2 e.symm)).trans HX.out.2.2.1; have HF := hid (And.intro hrow2 (And.intro hfr2 (And.intro hob2 hg3))); clear hrow2 hfr2 hob2 q0 q1; obtain ⟨q0, q1⟩ := blk1lawLines hg3; clear hg3)
      have hZ := Fr.set1 w5 g17 0 (.slice A4 (k + 1) c4)
      have hpush := HX.out.2.2.2.1.push x HX.out.1 (by rw [HYS.out]; exact HF.out.1) HF.out.2.1 HF.out.2.2.1 (by omega)
      have hfw := HX.out.2.2.2.2.fresh HF.out.2.1 (fun j hj => by have := HX.out.2.2.2.1.2.2.2 j hj; have := H10.out.2.2; omega)
      have hgw := H10.out.2.2
      have hfT : Fr (fun b => (b = g17 ∨ ob = some b) ∨ blkOf #[.int .i64 p, .slice A3 n3 c3] b) X2 (w5.setCell ⟨g17, 0, none⟩ (.slice A4 (k + 1) c4)) :=
        (HF.out.2.1.mono (S' := fun b => (b = g17 ∨ ob = some b) ∨ blkOf #[.int .i64 p, .slice A3 n3 c3] b) (fun b _ e => .inl (.inr e.symm))).trans hZ (fun b _ e => .inl (.inl e))
      refine ⟨fun b => b = g17 ∨ ob4 = some b, ⟨A4, c4, ob4, xs ++ [x], rfl, by rw [heap_set _ _ _ _ _ _ HF.out.2.2.2]; rfl, by rw [HX.out.2.1]; exact hpush.fr hZ (fun b hb (e : b = g17) => by omega), hfw.trans hZ (fun j hj (e : j = g17) => by omega)⟩, hfT, fun b hb => ?_⟩
      rcases hb with rfl | hb
      · exact ⟨Nat.lt_of_lt_of_le hgx hfT.size, .inl (.inl rfl)⟩
      · refine ⟨by have := hpush.1.lt hb; have := hZ.size; omega, ?_⟩
        rcases HF.out.2.2.1 with e | ⟨j, e, hj⟩
        · exact .inl (.inr (by rw [← e]; exact hb))
        · rw [e] at hb; injection hb with hb; exact .inr (by omega)
    case done =>
      rintro T Z ⟨A5, c5, ob5, xs5, rfl, h1, h2, h3⟩ hD
      rw [List.take_length] at h2
      have hk2N := HR1.out.2.2.2.2.2.2
      rw [← hk2N] at h1 h2
      obtain ⟨q17, _⟩ := blk1lawLines h1
      have hg13 := (h3.block g (by have := H10.out.2.2; omega) (fun h => h)).trans HR1.out.1
      obtain ⟨q13, _⟩ := blk1lawLines hg13
      have hg7 := (h3.block g7 (by have := H4.out.2.2.2.2.1.2; have := H10.out.2.2; omega) (fun h => h)).trans ((HR1.out.2.2.1.block g7 H4.out.2.2.2.2.1.2 (fun h => h)).trans ((H4.out.2.1.block g7 H4.out.2.2.2.2.1.2 (fun h => h)).symm.trans H4.out.2.2.2.2.1.1))
      obtain ⟨q7, _⟩ := blk1lawLines hg7
      have hmin := HR1.out.2.2.2.2.1
      have hself : ((kk : Int) == (kk : Int)) = true := by simp
      have hc2 : k2 ≤ c2 := by obtain ⟨A', c', e', h, _⟩ := H2.out.1.1.cells; injection e' with _ _ e2; omega
      have hcut := cut_h slLine A2 k2 c2 (kk : Int) kk rfl (by omega)
      obtain ⟨x1, x2, x3, x4⟩ := HR1.out.2.1.same h3 (fun it hit => H4.out.2.2.2.1 it (List.mem_of_mem_take hit))
      obtain ⟨y1, y2, y3, y4⟩ := h2.same (Fr.refl _ _) H4.out.2.2.2.1
      obtain ⟨z1, z2, z3, z4⟩ := H2.out.1.same ((H3.out.2.1.then HR1.out.2.2.1).then h3) (itsOf_len X Y laced)
      rw [← HITS.out] at z3
      have hsame1 : LnsIn Z A2 (xs2.take kk) := z1.take kk
      have HC := hid (And.intro x1 (And.intro hsame1 (And.intro x2 (And.intro (show xs1.map LN.it = (xs2.take kk).map LN.it by rw [x3, List.map_take, z3]) x4))))
      have HC2 := hid (And.intro y1 (And.intro z1 (And.intro y2 (And.intro (y3.trans z3.symm) y4))))
      have HE := hid (And.intro hD (And.intro h3 hk2N))
      clear x1 x2 x3 x4 y1 y2 y3 y4 z1 z2 z3 z4 hsame1 h1 h2 h3 hD hk2N hg13 hg7 hc2
      have S1 : Hid (∀ n, Calls Try.prog 18 #[.slice A1 kk c1, .slice A2 kk c2] (Z.drewN n) fun e w' => e = .returned (.bool true) ∧ ∃ m, w' = (Z.drewN n).drewN m) := fun n =>
        refSame_quiet A1 A2 kk c1 c2 xs1 (xs2.take kk) _ (HC.out.1.fr0 ((Fr.refl _ _).drewN n)) (HC.out.2.1.fr0 ((Fr.refl _ _).drewN n)) HC.out.2.2.1 HC.out.2.2.2.1 (by omega) HC.out.2.2.2.2
      have S2 : Hid (∀ n, Calls Try.prog 18 #[.slice A5 k2 c5, .slice A2 k2 c2] (Z.drewN n) fun e w' => e = .returned (.bool true) ∧ ∃ m, w' = (Z.drewN n).drewN m) := fun n =>
        refSame_quiet A5 A2 k2 c5 c2 xs5 xs2 _ (HC2.out.1.fr0 ((Fr.refl _ _).drewN n)) (HC2.out.2.1.fr0 ((Fr.refl _ _).drewN n)) HC2.out.2.2.1 HC2.out.2.2.2.1 hk2 HC2.out.2.2.2.2
      go_wp2_with fail
      go_quiet ((first | (go_at_call_of 18 (Value.slice A1 kk c1); exact Calls.quiet_of (S1.out _)) | (go_at_call_of 18 (Value.slice A5 k2 c5); exact Calls.quiet_of (S2.out _))))
      go_wp2_with fail
      have hfw := ((HB7.out.2.1.then H2.out.2).then H3.out.2.1).then (HR1.out.2.2.1.then HE.out.2.1)
      have hsz3 := ((HB7.out.2.1.then H2.out.2).then H3.out.2.1).size
      have hD4 : ((Z.drewN nq).putObj w10.heap.size (.deferred none)).heap[w4.heap.size]? = some (.deferred (some [])) := by
        rw [(Fr.putObj w10.heap.size (Z.drewN nq) (.deferred none)).block w4.heap.size (Nat.lt_of_lt_of_le (by have := H10.out.2.2; omega) (show X9.heap.size ≤ Z.heap.size from HE.out.2.1.size)) (fun e => by have e : w4.heap.size = w10.heap.size := e; omega)]
        exact (HE.out.2.1.block w4.heap.size (by have := H10.out.2.2; omega) (fun h => h)).trans HR1.out.2.2.2.1
      refine ⟨by simp, .inl ⟨_, _, rfl, run_takeDeferred (show (Z.drewN nq).heap[w10.heap.size]? = some (.deferred (some [])) from HE.out.1), ?_⟩⟩
      refine ⟨by simp, .inl ⟨_, _, rfl, run_takeDeferred hD4, ?_⟩⟩
      refine ⟨_, results_tmp rfl _ _ _, ?_⟩
      exact ⟨rfl, ((hfw.drewN nq).trans (Fr.putObj _ _ _) (fun j hj (e : j = w10.heap.size) => by omega)).trans (Fr.putObj _ _ _) (fun j hj (e : j = w4.heap.size) => by omega)⟩
end Go.Proofs.Ytkhglmmidgfliaa

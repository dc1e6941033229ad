/- The contract of adam.across: the places of a pass's row. -/
import Derived.Test.YtkhglmmidgfliaaAdamD
namespace Go.Proofs.Ytkhglmmidgfliaa
open Go.RowKit Go.Proofs.HK
set_option linter.unusedVariables false
set_option linter.unusedSimpArgs false
attribute [local go_sem] max2_int min2_int max_two min_two

theorem Row.setz {w : World} {sz : Nat} {A : Option Addr} {n c : Nat} {ob : Option Nat} {cs : List Value} (h : Row w sz (.slice A n c) ob n cs) (i : Nat) (hi : i < n * sz) (u : Value) :
    ∃ g o old, A = some ⟨g, o, none⟩ ∧ ob = some g ∧ w.cell? ⟨g, o + i, none⟩ = some old ∧ w.frozen? ⟨g, o + i, none⟩ = false ∧ Row (w.setCell ⟨g, o + i, none⟩ u) sz (.slice A n c) ob n (cs.set i u) := by
  obtain ⟨h1, h2, h3⟩ := h
  rcases h3 with ⟨e, h0, _⟩ | ⟨g, o, cap, e, e2, e3, e4, e5, e6⟩
  · rw [h0] at hi; simp at hi
  · injection e with e7 e8 e9
    subst e7
    subst e9
    have hcap : i < c * sz := Nat.lt_of_lt_of_le hi (Nat.mul_le_mul_right _ e3)
    have hl : i < cs.length := by rw [h1]; exact hi
    have hcell : w.cell? ⟨g, o + i, none⟩ = some (cs.getD i undef) := by
      rw [e6 i _ (List.getElem?_eq_getElem hl)]; simp [List.getD, List.getElem?_eq_getElem hl]
    refine ⟨g, o, _, rfl, e2, hcell, (e5 i hcap).2, by simpa using h1, h2, .inr ⟨g, o, c, rfl, e2, e3, by simpa [World.setCell] using e4, fun j hj => ?_, fun j x hx => ?_⟩⟩
    · rw [World.frozen?_setCell]
      refine ⟨?_, (e5 j hj).2⟩
      by_cases hji : j = i
      · subst hji
        rw [World.cell?_setCell_same w _ u hcell]; rfl
      · rw [World.cell?_setCell_other w _ _ u (by intro e; injection e; omega)]
        exact (e5 j hj).1
    · by_cases hji : j = i
      · subst hji
        rw [List.getElem?_set_self hl] at hx
        injection hx with hx
        subst hx
        exact World.cell?_setCell_same w _ u hcell
      · rw [List.getElem?_set_ne (by omega)] at hx
        rw [World.cell?_setCell_other w _ _ u (by intro e; injection e; omega)]
        exact e6 j x hx
theorem Row.set2 {w : World} {ad : Addr} {n c : Nat} {ob : Option Nat} {cs : List Value} (h : Row w 2 (.slice (some ad) n c) ob n cs) (k : Nat) (hk : k < n) (a b : Value) :
    (∃ old, w.cell? (ad.add (k * 2)) = some old) ∧ w.frozen? (ad.add (k * 2)) = false ∧ (∃ old, ∀ u, (w.setCell (ad.add (k * 2)) u).cell? ⟨(ad.add (k * 2)).block, (ad.add (k * 2)).off + 1, none⟩ = some old) ∧ w.frozen? ⟨(ad.add (k * 2)).block, (ad.add (k * 2)).off + 1, none⟩ = false ∧
    Row ((w.setCell (ad.add (k * 2)) a).setCell ⟨(ad.add (k * 2)).block, (ad.add (k * 2)).off + 1, none⟩ b) 2 (.slice (some ad) n c) ob n ((cs.set (k * 2) a).set (k * 2 + 1) b) ∧
    Fr (Opt ob) w ((w.setCell (ad.add (k * 2)) a).setCell ⟨(ad.add (k * 2)).block, (ad.add (k * 2)).off + 1, none⟩ b) := by
  obtain ⟨g, o, old, e1, e2, e3, e4, e5⟩ := Row.setz h (k * 2) (by omega) a
  injection e1 with e1
  subst e1
  obtain ⟨g', o', old', f1, f2, f3, f4, f5⟩ := Row.setz e5 (k * 2 + 1) (by omega) b
  injection f1 with f1
  injection f1 with f1 f1' _
  subst f1 f1'
  obtain ⟨g2, o2, old2, d1, d2, d3, d4, _⟩ := Row.setz h (k * 2 + 1) (by omega) b
  injection d1 with d1
  injection d1 with d1 d1' _
  subst d1 d1'
  have ha : (⟨g, o, none⟩ : Addr).add (k * 2) = ⟨g, o + k * 2, none⟩ := add_lit _ _ _
  rw [ha]
  rw [e2]
  refine ⟨⟨_, e3⟩, e4, ⟨_, fun u => (World.cell?_setCell_other w _ _ u (fun e => by have e := congrArg Addr.off e; simp at e)).trans d3⟩, d4, ?_, ?_⟩
  · rw [e2] at f5; exact f5
  · exact (((Fr.refl (Opt (some g)) w).setCell (p := ⟨g, o + k * 2, none⟩) (fun _ => rfl) a).setCell (p := ⟨g, o + k * 2 + 1, none⟩) (fun _ => rfl) b)
section
variable {P : Program} {w : World} {ops : Array Oper} {rest : List Oper} {o : Oper} {a : Act} {Q : Exit → Act → World → Prop}
theorem wpList_mkz {t e : TypeId} {sz bytes : Nat} (hT : SlT P t e sz bytes) (hgd : o.guard = none) (l c : Operand) (ho : o.op = Op.makeSlice t l c)
    {kl kc : IntKind} {L C : Int} {n : Nat} (hl : a.eval l = .int kl L) (hc : a.eval c = .int kc C) (hL : L = (n : Int)) (hC : C = (n : Int)) (hb : bytes * n ≤ 281474976710656) (hn : n ≤ 9223372036854775807)
    (h : ∀ w' cs, Row w' sz (.slice (some ⟨w.heap.size, 0, none⟩) n n) (some w.heap.size) n cs → Fr No w w' → wpList P ops Q rest (a.put o.dst (.slice (some ⟨w.heap.size, 0, none⟩) n n)) w') :
    wpList P ops Q (o :: rest) a w := by
  obtain ⟨i, z, hi, hz, h2, h3, h4⟩ := hT.info
  refine wpList_make_full w hgd l c t ho w.heap.size e i z sz hT.und hi hz h2 kl kc L C n hl hc hL hC (by rw [h3]; exact hb) (by unfold maxLen; omega) (Nat.le_refl _) (fun w' ho hg => ?_)
  exact h w' _ (Row.of_owns ho) ((Fr.grown hg).mono (fun k _ h => by cases h))
end
theorem slSpot : SlT Try.prog 41 45 2 16 := SlT.of (z := .agg #[.int .i64 0, .int .i64 0]) Try.underlying41 (by kernel_rfl) rfl (by decide)
/-- Places, and their cells. -/
def spotRow (X Y DX DY W row : Nat) : List (Nat × Nat) := (List.range W).map fun i => (X + i * DX, Y + row * DY)
def spotC (l : List (Nat × Nat)) : List Value := l.flatMap fun s => [.int .i64 s.1, .int .i64 s.2]
theorem spotRow_length (X Y DX DY W row : Nat) : (spotRow X Y DX DY W row).length = W := by simp [spotRow]
theorem spotRow_succ (X Y DX DY k row : Nat) : spotRow X Y DX DY (k + 1) row = spotRow X Y DX DY k row ++ [(X + k * DX, Y + row * DY)] := by simp [spotRow, List.range_succ]
theorem spotC_append (l m : List (Nat × Nat)) : spotC (l ++ m) = spotC l ++ spotC m := by simp [spotC]
theorem spotC_length (l : List (Nat × Nat)) : (spotC l).length = l.length * 2 := by
  induction l with
  | nil => rfl
  | cons a l ih => unfold spotC at *; rw [List.flatMap_cons, List.length_append, ih, List.length_cons]; simp; omega
theorem set2_take (cs : List Value) (k : Nat) (a b : Value) (h : k * 2 + 1 < cs.length) : ((cs.set (k * 2) a).set (k * 2 + 1) b).take ((k + 1) * 2) = cs.take (k * 2) ++ [a, b] := by
  have e : ((cs.set (k * 2) a).set (k * 2 + 1) b).take (k * 2) = cs.take (k * 2) := by
    rw [List.take_set_of_le (by omega), List.take_set_of_le (Nat.le_refl _)]
  rw [show (k + 1) * 2 = k * 2 + 1 + 1 by omega, List.take_succ_eq_append_getElem (by simpa using h), List.take_succ_eq_append_getElem (by simp; omega), e]
  simp [List.getElem_set]
/-- v is a new slice of places. -/
def NewS (w w' : World) (v : Value) (l : List (Nat × Nat)) : Prop := ∃ A n c ob, v = .slice A n c ∧ l.length = n ∧ Row w' 2 (.slice A n c) ob n (spotC l) ∧ (∀ k, ob = some k → w.heap.size ≤ k) ∧ Fr No w w'
set_option maxRecDepth 100000 in
set_option maxHeartbeats 1600000 in
theorem across_calls (X Y DX DY W H row : Nat) (hX : X ≤ 4096) (hY : Y ≤ 4096) (hDX : DX ≤ 2048) (hDY : DY ≤ 2048) (hW : W ≤ 4096) (hr : row ≤ 4096) (w : World) :
    Calls Try.prog 66 #[passV X Y DX DY W H, .int .i64 row] w fun e w' => ∃ v, e = .returned v ∧ NewS w w' v (spotRow X Y DX DY W row) := by
  obtain ⟨rm, hrm⟩ : ∃ rm, rm = row * DY := ⟨_, rfl⟩
  have hrm2 : rm ≤ 8388608 := by rw [hrm]; exact Nat.mul_le_mul hr hDY
  have hrw : IntKind.i64.wrap ((row : Int) * (DY : Int)) = (rm : Int) := by rw [← Int.natCast_mul, ← hrm]; exact w64 _ (by omega) (by omega)
  have HRM := hid hrm
  clear hrm
  unfold passV
  go_enter Try.func66, Try.ntmps66
  go_wp2_with (at_make; refine wpList_mkz slSpot rfl (.tmp 8) (.tmp 8) rfl rfl rfl (n := W) rfl rfl (by omega) (by omega) ?_; intro w1 cs1 hrow1 hfr1; rw [World.size_alloc] at hrow1)
  have hb1 : w1.heap[w.heap.size]? = some (.cells #[.int .i64 X, .int .i64 Y, .int .i64 DX, .int .i64 DY, .int .i64 W, .int .i64 H] 24 (0, 0)) := (hfr1.block w.heap.size (by rw [World.size_alloc]; omega) (fun h => h)).trans (heap_new _ _)
  have hF1 : Fr No w w1 := ((Fr.refl No w).alloc _).then hfr1
  obtain ⟨g, hg⟩ : ∃ g, g = w.heap.size + 1 := ⟨_, rfl⟩
  rw [← hg] at hrow1 ⊢
  obtain ⟨ad, had⟩ : ∃ ad : Addr, ad = ⟨g, 0, none⟩ := ⟨_, rfl⟩
  rw [← had] at hrow1 ⊢
  have hgw : w.heap.size ≠ g := by omega
  have hgw2 : w.heap.size ≤ g := by omega
  have HF := hid (And.intro hb1 hF1)
  clear hb1 hF1 hfr1 had hg
  go_loopw [12] (fun i wr => ∃ (k : Nat) (cs : List Value), i = .int .i64 k ∧ Hid (k ≤ W ∧ Row wr 2 (.slice (some ad) W W) (some g) W cs ∧ cs.take (k * 2) = spotC (spotRow X Y DX DY k row) ∧ Fr (One g) w1 wr)) (fun i _ => W - (intOf i).toNat)
  case atStart => exact ⟨0, cs1, rfl, Nat.zero_le _, hrow1, rfl, Fr.refl _ _⟩
  case round =>
    obtain ⟨k, cs, rfl, HR⟩ := hrel
    have hkW := HR.out.1
    by_cases hlt : k < W
    · have hlt' : (k : Int) < (W : Int) := by omega
      obtain ⟨km, hkm⟩ : ∃ km, km = k * DX := ⟨_, rfl⟩
      have hkm2 : km ≤ 8388608 := by rw [hkm]; exact Nat.mul_le_mul (show k ≤ 4096 by omega) hDX
      have hkw : IntKind.i64.wrap ((k : Int) * (DX : Int)) = (km : Int) := by rw [← Int.natCast_mul, ← hkm]; exact w64 _ (by omega) (by omega)
      obtain ⟨⟨o0, m0⟩, f0, ⟨o1, m1⟩, f1, hrow2, hfr2⟩ := Row.set2 HR.out.2.1 k hlt (.int .i64 ((X + km : Nat) : Int)) (.int .i64 ((Y + rm : Nat) : Int))
      have hlen := HR.out.2.1.1
      have hst : ((cs.set (k * 2) (.int .i64 ((X + km : Nat) : Int))).set (k * 2 + 1) (.int .i64 ((Y + rm : Nat) : Int))).take ((k + 1) * 2) = spotC (spotRow X Y DX DY (k + 1) row) := by
        rw [set2_take _ _ _ _ (by omega), HR.out.2.2.1, spotRow_succ, spotC_append, ← hkm, ← HRM.out]; rfl
      have HS := hid (And.intro hrow2 (And.intro hfr2 hst))
      obtain ⟨⟨p0, p1, p2, p3, p4, p5⟩, _⟩ := blk6 ((HR.out.2.2.2.block w.heap.size (Array.getElem?_eq_some_iff.1 HF.out.1).1 hgw).trans HF.out.1)
      clear hrow2 hfr2 hst hlen hkm hkW
      go_wp2_with fail
      go_roundw
      case rel => exact ⟨k + 1, _, by go_num, by omega, HS.out.1, HS.out.2.2, HR.out.2.2.2.trans HS.out.2.1 (fun q hq e => Option.some.inj (show some q = some g from e))⟩
      case measure => simp [intOf] <;> omega
    · obtain rfl : k = W := by omega
      have hge : ¬ ((k : Int) < (k : Int)) := by omega
      clear hlt
      have h1 := HR.out.2.1
      have hcs : cs = spotC (spotRow X Y DX DY k row) := by
        have h2 := HR.out.2.2.1
        rwa [List.take_of_length_le (by rw [h1.1]; exact Nat.le_refl _)] at h2
      rw [hcs] at h1
      have H1 := hid h1
      clear h1 hcs
      go_wp2_with fail
      go_ret
      exact ⟨_, rfl, _, _, _, _, rfl, spotRow_length _ _ _ _ _ _, H1.out, fun q hq => by injection hq with hq; omega, HF.out.2.trans HR.out.2.2.2 (fun q hq (e : q = g) => by omega)⟩
end Go.Proofs.Ytkhglmmidgfliaa

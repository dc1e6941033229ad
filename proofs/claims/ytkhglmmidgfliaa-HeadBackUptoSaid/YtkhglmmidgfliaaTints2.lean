/- The contract of the document's ReadTints. -/
import Derived.Test.YtkhglmmidgfliaaTints
import Derived.Test.YtkhglmmidgfliaaClear2
import Derived.Deep.RegionHeld3
namespace Go.Proofs.Ytkhglmmidgfliaa
open Go.RowKit Go.Proofs.HK
set_option linter.unusedVariables false
set_option linter.unusedSimpArgs false
attribute [local go_sem] max2_int min2_int max_two min_two

/-- Which tables of colours are read. -/
def rtOk (C D : Int) (n : Nat) : Prop := C ≠ 0 ∧ C ≠ 4 ∧ n % 3 = 0 ∧ 1 ≤ n / 3 ∧ n / 3 ≤ 256 ∧ ¬ (C = 3 ∧ 2 ^ D.toNat < ((n / 3 : Nat) : Int))
instance (C D : Int) (n : Nat) : Decidable (rtOk C D n) := by unfold rtOk; exact inferInstance
def rtB (W H C D : Int) (bs : List UInt8) : List UInt8 := if mayS W H C D = true ∧ rtOk C D bs.length then bs else []
def rtE (W H C D : Int) (bs : List UInt8) : Int := if mayS W H C D = true then (if rtOk C D bs.length then 0 else 12) else 11
/-- v is a new table of colours that reads as the bytes ts. -/
def NewT (w w' : World) (v : Value) (ts : List UInt8) : Prop := (∃ A n c ob, v = .slice A n c ∧ ts.length = 3 * n ∧ Row w' 3 (.slice A n c) ob n (ts.map B) ∧ (∀ k, ob = some k → w.heap.size ≤ k)) ∧ Fr No w w'
theorem NewT.nil {w w' : World} (h : Fr No w w') : NewT w w' (.slice none 0 0) [] := ⟨⟨none, 0, 0, none, rfl, rfl, Row.nil _ _, fun _ h => by cases h⟩, h⟩
theorem NewT.use {w w' : World} {v : Value} {ts : List UInt8} (h : NewT w w' v ts) : ∃ A n c, v = .slice A n c ∧ Hid (ts.length = 3 * n ∧ Cells w' A (ts.map B) ∧ Fr No w w') := by
  obtain ⟨⟨A, n, c, ob, h1, h2, h3, h4⟩, h5⟩ := h
  obtain ⟨A', c', e, _, hc, _⟩ := h3.cells
  injection e with e1 e2 e3
  subst e1
  exact ⟨A, n, c, h1, h2, hc, h5⟩
def RtPost (W H C D : Int) (bs : List UInt8) (w : World) (e : Ending) (w' : World) : Prop :=
  ∃ v, e = .returned (.tuple #[v, .int .i64 (rtE W H C D bs)]) ∧ NewT w w' v (rtB W H C D bs)
theorem RtPost.bad {W H C D : Int} {bs : List UInt8} {w w' : World} {e : Ending} {er : Int} (h : rtB W H C D bs = [] ∧ rtE W H C D bs = er) (he : e = .returned (.tuple #[.slice none 0 0, .int .i64 er])) (hf : Fr No w w') : RtPost W H C D bs w e w' := by
  unfold RtPost
  rw [h.1, h.2]
  exact ⟨_, he, NewT.nil hf⟩
theorem rt_no {W H C D : Int} {bs : List UInt8} (h : mayS W H C D = false) : rtB W H C D bs = [] ∧ rtE W H C D bs = 11 := by unfold rtB rtE; simp [h]
theorem rt_bad {W H C D : Int} {bs : List UInt8} (h : mayS W H C D = true) (h' : ¬ rtOk C D bs.length) : rtB W H C D bs = [] ∧ rtE W H C D bs = 12 := by unfold rtB rtE; simp [h, h']
theorem rt_good {W H C D : Int} {bs : List UInt8} (h : mayS W H C D = true) (h' : rtOk C D bs.length) : rtB W H C D bs = bs ∧ rtE W H C D bs = 0 := by unfold rtB rtE; simp [h, h']

theorem add_succ' (ad : Addr) (j : Nat) : ad.add (j + 1) = ⟨ad.block, ad.off + (j + 1), none⟩ := by unfold Addr.add; rw [if_neg (by omega)]
theorem keepT {S : Nat → Prop} {w w1 : World} {ad : Addr} {i j k : Nat} {a b c : Option Value} (hf : Fr S w w1) (hg : ad.block < w.heap.size) (hn : ¬ S ad.block) (h : w.cell? (ad.add i) = a ∧ w.cell? ⟨ad.block, ad.off + j, none⟩ = b ∧ w.cell? ⟨ad.block, ad.off + k, none⟩ = c) :
    w1.cell? (ad.add i) = a ∧ w1.cell? ⟨ad.block, ad.off + j, none⟩ = b ∧ w1.cell? ⟨ad.block, ad.off + k, none⟩ = c := by
  rw [hf.cell (p := ad.add i) (by rw [add_block]; exact hg) (by rw [add_block]; exact hn), hf.cellg ad.block (ad.off + j) hg hn, hf.cellg ad.block (ad.off + k) hg hn]; exact h
set_option maxRecDepth 100000 in
set_option maxHeartbeats 3200000 in
theorem refReadTints_calls (W H C D : Int) (L : Bool) (A : Option Addr) (bs : List UInt8) (n c : Nat) (hn : bs.length = n) (w : World) (hr : Rd B w A bs) (hl : n ≤ 140737488351232) :
    Calls Try.prog 39 #[headV W H C D L, .slice A n c] w (RtPost W H C D bs w) := by
  have HR := hid (And.intro hn hr)
  clear hn hr
  cases hm : mayS W H C D with
  | false =>
    have HS := hid (rt_no (bs := bs) hm)
    unfold headV
    go_enter Try.func39, Try.ntmps39
    go_wp2_with (go_at_call 29; refine (refMay_calls W H C D L _).mono ?_; rw [hm]; rintro e w1 ⟨rfl, hf1⟩)
    go_ret2
    exact RtPost.bad HS.out rfl (((Fr.refl No w).alloc _).then hf1)
  | true =>
    obtain ⟨_, hD1, hD2⟩ := may_facts hm
    have HM := hid hm
    unfold headV
    go_enter Try.func39, Try.ntmps39
    go_wp2_with fail
    refine (refMay_calls W H C D L _).mono ?_
    rw [hm]
    rintro e w1 ⟨rfl, hf1⟩
    obtain ⟨g, hgg⟩ : ∃ g, g = w.heap.size := ⟨_, rfl⟩
    obtain ⟨c0, c1, c2, c3, c4, _⟩ := blk5 ((hf1.block w.heap.size (by rw [World.size_alloc]; omega) (fun h => h)).trans (heap_new _ _))
    rw [← hgg] at c0 c1 c2 c3 c4 ⊢
    have hg1 : g < w1.heap.size := lt_of_cell c0
    have HF := hid (And.intro (((Fr.refl No w).alloc _).then hf1) hgg)
    obtain ⟨q, hq⟩ : ∃ q, q = n / 3 := ⟨_, rfl⟩
    obtain ⟨r, hr⟩ : ∃ r, r = n % 3 := ⟨_, rfl⟩
    have HQ := hid (And.intro hq (And.intro hr (show n = 3 * q + r by omega)))
    have t1 : (n : Int) / 3 = (q : Int) := by omega
    have t2 : (n : Int) % 3 = (r : Int) := by omega
    have t3 : (n : Int).tdiv 3 = (q : Int) := by rw [Int.tdiv_eq_ediv_of_nonneg (by omega)]; exact t1
    have t4 : (n : Int).tmod 3 = (r : Int) := by rw [Int.tmod_eq_emod_of_nonneg (by omega)]; exact t2
    clear hf1 hgg c0 c1 c4 hm hq hr
    by_cases h0 : C = 0
    · have HS := hid (rt_bad (bs := bs) HM.out (fun h => h.1 h0))
      subst h0
      go_wp2_with fail
      go_ret2
      exact RtPost.bad HS.out rfl HF.out.1
    have b0 : (C == 0) = false := by simpa using h0
    by_cases h4 : C = 4
    · have HS := hid (rt_bad (bs := bs) HM.out (fun h => h.2.1 h4))
      subst h4
      clear h0 b0
      go_wp2_with fail
      go_ret2
      exact RtPost.bad HS.out rfl HF.out.1
    have b4 : (C == 4) = false := by simpa using h4
    by_cases hr0 : r ≠ 0
    · have HS := hid (rt_bad (bs := bs) HM.out (fun h => hr0 (by rw [HQ.out.2.1, ← HR.out.1]; exact h.2.2.1)))
      have br : ((r : Int) != 0) = true := by rw [bne_iff_ne]; omega
      clear h0 h4 hr0
      go_wp2_with fail
      go_ret2
      exact RtPost.bad HS.out rfl HF.out.1
    obtain rfl : r = 0 := by omega
    clear hr0
    by_cases hq1 : q = 0
    · have HS := hid (rt_bad (bs := bs) HM.out (fun h => by have h := h.2.2.2.1; rw [HR.out.1, ← HQ.out.1] at h; omega))
      subst hq1
      clear h0 h4
      go_wp2_with fail
      go_ret2
      exact RtPost.bad HS.out rfl HF.out.1
    have bq1 : ¬ ((q : Int) < 1) := by omega
    by_cases hq2 : q > 256
    · have HS := hid (rt_bad (bs := bs) HM.out (fun h => by have h := h.2.2.2.2.1; rw [HR.out.1, ← HQ.out.1] at h; omega))
      have bq2 : (q : Int) > 256 := by omega
      clear h0 h4 hq1 hq2
      go_wp2_with fail
      go_ret2
      exact RtPost.bad HS.out rfl HF.out.1
    have bq2 : ¬ ((q : Int) > 256) := by omega
    obtain ⟨d, rfl⟩ : ∃ d : Nat, D = d := ⟨D.toNat, by omega⟩
    have hwd : IntKind.u64.wrap (d : Int) = (d : Int) := by rw [IntKind.wrap_u64]; omega
    have hd0 : (0 : Int) ≤ (d : Int) := by omega
    have hd1 : (d : Int) ≤ 64 := by omega
    obtain ⟨P, hP⟩ : ∃ P : Int, P = 2 ^ d := ⟨_, rfl⟩
    have hsh : wrap64 (2 ^ d) = P := (wrap64_id (Int.pow_pos (by decide)) (pow16 d (by omega))).trans hP.symm
    have HP := hid hP
    clear hP
    by_cases hbig : C = 3 ∧ (q : Int) > P
    · have HS := hid (rt_bad (bs := bs) HM.out (fun h => h.2.2.2.2.2 ⟨hbig.1, by rw [HR.out.1, ← HQ.out.1, Int.toNat_natCast, ← HP.out]; exact hbig.2⟩))
      obtain ⟨rfl, hb2⟩ := hbig
      clear h0 h4 b0 b4
      go_wp2_with fail
      go_ret2
      exact RtPost.bad HS.out rfl HF.out.1
    have HS := hid (rt_good (bs := bs) HM.out ⟨h0, h4, by rw [HR.out.1, ← HQ.out.2.1], by rw [HR.out.1, ← HQ.out.1]; omega, by rw [HR.out.1, ← HQ.out.1]; omega, by rw [HR.out.1, ← HQ.out.1, Int.toNat_natCast, ← HP.out]; exact hbig⟩)
    have hcase : (C == 3) = false ∨ (C == 3) = true ∧ ¬ ((q : Int) > P) := by
      by_cases h3 : C = 3
      · exact .inr ⟨by simpa using h3, fun h => hbig ⟨h3, h⟩⟩
      · exact .inl (by simpa using h3)
    clear h0 h4 hbig hq1
    rcases hcase with hb3 | ⟨hb3, hb3'⟩
    all_goals
      go_wp2_with fail
      have HW := hid HF.out.1
      go_loopw [7, 8] (fun v i wr => ∃ (k : Nat) (A1 : Option Addr) (c1 : Nat) (ob1 : Option Nat), k ≤ q ∧ i = .int .i64 k ∧ v = .slice A1 k c1 ∧
          Row wr 3 (.slice A1 k c1) ob1 k ((bs.take (3 * k)).map B) ∧ (∀ j, ob1 = some j → w1.heap.size ≤ j) ∧ Fr No w1 wr)
        (fun _ i _ => q - (intOf i).toNat)
      case atStart => exact ⟨0, none, 0, none, by omega, rfl, rfl, Row.nil _ _, fun _ h => (by cases h), Fr.refl _ _⟩
      case round =>
        obtain ⟨k, A1, c1, ob1, hk, rfl, rfl, h1, h2, h3⟩ := hrel
        have HREL := hid (And.intro h1 (And.intro h2 h3))
        clear h1 h2 h3
        by_cases hlt : k < q
        · have h3k : 3 * k + 3 ≤ n := by have := HQ.out.2.2; omega
          obtain ⟨ad, rfl, hcx⟩ : ∃ ad, A = some ad ∧ ∀ j, j < n → wr.cell? (ad.add j) = some (.int .u8 ((rdB bs j).toNat : Int)) := by
            obtain ⟨ad, e, hc⟩ := ((HR.out.2.fr0 HF.out.1).fr0 HREL.out.2.2) (by rw [HR.out.1]; omega)
            exact ⟨ad, e, fun j hj => by rw [hc j (by rw [HR.out.1]; exact hj)]; simp [B, rdB, List.getD, List.getElem?_eq_getElem (show j < bs.length by rw [HR.out.1]; exact hj)]⟩
          have q0 := hcx (3 * k) (by omega)
          have q1 := hcx (3 * k + 1) (by omega)
          have q2 := hcx (3 * k + 2) (by omega)
          have hst := congrArg (List.map B) (take3 bs k (by rw [HR.out.1]; exact h3k))
          rw [List.map_append] at hst
          obtain ⟨x0, hx0⟩ : ∃ x : Int, x = ((rdB bs (3 * k)).toNat : Int) := ⟨_, rfl⟩
          obtain ⟨x1, hx1⟩ : ∃ x : Int, x = ((rdB bs (3 * k + 1)).toNat : Int) := ⟨_, rfl⟩
          obtain ⟨x2, hx2⟩ : ∃ x : Int, x = ((rdB bs (3 * k + 2)).toNat : Int) := ⟨_, rfl⟩
          have hys : [rdB bs (3 * k), rdB bs (3 * k + 1), rdB bs (3 * k + 2)].map B = [.int .u8 x0, .int .u8 x1, .int .u8 x2] := by rw [hx0, hx1, hx2]; rfl
          rw [hys] at hst
          rw [← hx0] at q0
          rw [← hx1] at q1
          rw [← hx2] at q2
          have HS2 := hid hst
          have hadw : ad.block < w.heap.size := HR.out.2.lt (by rw [HR.out.1]; omega)
          have hadl : ad.block < wr.heap.size := by have := HF.out.1.size; have := HREL.out.2.2.size; omega
          have hno : ¬ Opt ob1 ad.block := fun e => by have := HREL.out.2.1 _ e.symm; have := HF.out.1.size; omega
          have i0 : (0 : Int) ≤ 3 * (k : Int) := by omega
          have i1 : 3 * (k : Int) < (n : Int) := by omega
          have i2 : (0 : Int) ≤ 3 * (k : Int) + 1 := by omega
          have i3 : 3 * (k : Int) + 1 < (n : Int) := by omega
          have i4 : (0 : Int) ≤ 3 * (k : Int) + 2 := by omega
          have i5 : 3 * (k : Int) + 2 < (n : Int) := by omega
          have v0 : IntKind.i64.wrap (3 * (k : Int)) = 3 * (k : Int) := w64 _ i0 (by omega)
          have v1 : IntKind.i64.wrap (3 * (k : Int) + 1) = 3 * (k : Int) + 1 := w64 _ i2 (by omega)
          have v2 : IntKind.i64.wrap (3 * (k : Int) + 2) = 3 * (k : Int) + 2 := w64 _ i4 (by omega)
          have v3 : (3 * (k : Int)).toNat = 3 * k := by omega
          have v4 : (3 * (k : Int) + 1).toNat = 3 * k + 1 := by omega
          have v5 : (3 * (k : Int) + 2).toNat = 3 * k + 2 := by omega
          rw [add_succ'] at q1 q2
          clear hst hys hx0 hx1 hx2 hcx
          go_wp2_with fail
          go_region_held3 (fun w' => w'.cell? (ad.add (3 * k)) = some (.int .u8 x0) ∧ w'.cell? ⟨ad.block, ad.off + (3 * k + 1), none⟩ = some (.int .u8 x1) ∧ w'.cell? ⟨ad.block, ad.off + (3 * k + 1 + 1), none⟩ = some (.int .u8 x2))
            (first | assumption | exact ⟨q0, q1, q2⟩ | exact keepT hfr2 (by simp; omega) hno (by assumption) | exact keepT (((Fr.refl No wr).alloc _).drew) hadl (fun h => h) ⟨q0, q1, q2⟩)
            ((first
              | (refine step_app slT3 rfl (.tmp 55) (.tmp 74) rfl rfl (HREL.out.1.fr (S := No) ((Fr.refl _ _).alloc _) (fun _ _ h => h)).drew rfl (m := 1) (c := 1) (ys := [.int .u8 x0, .int .u8 x1, .int .u8 x2]) rfl (cells_new _ _ _) (by simp [Value.oneCell']) (by omega) (by omega) ?_; intro A2 c2 w2 ob2 hrow2 hfr2 hob2)
              | (refine step_app slT3 rfl (.tmp 55) (.tmp 74) rfl rfl (HREL.out.1.drew.fr (S := No) ((Fr.refl _ _).alloc _) (fun _ _ h => h)) rfl (m := 1) (c := 1) (ys := [.int .u8 x0, .int .u8 x1, .int .u8 x2]) rfl (cells_new _ _ _) (by simp [Value.oneCell']) (by omega) (by omega) ?_; intro A2 c2 w2 ob2 hrow2 hfr2 hob2)))
          clear v0 v1 v2 v3 v4 v5
          go_wp2_with fail
          go_roundw
          case rel =>
            rw [← HS2.out] at hrow2
            have hsr := HREL.out.2.2.size
            refine ⟨k + 1, A2, c2, ob2, by omega, by go_num, rfl, hrow2, fun j hj => ?_, ((HREL.out.2.2.alloc _).drew).fresh hfr2 HREL.out.2.1⟩
            rcases hob2 with h | ⟨i, h, hi⟩
            · exact HREL.out.2.1 j (by rw [← h]; exact hj)
            · rw [h] at hj; injection hj with hj; (try simp at hi); omega
          case measure => simp [intOf] <;> omega
        · obtain rfl : q = k := by omega
          have h1 := HREL.out.1
          rw [List.take_of_length_le (by rw [HR.out.1, HQ.out.2.2]; omega)] at h1
          have HO := hid (And.intro h1 (And.intro HREL.out.2.1 HREL.out.2.2))
          clear h1 hlt
          go_wp2_with fail
          go_ret2
          have hsz := HF.out.1.size
          unfold RtPost
          rw [HS.out.1, HS.out.2]
          exact ⟨_, rfl, ⟨_, _, _, _, rfl, by rw [HR.out.1, HQ.out.2.2]; rfl, HO.out.1, fun j hj => Nat.le_trans hsz (HO.out.2.1 j hj)⟩, HF.out.1.then HO.out.2.2⟩
end Go.Proofs.Ytkhglmmidgfliaa

/- The document's number and table. -/
import Derived.Test.YtamkfjbdcjkchaaDoorSSame
import Derived.Deep.RegionHeld3
namespace Go.Proofs.YtamkfjbdcjkchaaDoor
open Go.RowKit Go.Proofs.HK
set_option linter.unusedVariables false
set_option linter.unusedSimpArgs false
attribute [local go_sem] max2_int min2_int max_two min_two
theorem add_succ' (ad : Addr) (j : Nat) : ad.add (j + 1) = ⟨ad.block, ad.off + (j + 1), none⟩ := by unfold Addr.add; rw [if_neg (by omega)]
theorem keepT {S : Nat → Prop} {w w1 : World} {ad : Addr} {i j k : Nat} {a b c : Option Value} (hf : Fr S w w1) (hg : ad.block < w.heap.size) (hn : ¬ S ad.block) (h : w.cell? (ad.add i) = a ∧ w.cell? ⟨ad.block, ad.off + j, none⟩ = b ∧ w.cell? ⟨ad.block, ad.off + k, none⟩ = c) :
    w1.cell? (ad.add i) = a ∧ w1.cell? ⟨ad.block, ad.off + j, none⟩ = b ∧ w1.cell? ⟨ad.block, ad.off + k, none⟩ = c := by
  rw [hf.cell (p := ad.add i) (by rw [add_block]; exact hg) (by rw [add_block]; exact hn), hf.cellg ad.block (ad.off + j) hg hn, hf.cellg ad.block (ad.off + k) hg hn]; exact h
theorem le_two (bs : List UInt8) (h : 2 ≤ bs.length) : ((le (bs.take 2) : Nat) : Int) = ((rdB bs 0).toNat : Int) + 256 * ((rdB bs 1).toNat : Int) := by
  match bs, h with
  | a :: b :: l, _ =>
    show (((a.toNat + 256 * (b.toNat + 256 * 0) : Nat)) : Int) = (a.toNat : Int) + 256 * (b.toNat : Int)
    omega
set_option maxRecDepth 100000 in
theorem number17_calls (A : Option Addr) (bs : List UInt8) (n c : Nat) (hn : bs.length = n) (h2 : 2 ≤ n) (w : World) (hr : Rd B w A bs) :
    Calls Tryd.prog 22 #[.slice A n c] w fun e w' => e = .returned (.int .i64 ((le (bs.take 2) : Nat) : Int)) ∧ ∃ q, w' = w.drewN q := by
  obtain ⟨ad, rfl, hc⟩ := hr (by omega)
  have hcx : ∀ j, j < n → ∀ q, (w.drewN q).cell? (ad.add j) = some (.int .u8 ((rdB bs j).toNat : Int)) := fun j hj q => by
    show w.cell? (ad.add j) = _
    rw [hc j (by rw [hn]; exact hj)]; simp [B, rdB, List.getD, List.getElem?_eq_getElem (show j < bs.length by rw [hn]; exact hj)]
  have q0 := hcx 0 (by omega)
  have q1 := hcx 1 (by omega)
  obtain ⟨x0, hx0⟩ : ∃ x : Int, x = ((rdB bs 0).toNat : Int) := ⟨_, rfl⟩
  obtain ⟨x1, hx1⟩ : ∃ x : Int, x = ((rdB bs 1).toNat : Int) := ⟨_, rfl⟩
  have hx0b : 0 ≤ x0 ∧ x0 ≤ 255 := by have := (rdB bs 0).toNat_lt; omega
  have hx1b : 0 ≤ x1 ∧ x1 ≤ 255 := by have := (rdB bs 1).toNat_lt; omega
  rw [← hx0] at q0
  rw [← hx1] at q1
  have q1 : ∀ q, (w.drewN q).cell? ⟨ad.block, ad.off + 1, none⟩ = some (.int .u8 x1) := fun q => by rw [← q1 q, add_succ' ad 0]
  have q0 : ∀ q, (w.drewN q).cell? ad = some (.int .u8 x0) := fun q => q0 q
  have HV := hid (show ((le (bs.take 2) : Nat) : Int) = x0 + 256 * x1 by rw [le_two bs (by omega), hx0, hx1])
  have b1 : (0 : Int) < (n : Int) := by omega
  have b2 : (1 : Int) < (n : Int) := by omega
  clear hcx hc hr hx0 hx1 hn
  go_enter Tryd.func22, Tryd.ntmps22
  go_wp2_with fail
  go_quiet (fail)
  go_wp2_with fail
  go_ret
  rw [HV.out]
  exact ⟨rfl, _, rfl⟩
/-- What the document's table tells. -/
def tab17 (bs : List UInt8) (m : Nat) (w : World) (e : Ending) (w' : World) : Prop :=
  (if bs.length < 6 * 2 ^ (m % 8) then e = .returned (.tuple #[.slice none 0 0, .bool false]) else ∃ A n c, e = .returned (.tuple #[.slice A n c, .bool true]) ∧ TabN w.heap.size w' A n c (bs.take (6 * 2 ^ (m % 8)))) ∧ Fr No w w'
theorem tab17.short {bs : List UInt8} {m : Nat} {w w' : World} (h : bs.length < 6 * 2 ^ (m % 8)) (hf : Fr No w w') : tab17 bs m w (.returned (.tuple #[.slice none 0 0, .bool false])) w' := ⟨by rw [if_pos h], hf⟩
theorem tab17.full {bs : List UInt8} {m : Nat} {w w' : World} {A : Option Addr} {n c : Nat} (h : ¬ bs.length < 6 * 2 ^ (m % 8)) (ht : TabN w.heap.size w' A n c (bs.take (6 * 2 ^ (m % 8)))) (hf : Fr No w w') : tab17 bs m w (.returned (.tuple #[.slice A n c, .bool true])) w' := ⟨by rw [if_neg h]; exact ⟨A, n, c, rfl, ht⟩, hf⟩
set_option maxRecDepth 100000 in
set_option maxHeartbeats 3200000 in
theorem table17_calls (A : Option Addr) (bs : List UInt8) (n c : Nat) (m : Nat) (hm : m < 256) (hn : bs.length = n) (w : World) (hr : Rd B w A bs) (hl : n ≤ 140737488355328) :
    Calls Tryd.prog 24 #[.slice A n c, .int .u8 (m : Int)] w (tab17 bs m w) := by
  obtain ⟨k7, hk7⟩ : ∃ k, k = m % 8 := ⟨_, rfl⟩
  have hk7b : k7 ≤ 7 := by omega
  have hm7 : (m : Int) % 8 = (k7 : Int) := by omega
  obtain ⟨q, hq⟩ : ∃ x : Nat, x = 2 * 2 ^ k7 := ⟨_, rfl⟩
  have hqb : 2 ≤ q ∧ q ≤ 256 := by
    have h1 := Nat.pow_le_pow_right (n := 2) (by omega) hk7b
    have h2 : 0 < 2 ^ k7 := Nat.pow_pos (by decide)
    omega
  have hsh : wrap64 (2 * 2 ^ k7) = (q : Int) := by
    have e : (2 * 2 ^ k7 : Int) = (q : Int) := by rw [hq]; push_cast; rfl
    rw [e]
    exact wrap64_idS (by omega) (by omega)
  have H6 := hid (show 6 * 2 ^ (m % 8) = 3 * q by rw [← hk7, hq]; omega)
  have HN := hid (And.intro hn hr)
  have hm1 : (0 : Int) ≤ (m : Int) := by omega
  have hm2 : (m : Int) < 256 := by omega
  have hq1 : (0 : Int) ≤ (k7 : Int) := by omega
  clear hn hr hk7 hq
  by_cases hs : n < 3 * q
  · have HP := hid (fun w' => tab17.short (m := m) (w := w) (w' := w') (bs := bs) (by rw [H6.out, HN.out.1]; exact hs))
    go_enter Tryd.func24, Tryd.ntmps24
    go_wp2_with fail
    go_ret2
    exact HP.out _ (Fr.refl _ _)
  · have HP := hid (fun A' n' c' w' => tab17.full (m := m) (w := w) (w' := w') (bs := bs) (A := A') (n := n') (c := c') (by rw [H6.out, HN.out.1]; exact hs))
    rw [H6.out] at HP
    go_enter Tryd.func24, Tryd.ntmps24
    go_wp2_with fail
    rw [hsh, hm7]
    go_loopw [7, 8] (fun v i wr => ∃ (k : Nat) (A1 : Option Addr) (c1 : Nat), k ≤ q ∧ i = .int .i64 k ∧ v = .slice A1 k c1 ∧ Hid (∃ ob1,
        Row wr 3 (.slice A1 k c1) ob1 k ((bs.take (3 * k)).map B) ∧ (∀ j, ob1 = some j → w.heap.size ≤ j) ∧ Fr No w wr))
      (fun _ i _ => q - (intOf i).toNat)
    case atStart => exact ⟨0, none, 0, by omega, rfl, rfl, ⟨none, Row.nil _ _, fun _ h => (by cases h), Fr.refl _ _⟩⟩
    case round =>
      obtain ⟨k, A1, c1, hk, rfl, rfl, HR0⟩ := hrel
      obtain ⟨ob1, h1, h2, h3⟩ := HR0.out
      have HREL := hid (And.intro h1 (And.intro h2 h3))
      clear h1 h2 h3 HR0
      by_cases hlt : k < q
      · have h3k : 3 * k + 3 ≤ n := by omega
        obtain ⟨ad, rfl, hcx⟩ : ∃ ad, A = some ad ∧ ∀ j, j < n → wr.cell? (ad.add j) = some (.int .u8 ((rdB bs j).toNat : Int)) := by
          obtain ⟨ad, e, hc⟩ := (HN.out.2.fr0 HREL.out.2.2) (by rw [HN.out.1]; omega)
          exact ⟨ad, e, fun j hj => by rw [hc j (by rw [HN.out.1]; exact hj)]; simp [B, rdB, List.getD, List.getElem?_eq_getElem (show j < bs.length by rw [HN.out.1]; exact hj)]⟩
        have q0 := hcx (3 * k) (by omega)
        have q1 := hcx (3 * k + 1) (by omega)
        have q2 := hcx (3 * k + 2) (by omega)
        have hst := congrArg (List.map B) (take3 bs k (by rw [HN.out.1]; exact h3k))
        rw [List.map_append] at hst
        obtain ⟨x0, hx0⟩ : ∃ x : Int, x = ((rdB bs (3 * k)).toNat : Int) := ⟨_, rfl⟩
        obtain ⟨x1, hx1⟩ : ∃ x : Int, x = ((rdB bs (3 * k + 1)).toNat : Int) := ⟨_, rfl⟩
        obtain ⟨x2, hx2⟩ : ∃ x : Int, x = ((rdB bs (3 * k + 2)).toNat : Int) := ⟨_, rfl⟩
        have hys : [rdB bs (3 * k), rdB bs (3 * k + 1), rdB bs (3 * k + 2)].map B = [.int .u8 x0, .int .u8 x1, .int .u8 x2] := by rw [hx0, hx1, hx2]; rfl
        rw [hys] at hst
        rw [← hx0] at q0
        rw [← hx1] at q1
        rw [← hx2] at q2
        have HS2 := hid hst
        have hadw : ad.block < w.heap.size := HN.out.2.lt (by rw [HN.out.1]; omega)
        have hadl : ad.block < wr.heap.size := by have := HREL.out.2.2.size; omega
        have hno : ¬ Opt ob1 ad.block := fun e => by have := HREL.out.2.1 _ e.symm; omega
        have i0 : (0 : Int) ≤ 3 * (k : Int) := by omega
        have i1 : 3 * (k : Int) < (n : Int) := by omega
        have i2 : (0 : Int) ≤ 3 * (k : Int) + 1 := by omega
        have i3 : 3 * (k : Int) + 1 < (n : Int) := by omega
        have i4 : (0 : Int) ≤ 3 * (k : Int) + 2 := by omega
        have i5 : 3 * (k : Int) + 2 < (n : Int) := by omega
        have v0 : IntKind.i64.wrap (3 * (k : Int)) = 3 * (k : Int) := w64 _ i0 (by omega)
        have v1 : IntKind.i64.wrap (3 * (k : Int) + 1) = 3 * (k : Int) + 1 := w64 _ i2 (by omega)
        have v2 : IntKind.i64.wrap (3 * (k : Int) + 2) = 3 * (k : Int) + 2 := w64 _ i4 (by omega)
        have v3 : (3 * (k : Int)).toNat = 3 * k := by omega
        have v4 : (3 * (k : Int) + 1).toNat = 3 * k + 1 := by omega
        have v5 : (3 * (k : Int) + 2).toNat = 3 * k + 2 := by omega
        rw [add_succ'] at q1 q2
        clear hst hys hx0 hx1 hx2 hcx
        go_wp2_with fail
        go_region_held3 (fun w' => w'.cell? (ad.add (3 * k)) = some (.int .u8 x0) ∧ w'.cell? ⟨ad.block, ad.off + (3 * k + 1), none⟩ = some (.int .u8 x1) ∧ w'.cell? ⟨ad.block, ad.off + (3 * k + 1 + 1), none⟩ = some (.int .u8 x2))
          (first | assumption | exact ⟨q0, q1, q2⟩ | exact keepT hfr2 (by simp; omega) hno (by assumption) | exact keepT (((Fr.refl No wr).alloc _).drew) hadl (fun h => h) ⟨q0, q1, q2⟩)
          ((first
            | (refine step_app slT3 rfl (.tmp 22) (.tmp 41) rfl rfl (HREL.out.1.fr (S := No) ((Fr.refl _ _).alloc _) (fun _ _ h => h)).drew rfl (m := 1) (c := 1) (ys := [.int .u8 x0, .int .u8 x1, .int .u8 x2]) rfl (cells_new _ _ _) (by simp [Value.oneCell']) (by omega) (by omega) ?_; intro A2 c2 w2 ob2 hrow2 hfr2 hob2)
            | (refine step_app slT3 rfl (.tmp 22) (.tmp 41) rfl rfl (HREL.out.1.drew.fr (S := No) ((Fr.refl _ _).alloc _) (fun _ _ h => h)) rfl (m := 1) (c := 1) (ys := [.int .u8 x0, .int .u8 x1, .int .u8 x2]) rfl (cells_new _ _ _) (by simp [Value.oneCell']) (by omega) (by omega) ?_; intro A2 c2 w2 ob2 hrow2 hfr2 hob2)))
        clear v0 v1 v2 v3 v4 v5
        go_wp2_with fail
        go_roundw
        case rel =>

          rw [← HS2.out] at hrow2
          have hsr := HREL.out.2.2.size
          refine ⟨k + 1, A2, c2, by omega, by go_num, rfl, ⟨ob2, hrow2, fun j hj => ?_, ((HREL.out.2.2.alloc _).drew).fresh hfr2 HREL.out.2.1⟩⟩
          rcases hob2 with h | ⟨i, h, hi⟩
          · exact HREL.out.2.1 j (by rw [← h]; exact hj)
          · rw [h] at hj; injection hj with hj; (try simp at hi); omega
        case measure => simp [intOf] <;> omega
      · obtain rfl : k = q := by omega
        clear hlt
        go_wp2_with fail
        go_ret2
        exact HP.out _ _ _ _ ⟨by rw [List.length_take, HN.out.1]; omega, ob1, HREL.out.1, HREL.out.2.1⟩ HREL.out.2.2
end Go.Proofs.YtamkfjbdcjkchaaDoor

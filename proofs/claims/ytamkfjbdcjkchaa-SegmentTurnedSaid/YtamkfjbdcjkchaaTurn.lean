/- The contracts of Turned and of Same over tokens. -/
import Derived.Test.YtamkfjbdcjkchaaTurnP
import Derived.Test.YtamkfjbdcjkchaaRef1
import Derived.Test.YtamkfjbdcjkchaaCrc
import Derived.Test.YtamkfjbdcjkchaaTokW
namespace Go.Proofs.Ytamkfjbdcjkchaa
open Go.RowKit Go.Proofs.HK
set_option linter.unusedVariables false
set_option linter.unusedSimpArgs false
attribute [local go_sem] max2_int min2_int max_two min_two

theorem Row.setU {w : World} {ad : Addr} {n c : Nat} {ob : Option Nat} {cs : List Value} (h : Row w 1 (.slice (some ad) n c) ob n cs) (k : Nat) (hk : k < n) (a : Value) :
    (∃ old, w.cell? (ad.add k) = some old) ∧ w.frozen? (ad.add k) = false ∧ Row (w.setCell (ad.add k) a) 1 (.slice (some ad) n c) ob n (cs.set k a) ∧ Fr (fun q => ob = some q) w (w.setCell (ad.add k) a) := by
  obtain ⟨g, o, old, e1, e2, e3, e4, e5⟩ := Row.set h k hk a
  injection e1 with e1
  subst e1
  have ha : (⟨g, o, none⟩ : Addr).add k = ⟨g, o + k, none⟩ := add_lit _ _ _
  rw [ha]
  exact ⟨⟨_, e3⟩, e4, e5, (Fr.refl _ w).setCell (p := ⟨g, o + k, none⟩) (fun _ => e2) a⟩
theorem map_set_IB (l : List Nat) (k x : Nat) : (l.map IB).set k (.int .i64 (x : Int)) = (l.set k x).map IB := by rw [List.map_set]; rfl
theorem xor_bit {a b : Nat} (ha : a < 2) (hb : b < 2) : bits .xor .i64 (a : Int) (b : Int) = (((a + b) % 2 : Nat) : Int) := by
  have h1 : a = 0 ∨ a = 1 := by omega
  have h2 : b = 0 ∨ b = 1 := by omega
  rcases h1 with rfl | rfl <;> rcases h2 with rfl | rfl <;> decide
set_option maxRecDepth 100000 in
set_option maxHeartbeats 1600000 in
theorem turned_calls (A : Option Addr) (bs : List UInt8) (n c : Nat) (a y : Nat) (w : World) (hn : bs.length = n) (hr : Rd B w A bs) (hl : n ≤ 100000) (ha : a ≤ 1000000) (hy : y < 4294967296) :
    Calls Try.prog 16 #[.slice A n c, .int .i64 (a : Int), .int .u32 (y : Int)] w fun e w' => ∃ v, e = .returned v ∧ New B w w' v (turnedP bs a y) := by
  have HN := hid (And.intro hn hr)
  clear hn hr
  obtain ⟨T, hT⟩ : ∃ T, T = 8 * n := ⟨_, rfl⟩
  obtain ⟨V, hV⟩ : ∃ V, V = le bs := ⟨_, rfl⟩
  have HTV := hid (And.intro hT hV)
  have hTl : T ≤ 800000 := by omega
  have hVl : V < 2 ^ T := by rw [hT, hV, ← HN.out.1]; exact le_lt2 bs
  have HVL := hid hVl
  go_enter Try.func16, Try.ntmps16
  go_wp2_with fail
  refine (ref1Bits_calls A bs n c HN.out.1 _ HN.out.2 (by omega)).mono ?_
  rw [← hT, ← hV]
  clear hT hV hVl
  rintro e w1 ⟨v1, rfl, hnew⟩
  obtain ⟨Al, n1, cl, rfl, N1⟩ := hnew.use
  clear hnew
  obtain rfl : n1 = T := by rw [← N1.out.1, bitsN_length]
  obtain ⟨obl, hrow0, hob0⟩ := N1.out.2.2.2.2
  have H1 := hid (And.intro hrow0 hob0)
  clear hrow0 hob0
  go_wp2_with fail
  go_loopw [8] (fun i wr => ∃ j : Nat, i = .int .i64 j ∧ Hid (j ≤ 32 ∧ Row wr 1 (.slice Al n1 cl) obl n1 ((bitsN n1 (V ^^^ burst n1 a (y % 2 ^ j))).map IB) ∧ Fr (fun q => obl = some q) w1 wr)) (fun i _ => 32 - (intOf i).toNat)
  case atStart => exact ⟨0, rfl, by omega, by rw [turn_0]; exact H1.out.1, Fr.refl _ _⟩
  case round =>
    obtain ⟨j, rfl, HQ⟩ := hrel
    by_cases hj : j < 32
    · have hj' : (j : Int) < 32 := by omega
      by_cases hin : a + j < n1
      · have hin' : (a : Int) + (j : Int) < (n1 : Int) := by omega
        obtain ⟨b, hb⟩ : ∃ b, b = (V ^^^ burst n1 a (y % 2 ^ j)) / 2 ^ (a + j) % 2 := ⟨_, rfl⟩
        obtain ⟨x, hx⟩ : ∃ x, x = y / 2 ^ j % 2 := ⟨_, rfl⟩
        obtain ⟨z, hz⟩ : ∃ z, z = (b + x) % 2 := ⟨_, rfl⟩
        have hb2 : b < 2 := by omega
        have hx2 : x < 2 := by omega
        obtain ⟨ad, rfl⟩ : ∃ ad, Al = some ad := by
          obtain ⟨A', c', e, _, h2, _⟩ := HQ.out.2.1.cells
          obtain ⟨ad, e2, _⟩ := h2 (by rw [List.length_map, bitsN_length]; omega)
          injection e with e _ _
          exact ⟨ad, e.trans e2⟩
        obtain ⟨k, hk⟩ : ∃ k, k = a + j := ⟨_, rfl⟩
        have hcell : wr.cell? (ad.add k) = some (.int .i64 (b : Int)) := by
          obtain ⟨A', c', e, _, h2, _⟩ := HQ.out.2.1.cells
          obtain ⟨ad', e2, h3⟩ := h2 (by rw [List.length_map, bitsN_length]; omega)
          injection e with e _ _
          rw [← e] at e2
          injection e2 with e2
          subst e2
          refine h3 k _ ?_
          rw [List.getElem?_map, hk, bitsN_get _ _ _ hin, ← hb]
          rfl
        obtain ⟨-, hfz, hr3, hf3⟩ := Row.setU HQ.out.2.1 k (by omega) (.int .i64 (z : Int))
        have hrow : Row (wr.setCell (ad.add k) (.int .i64 (z : Int))) 1 (.slice (some ad) n1 cl) obl n1 ((bitsN n1 (V ^^^ burst n1 a (y % 2 ^ (j + 1)))).map IB) := by
          rw [map_set_IB, hz, hb, hx, hk, turn_set _ _ _ _ _ hin] at hr3
          rw [hz, hb, hx, hk]; exact hr3
        have hsh : bits .and .u32 ((y : Int) / 2 ^ j) 1 = (x : Int) := by
          have e2 : (y : Int) / 2 ^ j = ((y / 2 ^ j : Nat) : Int) := by simp
          have hle : y / 2 ^ j ≤ y := Nat.div_le_self _ _
          rw [e2, low_u32 _ (by omega), hx]
        have hxo : bits .xor .i64 (b : Int) (x : Int) = (z : Int) := by rw [xor_bit hb2 hx2, hz]
        have hkk : (a : Int) + (j : Int) = (k : Int) := by omega
        have hkb : (k : Int) < (n1 : Int) := by omega
        have hk0 : k < n1 := by omega
        have HH := hid (And.intro hrow hf3)
        have HSX := hid (And.intro hsh hxo)
        clear hz hx hb hrow hf3 hr3 hk hsh hxo hin hin'
        go_wp2_with fail
        have hxw : wrap64 (x : Int) = (x : Int) := by unfold wrap64; omega
        rw [HSX.out.1, hxw, HSX.out.2]
        refine ⟨⟨j + 1, by go_num, by omega, HH.out.1, HQ.out.2.2.then HH.out.2⟩, ?_⟩
        simp [intOf] <;> omega
      · have hin' : ¬ ((a : Int) + (j : Int) < (n1 : Int)) := by omega
        have HH := hid (turn_out n1 V a y j (by omega))
        clear hin
        go_wp2_with fail
        refine ⟨⟨j + 1, by go_num, by omega, by rw [← HH.out]; exact HQ.out.2.1, HQ.out.2.2⟩, ?_⟩
        simp [intOf] <;> omega
    · have hj32 : j = 32 := by have := HQ.out.1; omega
      have hge : ¬ ((j : Int) < 32) := by omega
      have HJ := hid hj32
      clear hj32 hj
      go_wp2_with fail
      have hy' : y % 2 ^ j = y := by rw [HJ.out]; exact Nat.mod_eq_of_lt hy
      have hq := HQ.out.2.1
      rw [hy'] at hq
      obtain ⟨r1, r2, _, _⟩ := hq.rd
      refine (ref1Bytes_calls Al n1 (V ^^^ burst n1 a y) cl _ r1 r2 (Nat.xor_lt_two_pow HVL.out (Nat.mod_lt _ (Nat.two_pow_pos _))) (by omega)).mono ?_
      rintro e w2 ⟨v2, rfl, hnew2⟩
      have hfin : putLE ((n1 + 7) / 8) ((V ^^^ burst n1 a y : Nat) : Int) = turnedP bs a y := by
        unfold turnedP
        rw [HN.out.1, ← HTV.out.1, ← HTV.out.2, show (n1 + 7) / 8 = n by have := HTV.out.1; omega]
      rw [hfin] at hnew2
      have hfr : Fr No w wr := N1.out.2.2.2.1.trans HQ.out.2.2 (fun q hq e => absurd (H1.out.2 q e) (by omega))
      have HF := hid (new_from hnew2 (hfr.then hnew2.2) hfr.size)
      clear hnew2 hq hfin hfr hy' r1 r2
      go_wp2_with fail
      go_ret
      exact ⟨_, rfl, HF.out⟩
end Go.Proofs.Ytamkfjbdcjkchaa
/- TokenBack's walk. -/
import Derived.Test.YtponiapdpecioaaTLaw
import Derived.Test.YtponiapdpecioaaTurn
import Derived.Test.YtponiapdpecioaaTokP3
import Derived.Test.YtponiapdpecioaaDecT
namespace Go.Proofs.Ytponiapdpecioaa
open Go.RowKit Go.WideShapes Go.Proofs.HK
set_option linter.unusedVariables false
set_option linter.unusedSimpArgs false

set_option maxRecDepth 100000 in
set_option maxHeartbeats 1600000 in
theorem tokenBack_w (F : Int) (S : Nat) (D : List UInt8) (A : Option Addr) (n c : Nat) (at_ y : Nat) (w : World) (hn : D.length = n) (hr : Rd B w A D) (hS : S < 4294967296) (hat : at_ < 65536) (hy : y < 4294967296) :
    Calls Try.prog 5 #[tokV F S A n c, .int .u16 (at_ : Int), .int .u32 (y : Int)] w fun e w' => e = .returned (.bool true) ∧ Fr No w w' := by
  obtain ⟨g, hg⟩ : ∃ g, g = w.heap.size := ⟨_, rfl⟩
  obtain ⟨w2, hw2⟩ : ∃ W, W = w.alloc (.cells #[.int .i64 F, .int .u32 (S : Int), .slice A n c] 25) := ⟨_, rfl⟩
  have hb2 : w2.heap[g]? = some (.cells #[.int .i64 F, .int .u32 (S : Int), .slice A n c] 25 (0, 0)) := by rw [hw2, hg]; exact heap_new _ _
  have hf2 : Fr No w w2 := by rw [hw2]; exact (Fr.refl No w).alloc _
  have hcell : ∀ X, Fr No w2 X → X.heap[g]? = some (.cells #[.int .i64 F, .int .u32 (S : Int), .slice A n c] 25 (0, 0)) := fun X hf => (hf.block g (Array.getElem?_eq_some_iff.1 hb2).1 (fun h => h)).trans hb2
  have HC := hid (And.intro hcell (And.intro hf2 (And.intro hn hr)))
  have HW := hid (And.intro hw2 hg)
  clear hw2 hg hb2 hf2 hcell hn hr
  unfold tokV
  have hw1 : ∀ W, Fr No w2 W → Calls Try.prog 10 #[.agg #[.int .i64 F, .int .u32 (S : Int), .slice A n c]] W fun e w' => ∃ v, e = .returned (.tuple #[v, .int .i64 (tokE F n)]) ∧ New B W w' v (tokB F S D) := fun W hW =>
    write_calls F S D A n c W HC.out.2.2.1 (HC.out.2.2.2.fr0 (HC.out.2.1.then hW)) hS
  have HWC := hid hw1
  clear hw1
  by_cases hbig : (2000 : Int) < (n : Int)
  · go_enter Try.func5, Try.ntmps5
    go_wp2_with fail
    rw [← HW.out.1, ← HW.out.2]
    refine (fixed25_calls _).mono ?_
    rintro e w3 ⟨rfl, hf3⟩
    obtain ⟨d0, d1, d2⟩ := blk3c (HC.out.1 w3 hf3)
    have H3 := hid hf3
    clear hf3
    go_wp2_with fail
    go_ret
    exact ⟨rfl, HC.out.2.1.then H3.out⟩
  · by_cases hE : tokE F n = 0
    · have HE := hid hE
      have hT := trd_tok F S D (by rw [HC.out.2.2.1]; exact hE) hS
      have hlen : (tokB F S D).length = n + 13 := by
        unfold tokB; rw [if_pos (by rw [HC.out.2.2.1]; exact hE), sealB_length, tokO_length, HC.out.2.2.1]
      obtain ⟨m, hm⟩ : ∃ m, m = n + 13 := ⟨_, rfl⟩
      rw [← hm] at hlen
      obtain ⟨a, ha⟩ : ∃ a, a = at_ % (8 * m) := ⟨_, rfl⟩
      have ham : a < 8 * m := by rw [ha]; exact Nat.mod_lt _ (by omega)
      have haI : (at_ : Int) % (8 * (m : Int)) = (a : Int) := by rw [ha]; simp
      obtain ⟨C, hCd⟩ : ∃ C, C = turnedP (tokB F S D) a y := ⟨_, rfl⟩
      have hCl : C.length = m := by rw [hCd, turnedP_length, hlen]
      have hG := trd_turned (tokB F S D) hT.1 a y hy (by rw [hlen]; exact ham)
      rw [← hCd] at hG
      obtain ⟨G, hGd⟩ : ∃ G, G = trdE C := ⟨_, rfl⟩
      have hfin : ((G == 4) == !(decide (tokB F S D = C))) = true := by
        rw [← hGd] at hG
        by_cases h : tokB F S D = C
        · have h4 : G ≠ 4 := fun h' => hG.1 h' h.symm
          rw [decide_eq_true h, beq_eq_false_iff_ne.2 h4]; rfl
        · rw [decide_eq_false h, beq_iff_eq.2 (hG.2 (fun h' => h h'.symm))]; rfl
      have hm13 : 13 ≤ m ∧ m ≤ 2013 := by omega
      have HT := hid (And.intro hT (And.intro hlen (And.intro haI (And.intro hCd (And.intro hCl (And.intro hGd hfin))))))
      have hml : (m : Int) ≤ 2013 := by omega
      have hm00 : ((m : Int) == 0) = false := by rw [beq_eq_false_iff_ne]; omega
      have hm0 : (13 : Int) ≤ (m : Int) := by omega
      clear hE hT hlen hm ha haI hCd hCl hG hGd hfin
      go_enter Try.func5, Try.ntmps5
      go_wp2_with fail
      rw [← HW.out.1, ← HW.out.2]
      refine (fixed25_calls _).mono ?_
      rintro e w3 ⟨rfl, hf3⟩
      obtain ⟨d0, d1, d2⟩ := blk3c (HC.out.1 w3 hf3)
      have H3 := hid hf3
      clear hf3
      go_wp2_with fail
      refine (HWC.out _ H3.out).mono ?_
      rw [HE.out]
      rintro e w4 ⟨v4, rfl, hnew4⟩
      obtain ⟨A4, n4, c4, rfl, N4⟩ := hnew4.use
      clear hnew4 d0 d1 d2
      obtain rfl : n4 = m := by rw [← N4.out.1, HT.out.2.1]
      go_wp2_with fail
      refine (read_calls A4 _ n4 c4 _ N4.out.1 N4.out.2.1 N4.out.2.2.1 (by omega)).mono ?_
      rw [HT.out.1.1, HT.out.1.2]
      rintro e w5 ⟨v5, rfl, hnew5⟩
      obtain ⟨A5, n5, c5, rfl, N5⟩ := hnew5.use
      clear hnew5
      obtain ⟨g5, hg5⟩ : ∃ g, g = w5.heap.size := ⟨_, rfl⟩
      obtain ⟨X5, hX5⟩ : ∃ X, X = w5.alloc (.cells #[.int .i64 F, .int .u32 (S : Int), .slice A5 n5 c5] 25) := ⟨_, rfl⟩
      have HX5 := hid (And.intro hX5 hg5)
      clear hX5 hg5
      go_wp2_with fail
      rw [← HX5.out.1, ← HX5.out.2]
      rw [HT.out.2.2.1]
      have hF5 := hid ((H3.out.then N4.out.2.2.2.1).then N5.out.2.2.2.1)
      have hFX : Fr No w5 X5 := by rw [HX5.out.1]; exact (Fr.refl No w5).alloc _
      have hbX : X5.heap[g5]? = some (.cells #[.int .i64 F, .int .u32 (S : Int), .slice A5 n5 c5] 25 (0, 0)) := by rw [HX5.out.1, HX5.out.2]; exact heap_new _ _
      have HFX := hid (And.intro hFX hbX)
      clear hFX hbX
      refine (turned_calls A4 _ n4 c4 a y _ N4.out.1 (N4.out.2.1.fr0 (N5.out.2.2.2.1.then HFX.out.1)) (by omega) (by omega) hy).mono ?_
      rw [← HT.out.2.2.2.1]
      rintro e w6 ⟨v6, rfl, hnew6⟩
      obtain ⟨A6, n6, c6, rfl, N6⟩ := hnew6.use
      clear hnew6
      obtain rfl : n6 = n4 := by rw [← N6.out.1, HT.out.2.2.2.2.1]
      go_wp2_with fail
      refine (read_calls A6 _ n6 c6 _ N6.out.1 N6.out.2.1 N6.out.2.2.1 (by omega)).mono ?_
      rw [← HT.out.2.2.2.2.2.1]
      rintro e w7 ⟨v7, rfl, hnew7⟩
      obtain ⟨A7, n7, c7, rfl, N7⟩ := hnew7.use
      clear hnew7
      have hX57 : Fr No X5 w7 := N6.out.2.2.2.1.then N7.out.2.2.2.1
      have hb5 := (hX57.block g5 (Array.getElem?_eq_some_iff.1 HFX.out.2).1 (fun h => h)).trans HFX.out.2
      have hbg := HC.out.1 w7 ((hF5.out.then HFX.out.1).then hX57)
      have hd := fun o => keep3a (o := o) (Array.getElem?_eq_some_iff.1 hbg).1 (blk3c hbg)
      have he := fun o => keep3a (o := o) (Array.getElem?_eq_some_iff.1 hb5).1 (blk3c hb5)
      have d0 := fun o => (hd o).1
      have d1 := fun o => (hd o).2.1
      have d2 := fun o => (hd o).2.2
      have e0 := fun o => (he o).1
      have e1 := fun o => (he o).2.1
      have e2 := fun o => (he o).2.2
      have HX57 := hid hX57
      have hfin := HT.out.2.2.2.2.2.2
      have HFIN := hid hfin
      clear hX57 hb5 hbg hd he hfin
      go_wp2_with fail
      obtain ⟨Y, hY⟩ : ∃ Y, Y = w7.alloc (.cells #[.int .i64 (trdT C).F, .int .u32 ((trdT C).S : Int), .slice A7 n7 c7] 25) := ⟨_, rfl⟩
      have hFY : Fr No w7 Y := by rw [hY]; exact (Fr.refl No w7).alloc _
      rw [← hY]
      have HY := hid hFY
      clear hY hFY d0 d1 d2 e0 e1 e2
      refine (sameTok_calls F S D A5 A n5 n c5 c _ N5.out.1 HC.out.2.2.1 (N5.out.2.1.fr0 ((HFX.out.1.then HX57.out).then HY.out)) (HC.out.2.2.2.fr0 ((((HC.out.2.1.then hF5.out).then HFX.out.1).then HX57.out).then HY.out))).mono ?_
      rintro e w8 ⟨rfl, hf8⟩
      have H8 := hid hf8
      clear hf8
      go_wp2_with fail
      refine (same_calls A4 A6 _ C n6 n6 c4 c6 N4.out.1 N6.out.1 _ (N4.out.2.1.fr0 ((((N5.out.2.2.2.1.then HFX.out.1).then HX57.out).then HY.out).then H8.out)) (N6.out.2.1.fr0 ((N7.out.2.2.2.1.then HY.out).then H8.out))).mono ?_
      rintro e w9 ⟨rfl, hw9⟩
      rw [hw9]
      clear hw9 w9
      have hfin := HFIN.out
      go_wp2_with fail
      go_ret
      exact ⟨by first | rfl | (rw [HFIN.out]) | simp [HFIN.out], ((((HC.out.2.1.then hF5.out).then HFX.out.1).then HX57.out).then HY.out).then H8.out⟩
    · have h1 : tokE F n = 1 := by
        unfold tokE at hE ⊢
        by_cases hh : 0 ≤ F ∧ F < 16 ∧ n ≤ 1048576
        · rw [if_pos hh] at hE; exact absurd rfl hE
        · rw [if_neg hh]
      have HE := hid h1
      clear hE h1
      go_enter Try.func5, Try.ntmps5
      go_wp2_with fail
      rw [← HW.out.1, ← HW.out.2]
      refine (fixed25_calls _).mono ?_
      rintro e w3 ⟨rfl, hf3⟩
      obtain ⟨d0, d1, d2⟩ := blk3c (HC.out.1 w3 hf3)
      have H3 := hid hf3
      clear hf3
      go_wp2_with fail
      refine (HWC.out _ H3.out).mono ?_
      rw [HE.out]
      rintro e w4 ⟨v4, rfl, hnew4⟩
      obtain ⟨A4, n4, c4, rfl, N4⟩ := hnew4.use
      clear hnew4 d0 d1 d2
      go_wp2_with fail
      go_ret
      exact ⟨rfl, (HC.out.2.1.then H3.out).then N4.out.2.2.2.1⟩
theorem tokenBack_walk (v : Value) (x : TokT) (a y : Int) (w : World) {base : Nat} (hok : Value.okWide Try.prog w .any base 25 v) (hx : tokD.K w x v.cells.toList) (ha : 0 ≤ a ∧ a ≤ 65535) (hy : 0 ≤ y ∧ y ≤ 4294967295) : Calls Try.prog 5 #[v, .int .u16 a, .int .u32 y] w fun e w' => e = .returned (.bool true) ∧ Fr No w w' := by
  obtain ⟨F, S, A, D, c, rfl, hS, hr, hc, hl⟩ := tokD_val hok hx
  obtain ⟨a, rfl⟩ := Int.eq_ofNat_of_zero_le ha.1
  obtain ⟨y, rfl⟩ := Int.eq_ofNat_of_zero_le hy.1
  exact tokenBack_w F S D A D.length c a y w rfl hr hS (by omega) (by omega)
end Go.Proofs.Ytponiapdpecioaa

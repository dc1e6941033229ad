/- SegmentTurned's walk. -/
import Derived.Test.YtamkfjbdcjkchaaSLaw1
import Derived.Test.YtamkfjbdcjkchaaTurn
namespace Go.Proofs.Ytamkfjbdcjkchaa
open Go.RowKit Go.Proofs.HK
set_option linter.unusedVariables false
set_option linter.unusedSimpArgs false
attribute [local go_sem] max2_int min2_int max_two min_two
set_option maxRecDepth 100000 in
set_option maxHeartbeats 3200000 in
theorem segmentTurned_w (K : Int) (U : Nat) (F : Int) (S : Nat) (Z P Y X Q C : Int) (R : List (Int × Int)) (D : List UInt8) (rA dA : Option Addr) (rn rc dn dc : Nat) (at_ y : Nat) (w : World) (hU : U < 4294967296) (hS : S < 4294967296) (hrn : rn = R.length) (hdn : dn = D.length) (r1 : Cells w rA (rngC R)) (r3 : rn * 16 ≤ 140737488355328) (d1 : Rd B w dA D) (d3 : dn ≤ 140737488355328) (hat : at_ < 65536) (hy : y < 4294967296) :
    Calls Try.prog 7 #[.agg #[.int .i64 K, .int .u32 (U : Int), .int .i64 F, .int .u32 (S : Int), .int .i64 Z, .int .i64 P, .int .i64 Y, .int .i64 X, .int .i64 Q, .int .i64 C, .slice rA rn rc, .slice dA dn dc], .int .u16 (at_ : Int), .int .u32 (y : Int)] w fun e w' => e = .returned (.bool true) ∧ Fr No w w' := by
  obtain ⟨M, hM⟩ : ∃ m, m = (⟨K, U, F, S, Z, P, Y, X, Q, C, R, D⟩ : MsgS) := ⟨_, rfl⟩
  have wcl : ∀ W, Fr No w W → Calls Try.prog 9 #[.agg #[.int .i64 K, .int .u32 (U : Int), .int .i64 F, .int .u32 (S : Int), .int .i64 Z, .int .i64 P, .int .i64 Y, .int .i64 X, .int .i64 Q, .int .i64 C, .slice rA rn rc, .slice dA dn dc]] W fun e w' => ∃ v, e = .returned (.tuple #[v, .int .i64 (swrE M)]) ∧ New B W w' v (swrB M) := fun W h => by
    rw [hM]; exact swrite_calls K U F S Z P Y X Q C R D rA dA rn rc dn dc W hU hS hrn.symm hdn.symm (r1.fr h (fun _ _ h => h)) (d1.fr0 h) (by omega) (by omega)
  have hMU : M.U < 4294967296 := by rw [hM]; exact hU
  have hMS : M.S < 4294967296 := by rw [hM]; exact hS
  have HW := hid wcl
  obtain ⟨g, hgg⟩ : ∃ g, g = w.heap.size := ⟨_, rfl⟩
  obtain ⟨w1, hw1⟩ : ∃ W, W = w.alloc (.cells #[.int .i64 K, .int .u32 (U : Int), .int .i64 F, .int .u32 (S : Int), .int .i64 Z, .int .i64 P, .int .i64 Y, .int .i64 X, .int .i64 Q, .int .i64 C, .slice rA rn rc, .slice dA dn dc] 26) := ⟨_, rfl⟩
  have hb1 : w1.heap[g]? = some (.cells #[.int .i64 K, .int .u32 (U : Int), .int .i64 F, .int .u32 (S : Int), .int .i64 Z, .int .i64 P, .int .i64 Y, .int .i64 X, .int .i64 Q, .int .i64 C, .slice rA rn rc, .slice dA dn dc] 26 (0, 0)) := by rw [hw1, hgg]; exact heap_new _ _
  have hf1 : Fr No w w1 := by rw [hw1]; exact (Fr.refl No w).alloc _
  have HB := hid (And.intro hb1 (And.intro hf1 (And.intro hgg hw1)))
  have hX : ∀ W, Fr No w1 W → W.heap[g]? = some (.cells #[.int .i64 K, .int .u32 (U : Int), .int .i64 F, .int .u32 (S : Int), .int .i64 Z, .int .i64 P, .int .i64 Y, .int .i64 X, .int .i64 Q, .int .i64 C, .slice rA rn rc, .slice dA dn dc] 26 (0, 0)) := fun W h => (h.block g (Array.getElem?_eq_some_iff.1 hb1).1 (fun h => h)).trans hb1
  have HX := hid hX
  clear wcl hrn hdn r1 d1 hgg hw1 hb1 hf1 hX hM
  cases hm : mayB M with
  | false =>
    have HE := hid (no_facts M hMU hMS hm)
    clear hm
    go_enter Try.func7, Try.ntmps7
    go_wp2_with fail
    rw [← HB.out.2.2.2, ← HB.out.2.2.1]
    refine (fixed22_calls _).mono ?_
    rintro e w2 ⟨rfl, hf2⟩
    have H2 := hid hf2
    obtain ⟨m0, m1, m2, m3, m4, m5, m6, m7, m8, m9, m10, m11⟩ := blk12 (HX.out w2 hf2)
    clear hf2
    go_wp2_with fail
    refine (HW.out w2 (HB.out.2.1.then H2.out)).mono ?_
    rw [HE.out.1, HE.out.2]
    rintro e w3 ⟨v3, rfl, hn3⟩
    obtain ⟨A3, n3, c3, rfl, N3⟩ := hn3.use
    clear hn3 m0 m1 m2 m3 m4 m5 m6 m7 m8 m9 m10 m11
    go_wp2_with fail
    go_ret
    exact ⟨rfl, (HB.out.2.1.then H2.out).then N3.out.2.2.2.1⟩
  | true =>
    have HE := hid (back_facts M hMU hMS hm)
    obtain ⟨o, ho⟩ : ∃ o, o = sealB (segO M) := ⟨_, rfl⟩
    obtain ⟨m, hml⟩ : ∃ m, m = o.length := ⟨_, rfl⟩
    have hol : m ≤ 1104 ∧ 9 ≤ m := by rw [hml, ho, sealB_length]; have := HE.out.2.2.2.2; have := segO_len M; omega
    obtain ⟨a, ha⟩ : ∃ a, a = at_ % (8 * m) := ⟨_, rfl⟩
    have ham : a < 8 * m := by rw [ha]; exact Nat.mod_lt _ (by omega)
    have haI : (at_ : Int) % (8 * (m : Int)) = (a : Int) := by rw [ha]; simp
    obtain ⟨T, hTd⟩ : ∃ T, T = turnedP o a y := ⟨_, rfl⟩
    have hTl : T.length = m := by rw [hTd, turnedP_length, hml]
    have hO : swrB M = o ∧ srdE o = 0 := by rw [ho]; exact ⟨HE.out.2.1, HE.out.2.2.1⟩
    have hG : T ≠ o → srdE T = 4 := by rw [hTd]; exact srd_turned o hO.2 a y hy (by rw [← hml]; exact ham)
    obtain ⟨G, hGd⟩ : ∃ G, G = srdE T := ⟨_, rfl⟩
    have hG0 : T = o → G = 0 := fun e => by rw [hGd, e]; exact hO.2
    rw [← hGd] at hG
    have HO := hid (And.intro hO.1 (And.intro hml (And.intro haI (And.intro hTd (And.intro hTl (And.intro hGd (And.intro hG hG0)))))))
    have hm1 : (m : Int) ≤ 1104 := by omega
    have hm9 : (9 : Int) ≤ (m : Int) := by omega
    have hm0 : ((m : Int) == 0) = false := by rw [beq_eq_false_iff_ne]; omega
    clear hm ho hml ha haI hTd hTl hO hG hG0 hGd
    go_enter Try.func7, Try.ntmps7
    go_wp2_with fail
    rw [← HB.out.2.2.2, ← HB.out.2.2.1]
    refine (fixed22_calls _).mono ?_
    rintro e w2 ⟨rfl, hf2⟩
    have H2 := hid hf2
    obtain ⟨m0, m1, m2, m3, m4, m5, m6, m7, m8, m9, m10, m11⟩ := blk12 (HX.out w2 hf2)
    clear hf2
    go_wp2_with fail
    refine (HW.out w2 (HB.out.2.1.then H2.out)).mono ?_
    rw [HE.out.1, HO.out.1]
    rintro e w3 ⟨v3, rfl, hn3⟩
    obtain ⟨A3, n3, c3, rfl, N3⟩ := hn3.use
    clear hn3 m0 m1 m2 m3 m4 m5 m6 m7 m8 m9 m10 m11
    obtain rfl : n3 = m := by rw [← N3.out.1, HO.out.2.1]
    go_wp2_with fail
    rw [HO.out.2.2.1]
    refine (turned_calls A3 o n3 c3 a y _ N3.out.1 N3.out.2.1 (by omega) (by omega) hy).mono ?_
    rw [← HO.out.2.2.2.1]
    rintro e w4 ⟨v4, rfl, hn4⟩
    obtain ⟨A4, n4, c4, rfl, N4⟩ := hn4.use
    clear hn4
    obtain rfl : n4 = n3 := by rw [← N4.out.1, HO.out.2.2.2.2.1]
    go_wp2_with fail
    refine (sread_calls A4 T n4 c4 w4 N4.out.1 N4.out.2.1 N4.out.2.2.1 (by omega)).mono ?_
    rw [← HO.out.2.2.2.2.2.1]
    obtain ⟨M', hM'⟩ : ∃ m', m' = srdM T := ⟨_, rfl⟩
    rw [← hM']
    rintro e w5 ⟨rA', rn', rc', dA', dn', dc', rfl, hrm, hf5⟩
    have H5 := hid hf5
    clear hrm hf5 hM'
    unfold mC
    go_wp2_with fail
    refine (same_calls A3 A4 o T n4 n4 c3 c4 N3.out.1 N4.out.1 _ ((N3.out.2.1.fr0 (N4.out.2.2.2.1.then H5.out)).alloc _) ((N4.out.2.1.fr0 H5.out).alloc _)).mono ?_
    rintro e w6 ⟨rfl, hw6⟩
    rw [hw6]
    clear hw6 w6
    by_cases hoT : o = T
    · have hg0 := HO.out.2.2.2.2.2.2.2 hoT.symm
      rw [decide_eq_true hoT, hg0]
      clear hg0 hoT
      go_wp2_with fail
      go_ret
      exact ⟨rfl, ((((HB.out.2.1.then H2.out).then N3.out.2.2.2.1).then N4.out.2.2.2.1).then H5.out).alloc _⟩
    · have hg4 := HO.out.2.2.2.2.2.2.1 (fun e => hoT e.symm)
      rw [decide_eq_false hoT, hg4]
      clear hg4 hoT
      go_wp2_with fail
      go_ret
      exact ⟨rfl, ((((HB.out.2.1.then H2.out).then N3.out.2.2.2.1).then N4.out.2.2.2.1).then H5.out).alloc _⟩
theorem segmentTurned_walk (v : Value) (x : MsgT) (a y : Int) (w : World) {base : Nat} (hok : Value.okWide Try.prog w .any base 26 v) (hx : msgD.K w x v.cells.toList) (ha : 0 ≤ a ∧ a ≤ 65535) (hy : 0 ≤ y ∧ y ≤ 4294967295) : Calls Try.prog 7 #[v, .int .u16 a, .int .u32 y] w fun e w' => e = .returned (.bool true) ∧ Fr No w w' := by
  obtain ⟨K, U, F, S, Z, P, Y, X, Q, C, R, D, rA, dA, rc, dc, rfl, hU, hS, r1, r2, r3, d1, d2, d3⟩ := msgD_val hok hx
  obtain ⟨a, rfl⟩ := Int.eq_ofNat_of_zero_le ha.1
  obtain ⟨y, rfl⟩ := Int.eq_ofNat_of_zero_le hy.1
  exact segmentTurned_w K U F S Z P Y X Q C R D rA dA R.length rc D.length dc a y w hU hS rfl rfl r1 r3 d1 d3 (by omega) (by omega)
end Go.Proofs.Ytamkfjbdcjkchaa

/- SegmentWrites' walk. -/
import Derived.Test.YtamkfjbdcjkchaaSLaw1
import Derived.Test.YtamkfjbdcjkchaaSegDw
namespace Go.Proofs.Ytamkfjbdcjkchaa
open Go.RowKit Go.Proofs.HK
set_option linter.unusedVariables false
set_option linter.unusedSimpArgs false
attribute [local go_sem] max2_int min2_int max_two min_two
theorem rngC_one (R : List (Int × Int)) : ∀ u ∈ rngC R, u.oneCell' = true := by
  intro u hu
  unfold rngC at hu
  rw [List.mem_flatMap] at hu
  obtain ⟨r, _, hr⟩ := hu
  simp at hr
  rcases hr with rfl | rfl <;> rfl
theorem frz {W : World} {g i : Nat} {cs : Array Value} {t : TypeId} (hb : W.heap[g]? = some (.cells cs t (0, 0))) : W.frozen? ⟨g, i, none⟩ = false := by
  simp [World.frozen?, hb]
set_option maxRecDepth 100000 in
set_option maxHeartbeats 3200000 in
theorem segmentWrites_w (K : Int) (U : Nat) (F : Int) (S : Nat) (Z P Y X Q C : Int) (R : List (Int × Int)) (D : List UInt8) (rA dA : Option Addr) (rn rc dn dc : Nat) (w : World) (hU : U < 4294967296) (hS : S < 4294967296) (hrn : R.length = rn) (hdn : D.length = dn) (r1 : Cells w rA (rngC R)) (r2 : rn ≤ 140737488355328) (d1 : Rd B w dA D) (d2 : dn ≤ 140737488355328) :
    Calls Try.prog 3 #[.agg #[.int .i64 K, .int .u32 (U : Int), .int .i64 F, .int .u32 (S : Int), .int .i64 Z, .int .i64 P, .int .i64 Y, .int .i64 X, .int .i64 Q, .int .i64 C, .slice rA rn rc, .slice dA dn dc]] w fun e w' => e = .returned (.bool true) ∧ Fr No w w' := by
  obtain ⟨g, hgg⟩ : ∃ g, g = w.heap.size := ⟨_, rfl⟩
  obtain ⟨w1, hw1⟩ : ∃ W, W = w.alloc (.cells #[.int .i64 K, .int .u32 (U : Int), .int .i64 F, .int .u32 (S : Int), .int .i64 Z, .int .i64 P, .int .i64 Y, .int .i64 X, .int .i64 Q, .int .i64 C, .slice rA rn rc, .slice dA dn dc] 26) := ⟨_, rfl⟩
  have hb1 : w1.heap[g]? = some (.cells #[.int .i64 K, .int .u32 (U : Int), .int .i64 F, .int .u32 (S : Int), .int .i64 Z, .int .i64 P, .int .i64 Y, .int .i64 X, .int .i64 Q, .int .i64 C, .slice rA rn rc, .slice dA dn dc] 26 (0, 0)) := by rw [hw1, hgg]; exact heap_new _ _
  have hf1 : Fr No w w1 := by rw [hw1]; exact (Fr.refl No w).alloc _
  have HB := hid (And.intro hb1 (And.intro hf1 (And.intro hgg hw1)))
  have hX : ∀ W, Fr No w1 W → W.heap[g]? = some (.cells #[.int .i64 K, .int .u32 (U : Int), .int .i64 F, .int .u32 (S : Int), .int .i64 Z, .int .i64 P, .int .i64 Y, .int .i64 X, .int .i64 Q, .int .i64 C, .slice rA rn rc, .slice dA dn dc] 26 (0, 0)) := fun W h => (h.block g (Array.getElem?_eq_some_iff.1 hb1).1 (fun h => h)).trans hb1
  have HX := hid hX
  have HM := hid (And.intro hrn (And.intro hdn (And.intro r1 d1)))
  clear hgg hw1 hb1 hf1 hX hrn hdn r1 d1
  by_cases h3000 : (3000 : Int) < (dn : Int)
  · go_enter Try.func3, Try.ntmps3
    go_wp2_with fail
    rw [← HB.out.2.2.2, ← HB.out.2.2.1]
    refine (fixed22_calls _).mono ?_
    rintro e w2 ⟨rfl, hf2⟩
    have H2 := hid hf2
    obtain ⟨m0, m1, m2, m3, m4, m5, m6, m7, m8, m9, m10, m11⟩ := blk12 (HX.out w2 hf2)
    clear hf2
    go_wp2_with fail
    go_ret
    exact ⟨rfl, HB.out.2.1.then H2.out⟩
  by_cases h100 : (100 : Int) < (rn : Int)
  · go_enter Try.func3, Try.ntmps3
    go_wp2_with fail
    rw [← HB.out.2.2.2, ← HB.out.2.2.1]
    refine (fixed22_calls _).mono ?_
    rintro e w2 ⟨rfl, hf2⟩
    have H2 := hid hf2
    obtain ⟨m0, m1, m2, m3, m4, m5, m6, m7, m8, m9, m10, m11⟩ := blk12 (HX.out w2 hf2)
    clear hf2
    go_wp2_with fail
    go_ret
    exact ⟨rfl, HB.out.2.1.then H2.out⟩
  obtain ⟨E, hE⟩ : ∃ E, E = swrE (⟨K, U, F, S, Z, P, Y, X, Q, C, R, D⟩ : MsgS) := ⟨_, rfl⟩
  have wcl : ∀ W A A' c c', Cells W A (rngC R) → Rd B W A' D → Calls Try.prog 9 #[.agg #[.int .i64 K, .int .u32 (U : Int), .int .i64 F, .int .u32 (S : Int), .int .i64 Z, .int .i64 P, .int .i64 Y, .int .i64 X, .int .i64 Q, .int .i64 C, .slice A rn c, .slice A' dn c']] W fun e w' => ∃ v, e = .returned (.tuple #[v, .int .i64 E]) ∧ New B W w' v (swrB (⟨K, U, F, S, Z, P, Y, X, Q, C, R, D⟩ : MsgS)) := fun W A A' c c' h1 h2 => by
    rw [hE]; exact swrite_calls K U F S Z P Y X Q C R D A A' rn c dn c' W hU hS HM.out.1 HM.out.2.1 h1 h2 (by omega) (by omega)
  have wdl : ∀ W, Fr No w1 W → Calls Try.prog 10 #[.agg #[.int .i64 K, .int .u32 (U : Int), .int .i64 F, .int .u32 (S : Int), .int .i64 Z, .int .i64 P, .int .i64 Y, .int .i64 X, .int .i64 Q, .int .i64 C, .slice rA rn rc, .slice dA dn dc]] W fun e w' => ∃ v, e = .returned (.tuple #[v, .int .i64 E]) ∧ New B W w' v (swrB (⟨K, U, F, S, Z, P, Y, X, Q, C, R, D⟩ : MsgS)) := fun W h => by
    rw [hE]; exact refWrite_calls K U F S Z P Y X Q C R D rA dA rn rc dn dc W hU hS HM.out.1 HM.out.2.1 (HM.out.2.2.1.fr (HB.out.2.1.then h) (fun _ _ h => h)) (HM.out.2.2.2.fr0 (HB.out.2.1.then h)) (by omega) (by omega)
  have HWC := hid (And.intro wcl wdl)
  have hself : (E == E) = true := by simp
  clear hE wcl wdl
  go_enter Try.func3, Try.ntmps3
  go_wp2_with fail
  rw [← HB.out.2.2.2, ← HB.out.2.2.1]
  refine (fixed22_calls _).mono ?_
  rintro e w2 ⟨rfl, hf2⟩
  have H2 := hid hf2
  obtain ⟨m0, m1, m2, m3, m4, m5, m6, m7, m8, m9, m10, m11⟩ := blk12 (HX.out w2 hf2)
  clear hf2
  go_upto_region 6 with fail
  obtain ⟨g3, hg3⟩ : ∃ q, q = w2.heap.size := ⟨_, rfl⟩
  obtain ⟨w3, hw3⟩ : ∃ W, W = w2.alloc (.cells #[.int .i64 K, .int .u32 (U : Int), .int .i64 F, .int .u32 (S : Int), .int .i64 Z, .int .i64 P, .int .i64 Y, .int .i64 X, .int .i64 Q, .int .i64 C, .slice rA rn rc, .slice dA dn dc] 26) := ⟨_, rfl⟩
  have hb3 : w3.heap[g3]? = some (.cells #[.int .i64 K, .int .u32 (U : Int), .int .i64 F, .int .u32 (S : Int), .int .i64 Z, .int .i64 P, .int .i64 Y, .int .i64 X, .int .i64 Q, .int .i64 C, .slice rA rn rc, .slice dA dn dc] 26 (0, 0)) := by rw [hw3, hg3]; exact heap_new _ _
  have hf3 : Fr No w1 w3 := by rw [hw3]; exact H2.out.alloc _
  have hg3l : w1.heap.size ≤ g3 := by rw [hg3]; exact H2.out.size
  have hg3u : g3 < w3.heap.size := (Array.getElem?_eq_some_iff.1 hb3).1
  rw [← hw3, ← hg3]
  clear hw3 hg3 m0 m1 m2 m3 m4 m5 m6 m7 m8 m9 m10 m11
  have m11 : ∀ o, (w3.alloc o).cell? ⟨g, 11, none⟩ = some (.slice dA dn dc) := fun o => (blk12 (HX.out _ (hf3.alloc o))).2.2.2.2.2.2.2.2.2.2.2
  have H3 := hid (And.intro hb3 hf3)
  clear hb3 hf3
  go_upto_region 7 with (at_builtin; refine wpList_app slU8 rfl (.tmp 21) (.tmp 23) rfl rfl (Row.new w3 1 0 [] _ rfl (by omega)) rfl (by rw [List.length_map, HM.out.2.1]; omega) ((Rd.cells.1 HM.out.2.2.2).fr (S := No) ((HB.out.2.1.then H3.out.2).alloc _) (fun _ _ h => h)) (oneB D) (by omega) (by omega) ?_; intro A4 c4 w4 ob4 hv4 hf4 hob4; simp only [Nat.zero_add, List.nil_append] at hv4 ⊢; have hb4 : w4.heap[g3]? = some (.cells #[.int .i64 K, .int .u32 (U : Int), .int .i64 F, .int .u32 (S : Int), .int .i64 Z, .int .i64 P, .int .i64 Y, .int .i64 X, .int .i64 Q, .int .i64 C, .slice rA rn rc, .slice dA dn dc] 26 (0, 0)) := (hf4.block g3 (by rw [World.size_alloc]; omega) (fun e => by injection e with e; omega)).trans ((((Fr.refl No w3).alloc (.cells #[] 5)).block g3 hg3u (fun h => h)).trans H3.out.1); have s11 : w4.cell? ⟨g3, 11, none⟩ = some (.slice dA dn dc) := (blk12 hb4).2.2.2.2.2.2.2.2.2.2.2; have f11 : w4.frozen? ⟨g3, 11, none⟩ = false := frz hb4)
  have hk4 := some_le (m := w3.heap.size) (hob4.imp id (fun ⟨k, a, b⟩ => ⟨k, a, by simp at b; omega⟩)) (Nat.le_refl _)
  have hf34 : Fr No w3 w4 := ((Fr.refl No w3).alloc _).fresh hf4 (fun k e => by injection e with e; omega)
  obtain ⟨w5, hw5⟩ : ∃ W, W = w4.setCell ⟨g3, 11, none⟩ (.slice A4 dn c4) := ⟨_, rfl⟩
  rw [← hw5]
  have hb5 : w5.heap[g3]? = some (.cells #[.int .i64 K, .int .u32 (U : Int), .int .i64 F, .int .u32 (S : Int), .int .i64 Z, .int .i64 P, .int .i64 Y, .int .i64 X, .int .i64 Q, .int .i64 C, .slice rA rn rc, .slice A4 dn c4] 26 (0, 0)) := by
    have := heap_set w4 g3 11 _ _ (.slice A4 dn c4) hb4
    rw [hw5]
    simpa using this
  have hf45 : Fr (HK.One g3) w4 w5 := by rw [hw5]; exact Fr.set1 w4 g3 11 _
  have hd5 : Rd B w5 A4 D := (hv4.rd.1).fr hf45 (fun ad e h => by
    have h1 := hk4 _ (hv4.rd.2.2.1 ad e)
    have h2 : ad.block = g3 := h
    omega)
  have hk4' : ∀ ad, A4 = some ad → w3.heap.size ≤ ad.block := fun ad e => hk4 _ (hv4.rd.2.2.1 ad e)
  have hf5 : Fr No w1 w5 := (H3.out.2.then hf34).trans hf45 (fun k hk h => by have h : k = g3 := h; omega)
  have hs5 : w3.heap.size ≤ w5.heap.size := Nat.le_trans hf34.size hf45.size
  have H5 := hid (And.intro hb5 (And.intro hf5 (And.intro hd5 hk4')))
  have m10 : ∀ o, (w5.alloc o).cell? ⟨g, 10, none⟩ = some (.slice rA rn rc) := fun o => (blk12 (HX.out _ (hf5.alloc o))).2.2.2.2.2.2.2.2.2.2.1
  clear hw5 hb4 s11 f11 hv4 hf4 hob4 hk4 hf34 hf45 hd5 hk4' hf5 hb5 m11
  have hlR : (rngC R).length = rn * 2 := by rw [rngC_length, HM.out.1]
  have HLR := hid hlR
  clear hlR
  go_upto_region 8 with (at_builtin; refine wpList_app slRg rfl (.tmp 26) (.tmp 28) rfl rfl (Row.new w5 2 0 [] _ rfl (by omega)) rfl HLR.out (HM.out.2.2.1.fr (S := No) ((HB.out.2.1.then H5.out.2.1).alloc _) (fun _ _ h => h)) (rngC_one R) (by omega) (by omega) ?_; intro A6 c6 w6 ob6 hv6 hf6 hob6; simp only [Nat.zero_add, List.nil_append] at hv6 ⊢; have hb6 := (hf6.block g3 (by rw [World.size_alloc]; omega) (fun e => by injection e with e; omega)).trans ((((Fr.refl No w5).alloc (.cells #[] 53)).block g3 (by omega) (fun h => h)).trans H5.out.1); have s10 : w6.cell? ⟨g3, 10, none⟩ = some (.slice rA rn rc) := (blk12 hb6).2.2.2.2.2.2.2.2.2.2.1; have f10 : w6.frozen? ⟨g3, 10, none⟩ = false := frz hb6)
  have hk6 := some_le (m := w5.heap.size) (hob6.imp id (fun ⟨k, a, b⟩ => ⟨k, a, by simp at b; omega⟩)) (Nat.le_refl _)
  have hf56 : Fr No w5 w6 := ((Fr.refl No w5).alloc _).fresh hf6 (fun k e => by injection e with e; omega)
  obtain ⟨w7, hw7⟩ : ∃ W, W = w6.setCell ⟨g3, 10, none⟩ (.slice A6 rn c6) := ⟨_, rfl⟩
  rw [← hw7]
  have hb7 : w7.heap[g3]? = some (.cells #[.int .i64 K, .int .u32 (U : Int), .int .i64 F, .int .u32 (S : Int), .int .i64 Z, .int .i64 P, .int .i64 Y, .int .i64 X, .int .i64 Q, .int .i64 C, .slice A6 rn c6, .slice A4 dn c4] 26 (0, 0)) := by
    have := heap_set w6 g3 10 _ _ (.slice A6 rn c6) hb6
    rw [hw7]
    simpa using this
  have hf67 : Fr (HK.One g3) w6 w7 := by rw [hw7]; exact Fr.set1 w6 g3 10 _
  obtain ⟨Ax, cx, ex, _, hcx, hbx⟩ := hv6.cells
  obtain ⟨rfl, rfl⟩ : A6 = Ax ∧ c6 = cx := by injection ex with e1 _ e2; exact ⟨e1, e2⟩
  have hr7 : Cells w7 A6 (rngC R) := hcx.fr hf67 (fun ad e h => by
    have h1 := hk6 _ (hbx ad e)
    have h2 : ad.block = g3 := h
    omega)
  have hf57 : Fr (HK.One g3) w5 w7 := hf56.any.then hf67
  have hd7 : Rd B w7 A4 D := H5.out.2.2.1.fr hf57 (fun ad e h => by
    have h1 := H5.out.2.2.2 ad e
    have h2 : ad.block = g3 := h
    omega)
  have hf7 : Fr No w1 w7 := H5.out.2.1.trans hf57 (fun k hk h => by have h : k = g3 := h; omega)
  have H7 := hid (And.intro hb7 (And.intro hf7 (And.intro hr7 hd7)))
  obtain ⟨m0, m1, m2, m3, m4, m5, m6, m7, m8, m9, n10, n11⟩ := blk12 hb7
  clear hw7 hb6 s10 f10 hv6 hf6 hob6 hk6 hf56 hf67 hr7 hf57 hd7 hf7 ex hcx hbx m10
  have hg7 : g3 < w7.heap.size := (Array.getElem?_eq_some_iff.1 hb7).1
  clear hb7
  go_wp2_with fail
  refine (HWC.out.1 w7 A6 A4 c6 c4 H7.out.2.2.1 H7.out.2.2.2).mono ?_
  rintro e w8 ⟨v8, rfl, hn8⟩
  obtain ⟨A8, n8, c8, rfl, N8⟩ := hn8.use
  clear hn8 m0 m1 m2 m3 m4 m5 m6 m7 m8 m9 n10 n11
  have H8 := hid (H7.out.2.1.then N8.out.2.2.2.1)
  obtain ⟨m0, m1, m2, m3, m4, m5, m6, m7, m8, m9, m10, m11⟩ := blk12 (HX.out w8 H8.out)
  go_wp2_with fail
  refine (HWC.out.2 w8 H8.out).mono ?_
  rintro e w9 ⟨v9, rfl, hn9⟩
  obtain ⟨A9, n9, c9, rfl, N9⟩ := hn9.use
  clear hn9 m0 m1 m2 m3 m4 m5 m6 m7 m8 m9 m10 m11
  have H9 := hid (H8.out.then N9.out.2.2.2.1)
  have hb9 := (N9.out.2.2.2.1.block g3 (Nat.lt_of_lt_of_le hg7 N8.out.2.2.2.1.size) (fun h => h)).trans ((N8.out.2.2.2.1.block g3 hg7 (fun h => h)).trans H7.out.1)
  obtain ⟨m0, m1, m2, m3, m4, m5, m6, m7, m8, m9, m10, m11⟩ := blk12 (HX.out w9 H9.out)
  obtain ⟨o0, o1, o2, o3, o4, o5, o6, o7, o8, o9, o10, o11⟩ := blk12 hb9
  clear hb9
  go_wp2_with fail
  refine (same_calls A8 A9 _ _ n8 n9 c8 c9 N8.out.1 N9.out.1 _ (N8.out.2.1.fr0 N9.out.2.2.2.1) N9.out.2.1).mono ?_
  rw [decide_eq_true (show swrB (⟨K, U, F, S, Z, P, Y, X, Q, C, R, D⟩ : MsgS) = swrB (⟨K, U, F, S, Z, P, Y, X, Q, C, R, D⟩ : MsgS) from rfl)]
  rintro e w10 ⟨rfl, hw10⟩
  rw [hw10]
  clear hw10 w10
  go_wp2_with fail
  have hfin : Fr No w7 w9 := N8.out.2.2.2.1.then N9.out.2.2.2.1
  refine (refSameEq_calls K U F S Z P Y X Q C R D A6 A4 rA dA rn c6 dn c4 rc dc w9 HM.out.1 HM.out.2.1 (H7.out.2.2.1.fr hfin (fun _ _ h => h)) (H7.out.2.2.2.fr0 hfin) (HM.out.2.2.1.fr (HB.out.2.1.then H9.out) (fun _ _ h => h)) (HM.out.2.2.2.fr0 (HB.out.2.1.then H9.out)) (by omega)).mono ?_
  rintro e w11 ⟨rfl, hf11⟩
  have H11 := hid hf11
  clear hf11 hfin
  go_wp2_with fail
  go_ret
  exact ⟨rfl, (HB.out.2.1.then H9.out).then H11.out⟩
theorem segmentWrites_walk (v : Value) (x : MsgT) (w : World) {base : Nat} (hok : Value.okWide Try.prog w .any base 26 v) (hx : msgD.K w x v.cells.toList) : Calls Try.prog 3 #[v] w fun e w' => e = .returned (.bool true) ∧ Fr No w w' := by
  obtain ⟨K, U, F, S, Z, P, Y, X, Q, C, R, D, rA, dA, rc, dc, rfl, hU, hS, r1, r2, r3, d1, d2, d3⟩ := msgD_val hok hx
  exact segmentWrites_w K U F S Z P Y X Q C R D rA dA R.length rc D.length dc w hU hS rfl rfl r1 (by omega) d1 d3
end Go.Proofs.Ytamkfjbdcjkchaa

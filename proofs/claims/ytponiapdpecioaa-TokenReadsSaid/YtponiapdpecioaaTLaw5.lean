/- TokenReads' walk. -/
import Derived.Test.YtponiapdpecioaaTLaw
import Derived.Test.YtponiapdpecioaaTokR2
import Derived.Test.YtponiapdpecioaaTurn
import Derived.Test.YtponiapdpecioaaTokP3
import Derived.Test.YtponiapdpecioaaOpen
namespace Go.Proofs.Ytponiapdpecioaa
open Go.RowKit Go.WideShapes Go.Proofs.HK
set_option linter.unusedVariables false
set_option linter.unusedSimpArgs false

/-- A box with a token, new. -/
theorem box_new (w : World) (F : Int) (S : Nat) (A : Option Addr) (n c : Nat) : ∃ (g : Nat) (X : World), X = w.alloc (.cells #[.int .i64 F, .int .u32 (S : Int), .slice A n c] 25) ∧ g = w.heap.size ∧ Fr No w X ∧ X.heap[g]? = some (.cells #[.int .i64 F, .int .u32 (S : Int), .slice A n c] 25 (0, 0)) :=
  ⟨_, _, rfl, rfl, (Fr.refl No w).alloc _, heap_new _ _⟩
theorem heapk {W W' : World} {g : Nat} {cs : Array Value} {t : TypeId} (hf : Fr No W W') (h : W.heap[g]? = some (.cells cs t (0, 0))) : W'.heap[g]? = some (.cells cs t (0, 0)) := (hf.block g (Array.getElem?_eq_some_iff.1 h).1 (fun h => h)).trans h
set_option maxRecDepth 100000 in
set_option maxHeartbeats 3200000 in
theorem tokenReads_walk (A : Option Addr) (xs : List UInt8) (n c : Nat) (w : World) (s0 : SlIn B 1 w A xs n c) :
    Calls Try.prog 4 #[.slice A n c] w fun e w' => e = .returned (.bool true) ∧ Fr No w w' := by
  have HN := hid (And.intro s0.len (And.intro s0.rd s0.cap))
  clear s0
  by_cases hbig : (3000 : Int) < (n : Int)
  · go_enter Try.func4, Try.ntmps4
    go_wp2_with fail
    refine (fixed25_calls _).mono ?_
    rintro e w3 ⟨rfl, hf3⟩
    go_wp2_with fail
    go_ret
    exact ⟨rfl, hf3⟩
  · have hnl : n ≤ 3000 := by omega
    obtain ⟨E1, hE1⟩ : ∃ E, E = trdE xs := ⟨_, rfl⟩
    obtain ⟨⟨F1, S1, D1⟩, hT1⟩ : ∃ T, T = trdT xs := ⟨_, rfl⟩
    obtain ⟨E2, hE2⟩ : ∃ E, E = trdE (sealB xs) := ⟨_, rfl⟩
    obtain ⟨⟨F2, S2, D2⟩, hT2⟩ : ∃ T, T = trdT (sealB xs) := ⟨_, rfl⟩
    have hl2 : (sealB xs).length = n + 4 := by rw [sealB_length, HN.out.1]
    have hW : E2 = 0 → tokE F2 D2.length = 0 ∧ tokB F2 S2 D2 = sealB xs ∧ S2 < 4294967296 := fun h => by
      have h0 : trdE (sealB xs) = 0 := hE2.symm.trans h
      have h1 := tok_trd (sealB xs) h0
      have h2 : trdT (sealB xs) = ⟨trdF (sealB xs), trdS (sealB xs), trdD (sealB xs)⟩ := by unfold trdT; rw [if_pos h0]
      rw [← hT2] at h2
      injection h2 with q1 q2 q3
      rw [q1, q2, q3]
      exact ⟨h1.1, h1.2, trdS_lt _⟩
    have HH1 := hid (And.intro hE1 hT1)
    have HH2 := hid (And.intro hE2 (And.intro hT2 (And.intro hl2 hW)))
    have hs1 : (E1 != E1) = false := by simp
    have hs2 : (E2 != E2) = false := by simp
    clear hE1 hT1 hE2 hT2 hl2 hW
    go_enter Try.func4, Try.ntmps4
    go_wp2_with fail
    refine (fixed25_calls _).mono ?_
    rintro e w3 ⟨rfl, hf3⟩
    have H3 := hid hf3
    clear hf3
    go_wp2_with fail
    refine (sealed_calls A xs n c _ HN.out.1 (HN.out.2.1.fr0 H3.out) (by omega)).mono ?_
    rintro e w4 ⟨v4, rfl, hnew4⟩
    obtain ⟨A4, n4, c4, rfl, N4⟩ := hnew4.use
    clear hnew4
    obtain rfl : n4 = n + 4 := by rw [← N4.out.1, HH2.out.2.2.1]
    go_wp2_with fail
    refine (read_calls A xs n c _ HN.out.1 (HN.out.2.1.fr0 (H3.out.then N4.out.2.2.2.1)) HN.out.2.2 (by omega)).mono ?_
    rw [← HH1.out.1, ← HH1.out.2]
    rintro e w5 ⟨v, rfl, hnew⟩
    obtain ⟨A5, n5, c5, rfl, N5⟩ := hnew.use
    clear hnew
    obtain ⟨g5, X5, hX5, hg5, hf5, hb5⟩ := box_new w5 F1 S1 A5 n5 c5
    have HX5 := hid (And.intro hX5 hg5)
    have HB5 := hid (And.intro hf5 hb5)
    clear hX5 hg5 hf5 hb5
    go_wp2_with fail
    rw [← HX5.out.1, ← HX5.out.2]
    have K5 := hid ((H3.out.then N4.out.2.2.2.1).then (N5.out.2.2.2.1.then HB5.out.1))
    refine (refRead_calls A xs n c _ HN.out.1 (HN.out.2.1.fr0 K5.out) HN.out.2.2 (by omega)).mono ?_
    rw [← HH1.out.1, ← HH1.out.2]
    rintro e w6 ⟨v, rfl, hnew⟩
    obtain ⟨A6, n6, c6, rfl, N6⟩ := hnew.use
    clear hnew
    obtain ⟨g6, X6, hX6, hg6, hf6, hb6⟩ := box_new w6 F1 S1 A6 n6 c6
    have HX6 := hid (And.intro hX6 hg6)
    have HB6 := hid (And.intro hf6 hb6)
    clear hX6 hg6 hf6 hb6
    go_wp2_with fail
    rw [← HX6.out.1, ← HX6.out.2]
    have L6 := hid (N6.out.2.2.2.1.then HB6.out.1)
    refine (read_calls A4 _ (n + 4) c4 _ N4.out.1 (N4.out.2.1.fr0 ((N5.out.2.2.2.1.then HB5.out.1).then L6.out)) N4.out.2.2.1 (by omega)).mono ?_
    rw [← HH2.out.1, ← HH2.out.2.1]
    rintro e w7 ⟨v, rfl, hnew⟩
    obtain ⟨A7, n7, c7, rfl, N7⟩ := hnew.use
    clear hnew
    obtain ⟨g7, X7, hX7, hg7, hf7, hb7⟩ := box_new w7 F2 S2 A7 n7 c7
    have HX7 := hid (And.intro hX7 hg7)
    have HB7 := hid (And.intro hf7 hb7)
    clear hX7 hg7 hf7 hb7
    go_wp2_with fail
    rw [← HX7.out.1, ← HX7.out.2]
    have L7 := hid (N7.out.2.2.2.1.then HB7.out.1)
    refine (refRead_calls A4 _ (n + 4) c4 _ N4.out.1 (N4.out.2.1.fr0 (((N5.out.2.2.2.1.then HB5.out.1).then L6.out).then L7.out)) N4.out.2.2.1 (by omega)).mono ?_
    rw [← HH2.out.1, ← HH2.out.2.1]
    rintro e w8 ⟨v, rfl, hnew⟩
    obtain ⟨A8, n8, c8, rfl, N8⟩ := hnew.use
    clear hnew
    have p5 := heapk ((L6.out.then L7.out).then N8.out.2.2.2.1) HB5.out.2
    have p6 := heapk (L7.out.then N8.out.2.2.2.1) HB6.out.2
    have p7 := heapk N8.out.2.2.2.1 HB7.out.2
    have q5 := fun o => keep3a (o := o) (Array.getElem?_eq_some_iff.1 p5).1 (blk3c p5)
    have q6 := fun o => keep3a (o := o) (Array.getElem?_eq_some_iff.1 p6).1 (blk3c p6)
    have q7 := fun o => keep3a (o := o) (Array.getElem?_eq_some_iff.1 p7).1 (blk3c p7)
    have a50 := fun o => (q5 o).1
    have a51 := fun o => (q5 o).2.1
    have a52 := fun o => (q5 o).2.2
    have a60 := fun o => (q6 o).1
    have a61 := fun o => (q6 o).2.1
    have a62 := fun o => (q6 o).2.2
    have P7 := hid p7
    clear q5 q6 q7 p5 p6 p7
    go_wp2_with fail
    obtain ⟨g8, X8, hX8, hg8, hf8, hb8⟩ := box_new w8 F2 S2 A8 n8 c8
    rw [← hX8]
    have HB8 := hid (And.intro hf8 (And.intro hb8 hg8))
    clear hX8 hf8 hb8 hg8 a50 a51 a52 a60 a61 a62
    have L8 := hid (N8.out.2.2.2.1.then HB8.out.1)
    refine (sameTok_calls F1 S1 D1 A5 A6 n5 n6 c5 c6 _ N5.out.1 N6.out.1 (N5.out.2.1.fr0 (((HB5.out.1.then L6.out).then L7.out).then L8.out)) (N6.out.2.1.fr0 ((HB6.out.1.then L7.out).then L8.out))).mono ?_
    rintro e w9 ⟨rfl, hf9⟩
    have L9 := hid hf9
    obtain ⟨b70, b71, b72⟩ := blk3c (heapk (HB8.out.1.then hf9) P7.out)
    obtain ⟨b80, b81, b82⟩ := blk3c (heapk hf9 HB8.out.2.1)
    have hg8 := HB8.out.2.2
    rw [hg8] at b80 b81 b82
    clear hf9 hg8
    go_wp2_with fail
    clear b70 b71 b72 b80 b81 b82
    refine (sameTok_calls F2 S2 D2 A7 A8 n7 n8 c7 c8 _ N7.out.1 N8.out.1 (N7.out.2.1.fr0 ((HB7.out.1.then L8.out).then L9.out)) (N8.out.2.1.fr0 (HB8.out.1.then L9.out))).mono ?_
    rintro e w10 ⟨rfl, hf10⟩
    have L10 := hid hf10
    have K10 := hid (((((K5.out.then L6.out).then L7.out).then L8.out).then L9.out).then hf10)
    obtain ⟨b70, b71, b72⟩ := blk3c (heapk ((HB8.out.1.then L9.out).then hf10) P7.out)
    clear hf10
    by_cases hE : E2 = 0
    · obtain ⟨t1, t2, t3⟩ := HH2.out.2.2.2 hE
      have hn7 : D2.length = n7 := N7.out.1
      rw [hn7] at t1
      have HT := hid (And.intro t1 (And.intro t2 t3))
      have hb : (E2 != 0) = false := by simpa using hE
      have hwc : ∀ W, Fr No w10 W → Calls Try.prog 10 #[.agg #[.int .i64 F2, .int .u32 (S2 : Int), .slice A7 n7 c7]] W fun e w' => ∃ v, e = .returned (.tuple #[v, .int .i64 0]) ∧ New B W w' v (sealB xs) := fun W hW => by
        have := write_calls F2 S2 D2 A7 n7 c7 W N7.out.1 (N7.out.2.1.fr0 ((((HB7.out.1.then L8.out).then L9.out).then L10.out).then hW)) HT.out.2.2
        rw [HT.out.1, HT.out.2.1] at this
        exact this
      have HWC := hid hwc
      clear hE t1 t2 t3 hn7 hwc
      go_wp2_with fail
      refine (HWC.out _ (Fr.refl _ _)).mono ?_
      rintro e w11 ⟨v, rfl, hnew⟩
      obtain ⟨A11, n11, c11, rfl, N11⟩ := hnew.use
      clear hnew
      obtain rfl : n11 = n + 4 := by rw [← N11.out.1, HH2.out.2.2.1]
      go_wp2_with fail
      refine (same_calls A11 A4 _ _ (n + 4) (n + 4) c11 c4 N11.out.1 N4.out.1 _ N11.out.2.1 (N4.out.2.1.fr0 (((((((N5.out.2.2.2.1.then HB5.out.1).then L6.out).then L7.out).then L8.out).then L9.out).then L10.out).then N11.out.2.2.2.1))).mono ?_
      rw [decide_eq_true (show sealB xs = sealB xs from rfl)]
      rintro e w12 ⟨rfl, hw12⟩
      rw [hw12]
      clear hw12 w12
      go_wp2_with fail
      go_ret
      exact ⟨rfl, K10.out.then N11.out.2.2.2.1⟩
    · have hb : (E2 != 0) = true := by simpa using hE
      clear hE
      go_wp2_with fail
      go_ret
      exact ⟨rfl, K10.out⟩
end Go.Proofs.Ytponiapdpecioaa

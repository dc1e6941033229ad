/- Ranges: their cells; what asks whether a message's numbers may be; the writer of an answer. -/
import Derived.Test.YtamkfjbdcjkchaaSegF
import Derived.Deep.DeepCutAuto
import Derived.Deep.CutBlock
namespace Go.Proofs.Ytamkfjbdcjkchaa
open Go.RowKit Go.Proofs.HK
set_option linter.unusedVariables false
set_option linter.unusedSimpArgs false
attribute [local go_sem] max2_int min2_int max_two min_two

def rngC (l : List (Int × Int)) : List Value := l.flatMap fun r => [.int .i64 r.1, .int .i64 r.2]
theorem rngC_length (l : List (Int × Int)) : (rngC l).length = l.length * 2 := by
  induction l with
  | nil => rfl
  | cons p ps ih => unfold rngC at *; rw [List.flatMap_cons, List.length_append, ih, List.length_cons]; simp; omega
theorem rngC_append (l m : List (Int × Int)) : rngC (l ++ m) = rngC l ++ rngC m := by simp [rngC]
theorem rngC_get (l : List (Int × Int)) (i : Nat) (hi : i < l.length) : (rngC l)[i * 2]? = some (.int .i64 l[i].1) ∧ (rngC l)[i * 2 + 1]? = some (.int .i64 l[i].2) := by
  induction l generalizing i with
  | nil => simp at hi
  | cons p ps ih =>
    unfold rngC at *
    rw [List.flatMap_cons]
    cases i with
    | zero => simp
    | succ i =>
      have := ih i (by simpa using hi)
      rw [show (i + 1) * 2 = i * 2 + 2 by omega]
      simpa using this
theorem cells2 {w : World} {A : Option Addr} {l : List (Int × Int)} (h : Cells w A (rngC l)) (k : Nat) (hk : k < l.length) :
    ∃ ad, A = some ad ∧ w.cell? (ad.add (k * 2)) = some (.int .i64 l[k].1) ∧ w.cell? ⟨(ad.add (k * 2)).block, (ad.add (k * 2)).off + 1, none⟩ = some (.int .i64 l[k].2) := by
  obtain ⟨ad, e, hc⟩ := h (by rw [rngC_length]; omega)
  obtain ⟨g1, g2⟩ := rngC_get l k hk
  exact ⟨ad, e, hc _ _ g1, cellAt (hc _ _ g2)⟩

theorem within_yes (v a b : Int) (w : World) (h : Hid (a ≤ v ∧ v ≤ b)) : Calls Try.prog 50 #[.int .i64 v, .int .i64 a, .int .i64 b] w fun e w' => e = .returned (.bool true) ∧ w = w' := by
  obtain ⟨h1, h2⟩ := h.out
  go_enter Try.func50, Try.ntmps50
  go_wp2_with fail
  go_ret
  exact ⟨rfl, rfl⟩
theorem within_no (v a b : Int) (w : World) (h : Hid (¬ (a ≤ v ∧ v ≤ b))) : Calls Try.prog 50 #[.int .i64 v, .int .i64 a, .int .i64 b] w fun e w' => e = .returned (.bool false) ∧ w = w' := by
  by_cases h1 : a ≤ v
  · have h2 : b < v := by have := h.out; omega
    have h3 : decide (v ≤ b) = false := decide_eq_false (by omega)
    clear h
    go_enter Try.func50, Try.ntmps50
    go_wp2_with fail
    go_ret
    exact ⟨rfl, rfl⟩
  · have h2 : v < a := by omega
    clear h h1
    go_enter Try.func50, Try.ntmps50
    go_wp2_with fail
    go_ret
    exact ⟨rfl, rfl⟩
theorem take_snocR (l : List (Int × Int)) (k : Nat) (h : k < l.length) : l.take (k + 1) = l.take k ++ [l[k]] := List.take_succ_eq_append_getElem h
/-- The first test, taken apart: each number in its turn. -/
theorem base0_split (m : MsgS) : (base0 m = true ∧ Hid (0 ≤ m.F ∧ m.F ≤ 15) ∧ Hid (0 ≤ m.P ∧ m.P ≤ 1048576) ∧ Hid (0 ≤ m.X ∧ m.X ≤ 2147483647) ∧ Hid (0 ≤ m.Q ∧ m.Q ≤ 8) ∧ Hid (0 ≤ m.C ∧ m.C ≤ 255) ∧ m.R.length ≤ 4 ∧ m.D.length ≤ 1024) ∨
    (base0 m = false ∧ (Hid (¬ (0 ≤ m.F ∧ m.F ≤ 15)) ∨ Hid (0 ≤ m.F ∧ m.F ≤ 15) ∧ (Hid (¬ (0 ≤ m.P ∧ m.P ≤ 1048576)) ∨ Hid (0 ≤ m.P ∧ m.P ≤ 1048576) ∧ (Hid (¬ (0 ≤ m.X ∧ m.X ≤ 2147483647)) ∨ Hid (0 ≤ m.X ∧ m.X ≤ 2147483647) ∧ (Hid (¬ (0 ≤ m.Q ∧ m.Q ≤ 8)) ∨ Hid (0 ≤ m.Q ∧ m.Q ≤ 8) ∧
      (Hid (¬ (0 ≤ m.C ∧ m.C ≤ 255)) ∨ Hid (0 ≤ m.C ∧ m.C ≤ 255) ∧ (4 < m.R.length ∨ m.R.length ≤ 4 ∧ 1024 < m.D.length))))))) := by
  unfold base0
  by_cases h1 : 0 ≤ m.F ∧ m.F ≤ 15
  · by_cases h2 : 0 ≤ m.P ∧ m.P ≤ 1048576
    · by_cases h3 : 0 ≤ m.X ∧ m.X ≤ 2147483647
      · by_cases h4 : 0 ≤ m.Q ∧ m.Q ≤ 8
        · by_cases h5 : 0 ≤ m.C ∧ m.C ≤ 255
          · by_cases h6 : m.R.length ≤ 4
            · by_cases h7 : m.D.length ≤ 1024
              · exact .inl ⟨decide_eq_true (by omega), h1, h2, h3, h4, h5, h6, h7⟩
              · exact .inr ⟨decide_eq_false (by omega), .inr ⟨h1, .inr ⟨h2, .inr ⟨h3, .inr ⟨h4, .inr ⟨h5, .inr ⟨h6, by omega⟩⟩⟩⟩⟩⟩⟩
            · exact .inr ⟨decide_eq_false (by omega), .inr ⟨h1, .inr ⟨h2, .inr ⟨h3, .inr ⟨h4, .inr ⟨h5, .inl (by omega)⟩⟩⟩⟩⟩⟩
          · exact .inr ⟨decide_eq_false (by omega), .inr ⟨h1, .inr ⟨h2, .inr ⟨h3, .inr ⟨h4, .inl h5⟩⟩⟩⟩⟩
        · exact .inr ⟨decide_eq_false (by omega), .inr ⟨h1, .inr ⟨h2, .inr ⟨h3, .inl h4⟩⟩⟩⟩
      · exact .inr ⟨decide_eq_false (by omega), .inr ⟨h1, .inr ⟨h2, .inl h3⟩⟩⟩
    · exact .inr ⟨decide_eq_false (by omega), .inr ⟨h1, .inl h2⟩⟩
  · exact .inr ⟨decide_eq_false (by omega), .inl h1⟩

/-- The second test, by kinds. -/
theorem base1_split (m : MsgS) : ((m.K == 2) = true ∧ ((base1 m = true ∧ Hid (mx 1 m.P ≤ m.Z ∧ m.Z ≤ 1048576) ∧ Hid (1 ≤ m.Y ∧ m.Y ≤ 1024)) ∨ (base1 m = false ∧ (Hid (¬ (mx 1 m.P ≤ m.Z ∧ m.Z ≤ 1048576)) ∨ Hid (mx 1 m.P ≤ m.Z ∧ m.Z ≤ 1048576) ∧ Hid (¬ (1 ≤ m.Y ∧ m.Y ≤ 1024)))))) ∨
    ((m.K == 3) = true ∧ (m.K == 2) = false ∧ ((base1 m = true ∧ 0 < m.D.length) ∨ (base1 m = false ∧ ¬ (0 < m.D.length)))) ∨ ((m.K == 3) = false ∧ (m.K == 2) = false ∧ base1 m = true) := by
  have e : mx 1 m.P ≤ m.Z ↔ 1 ≤ m.Z ∧ m.P ≤ m.Z := by unfold mx; split <;> omega
  by_cases k2 : m.K = 2
  · refine .inl ⟨by simpa using k2, ?_⟩
    unfold base1
    rw [if_pos k2]
    by_cases h1 : mx 1 m.P ≤ m.Z ∧ m.Z ≤ 1048576
    · have h1' := h1
      rw [e] at h1'
      by_cases h2 : 1 ≤ m.Y ∧ m.Y ≤ 1024
      · exact .inl ⟨decide_eq_true (by omega), h1, h2⟩
      · exact .inr ⟨decide_eq_false (by omega), .inr ⟨h1, h2⟩⟩
    · have h1' := h1
      rw [e] at h1'
      exact .inr ⟨decide_eq_false (by omega), .inl h1⟩
  · have n2 : (m.K == 2) = false := by simpa using k2
    by_cases k3 : m.K = 3
    · refine .inr (.inl ⟨by simpa using k3, n2, ?_⟩)
      unfold base1
      rw [if_neg k2, if_pos k3]
      by_cases h : 0 < m.D.length
      · exact .inl ⟨decide_eq_true h, h⟩
      · exact .inr ⟨decide_eq_false h, h⟩
    · refine .inr (.inr ⟨by simpa using k3, n2, ?_⟩)
      unfold base1
      rw [if_neg k2, if_neg k3]
set_option maxRecDepth 100000 in
set_option maxHeartbeats 3200000 in
theorem ranged_calls (K : Int) (U : Nat) (F : Int) (S : Nat) (Z P Y X Q C : Int) (R : List (Int × Int)) (D : List UInt8) (rA dA : Option Addr) (rn rc dn dc : Nat) (w : World) (hR : R.length = rn) (hD : D.length = dn) (hr : Cells w rA (rngC R)) (hl : rn ≤ 140737488355328) (hl2 : dn ≤ 140737488355328) :
    Calls Try.prog 18 #[.agg #[.int .i64 K, .int .u32 (U : Int), .int .i64 F, .int .u32 (S : Int), .int .i64 Z, .int .i64 P, .int .i64 Y, .int .i64 X, .int .i64 Q, .int .i64 C, .slice rA rn rc, .slice dA dn dc]] w fun e w' => e = .returned (.bool (rangedB ⟨K, U, F, S, Z, P, Y, X, Q, C, R, D⟩)) ∧ Fr No w w' := by
  obtain ⟨B0, hB0⟩ : ∃ b, b = base0 ⟨K, U, F, S, Z, P, Y, X, Q, C, R, D⟩ := ⟨_, rfl⟩
  obtain ⟨B1, hB1⟩ : ∃ b, b = base1 ⟨K, U, F, S, Z, P, Y, X, Q, C, R, D⟩ := ⟨_, rfl⟩
  have HB := hid (show rangedB ⟨K, U, F, S, Z, P, Y, X, Q, C, R, D⟩ = (B0 && B1 && chainB X R) by rw [hB0, hB1]; rfl)
  have hs := base0_split ⟨K, U, F, S, Z, P, Y, X, Q, C, R, D⟩
  have HR := hid (And.intro hR (And.intro hD hr))
  obtain ⟨g, hgg⟩ : ∃ g, g = w.heap.size := ⟨_, rfl⟩
  have HG := hid hgg
  obtain ⟨w1, hw1⟩ : ∃ W, W = w.alloc (.cells #[.int .i64 K, .int .u32 (U : Int), .int .i64 F, .int .u32 (S : Int), .int .i64 Z, .int .i64 P, .int .i64 Y, .int .i64 X, .int .i64 Q, .int .i64 C, .slice rA rn rc, .slice dA dn dc] 26) := ⟨_, rfl⟩
  obtain ⟨c0, c1, c2, c3, c4, c5, c6, c7, c8, c9, c10, c11⟩ := blk12 (show w1.heap[g]? = some (.cells #[.int .i64 K, .int .u32 (U : Int), .int .i64 F, .int .u32 (S : Int), .int .i64 Z, .int .i64 P, .int .i64 Y, .int .i64 X, .int .i64 Q, .int .i64 C, .slice rA rn rc, .slice dA dn dc] 26 (0, 0)) by rw [hw1, hgg]; exact heap_new _ _)
  have hf1 : Fr No w w1 := by rw [hw1]; exact (Fr.refl No w).alloc _
  have hg1 : g < w1.heap.size := lt_of_cell c0
  have HF := hid hf1
  have HW := hid hw1
  have hs1 := base1_split ⟨K, U, F, S, Z, P, Y, X, Q, C, R, D⟩
  simp only [hR, hD, ← hB0] at hs
  simp only [hD, ← hB1] at hs1
  clear hf1 hw1 hgg hR hD hr hB0 hB1
  have HS := hid hs
  have HS1 := hid hs1
  clear hs hs1
  go_enter Try.func18, Try.ntmps18
  go_upto_region 1 with fail
  rw [← HW.out, ← HG.out]
  go_cut [3] (fun s3 wx => s3 = .bool B0 ∧ wx = w1)
  case first =>
    rcases HS.out with ⟨rfl, h1, h2, h3, h4, h5, h6, h7⟩ | ⟨rfl, h1 | ⟨h1, h2 | ⟨h2, h3 | ⟨h3, h4 | ⟨h4, h5 | ⟨h5, h6 | ⟨h6, h7⟩⟩⟩⟩⟩⟩⟩
    all_goals
      (try (have hd7 : decide ((dn : Int) ≤ 1024) = true := decide_eq_true (by omega)))
      (try (have hd7 : decide ((dn : Int) ≤ 1024) = false := decide_eq_false (by omega)))
      go_wp2_with (go_at_call 50; (first | (with_reducible refine (within_yes _ _ _ _ (by assumption)).mono ?_) | (with_reducible refine (within_no _ _ _ _ (by assumption)).mono ?_)); rintro e w' ⟨rfl, rfl⟩)
      go_meet
      exact ⟨rfl, rfl⟩
  case rest =>
    obtain ⟨rfl, rfl⟩ := hcut
    go_step
    go_step
    go_cut [3] (fun s3 wx => s3 = .bool (B0 && B1) ∧ wx = wc)
    case first =>
      rcases HS1.out with ⟨h1, ⟨rfl, h2, h3⟩ | ⟨rfl, h2 | ⟨h2, h3⟩⟩⟩ | ⟨h1, h0, ⟨rfl, h2⟩ | ⟨rfl, h2⟩⟩ | ⟨h1, h0, rfl⟩
      all_goals
        cases B0
        all_goals
          go_wp2_with (go_at_call 50; (first | (with_reducible refine (within_yes _ _ _ _ (by assumption)).mono ?_) | (with_reducible refine (within_no _ _ _ _ (by assumption)).mono ?_)); rintro e w' ⟨rfl, rfl⟩)
          go_meet
          exact ⟨rfl, rfl⟩
    case rest =>
      obtain ⟨rfl, rfl⟩ := hcut
      obtain ⟨BB, hBB⟩ : ∃ b, b = (B0 && B1) := ⟨_, rfl⟩
      have HBB := hid hBB
      rw [← hBB]
      clear hBB
      go_wp2_with fail
      go_loopw [3, 4, 74] (fun ok ah i wr => ∃ k : Nat, k ≤ rn ∧ i = .int .i64 k ∧ ok = .bool (BB && chainB X (R.take k)) ∧ ah = .int .i64 (lastA X (R.take k)) ∧ Hid (Fr No w wr)) (fun _ _ i _ => rn - (intOf i).toNat)
      case atStart => exact ⟨0, by omega, rfl, by simp [chainB], rfl, HF⟩
      case round =>
        obtain ⟨k, hk, rfl, rfl, rfl, HFr⟩ := hrel
        obtain ⟨q, hq⟩ : ∃ q, q = (BB && chainB X (R.take k)) := ⟨_, rfl⟩
        obtain ⟨L, hL⟩ : ∃ L, L = lastA X (R.take k) := ⟨_, rfl⟩
        by_cases hlt : k < rn
        · have hkl : k < R.length := by rw [HR.out.1]; exact hlt
          obtain ⟨ad, rfl, a0, a1⟩ := cells2 (HR.out.2.2.fr HFr.out (fun _ _ h => h)) k hkl
          obtain ⟨⟨a, b⟩, hab⟩ : ∃ r, r = R[k] := ⟨_, rfl⟩
          have hN : (BB && chainB X (R.take (k + 1))) = (q && (decide (L < a) && decide (a < b) && decide (b ≤ 2147483647))) ∧ lastA X (R.take (k + 1)) = b := by
            rw [take_snocR R k hkl, chainB_snoc, lastA_snoc, hq, hL, ← hab, ← Bool.and_assoc BB]
            exact ⟨rfl, rfl⟩
          rw [← hab] at a0 a1
          rw [← hq, ← hL]
          clear hq hL hab hkl
          have hcs : (q = false ∧ Hid ((BB && chainB X (R.take (k + 1))) = false)) ∨ (q = true ∧ a ≤ L ∧ Hid ((BB && chainB X (R.take (k + 1))) = false)) ∨ (q = true ∧ L < a ∧ b ≤ a ∧ Hid ((BB && chainB X (R.take (k + 1))) = false)) ∨
              (q = true ∧ L < a ∧ a < b ∧ decide (b ≤ 2147483647) = false ∧ Hid ((BB && chainB X (R.take (k + 1))) = false)) ∨ (q = true ∧ L < a ∧ a < b ∧ decide (b ≤ 2147483647) = true ∧ Hid ((BB && chainB X (R.take (k + 1))) = true)) := by
            cases q
            · exact .inl ⟨rfl, hN.1⟩
            · by_cases h1 : L < a
              · by_cases h2 : a < b
                · by_cases h3 : b ≤ 2147483647
                  · exact .inr (.inr (.inr (.inr ⟨rfl, h1, h2, decide_eq_true h3, hN.1.trans (by simp [h1, h2, h3])⟩)))
                  · exact .inr (.inr (.inr (.inl ⟨rfl, h1, h2, decide_eq_false h3, hN.1.trans (by simp [h1, h2, h3])⟩)))
                · exact .inr (.inr (.inl ⟨rfl, h1, by omega, hN.1.trans (by simp [h1, h2])⟩))
              · exact .inr (.inl ⟨rfl, by omega, hN.1.trans (by simp [h1])⟩)
          have HL := hid hN.2
          clear hN
          rcases hcs with ⟨rfl, HV⟩ | ⟨rfl, h1, HV⟩ | ⟨rfl, h1, h2, HV⟩ | ⟨rfl, h1, h2, h3, HV⟩ | ⟨rfl, h1, h2, h3, HV⟩
          all_goals
            go_wp2_with fail
            go_roundw
            case rel => exact ⟨k + 1, by omega, by go_num, by rw [HV.out], by rw [HL.out], HFr.out.alloc _⟩
            case measure => simp [intOf] <;> omega
        · obtain rfl : k = rn := by omega
          have hT : R.take k = R := List.take_of_length_le (by rw [HR.out.1]; exact Nat.le_refl _)
          rw [hT] at hq
          have HQ := hid hq
          rw [hT, ← hq]
          clear hT hq hL hlt
          go_wp2_with fail
          go_ret
          refine ⟨?_, HFr.out⟩
          rw [HB.out, ← HBB.out, ← HQ.out]
          rfl
end Go.Proofs.Ytamkfjbdcjkchaa

/- The contract of the document's Bytes. -/
import Derived.Test.YtkhglmmidgfliaaDocLs
import Derived.Test.YtkhglmmidgfliaaBytes
namespace Go.Proofs.Ytkhglmmidgfliaa
open Go.RowKit Go.Proofs.HK
set_option linter.unusedVariables false
set_option linter.unusedSimpArgs false
attribute [local go_sem] max2_int min2_int max_two min_two

theorem cells2' {w : World} {ad : Addr} {l : List Value} {i : Nat} {a b : Value} (h : Cells w (some ad) l) (h1 : l[i * 2]? = some a) (h2 : l[i * 2 + 1]? = some b) :
    w.cell? (ad.add (i * 2)) = some a ∧ w.cell? ⟨(ad.add (i * 2)).block, (ad.add (i * 2)).off + 1, none⟩ = some b := by
  obtain ⟨ad', e, hc⟩ := h (by have := (List.getElem?_eq_some_iff.1 h1).1; omega)
  injection e with e
  subst e
  exact ⟨hc _ _ h1, cellAt (j := 0) (hc _ _ h2)⟩
theorem NewL.cells {w : World} {lo : Nat} {its : List (Nat × List (Nat × Nat))} {A : Option Addr} {k c : Nat} {ob : Option Nat} {xs : List LN} (h : NewL w lo its A k c ob xs) : Cells w A (lnsC xs) := by
  obtain ⟨A', c', e, _, hc, _⟩ := h.1.cells
  injection e with e1 _ _
  subst e1
  exact hc
theorem NewL.xlen {w : World} {lo : Nat} {its : List (Nat × List (Nat × Nat))} {A : Option Addr} {k c : Nat} {ob : Option Nat} {xs : List LN} (h : NewL w lo its A k c ob xs) : xs.length = k := by
  have := h.1.1; rw [lnsC_length] at this; omega
theorem lines_at {w : World} {A : Option Addr} {xs : List LN} (h : Cells w A (lnsC xs)) (i : Nat) (hi : i < xs.length) :
    ∃ ad, A = some ad ∧ w.cell? (ad.add (i * 2)) = some (.int .i64 xs[i].p) ∧ w.cell? ⟨(ad.add (i * 2)).block, (ad.add (i * 2)).off + 1, none⟩ = some (.slice xs[i].A xs[i].s.length xs[i].c) := by
  obtain ⟨ad, rfl, hc⟩ := h (by rw [lnsC_length]; omega)
  have h1 := lnsC_get xs i 0 hi (by omega)
  have h2 := lnsC_get xs i 1 hi (by omega)
  exact ⟨ad, rfl, cells2' h h1 h2⟩
set_option maxRecDepth 100000 in
set_option maxHeartbeats 3200000 in
theorem refBytes_calls (W H C D : Int) (L : Bool) (S : Int) (w : World) : Calls Try.prog 24 #[headV W H C D L, .int .i64 S] w fun e w' => e = .returned (.int .i64 (bytesS W H D L S)) ∧ Fr No w w' := by
  by_cases h1 : S < 1
  · have HB := hid (show bytesS W H D L S = 0 from if_pos (.inl h1))
    unfold headV
    go_enter Try.func24, Try.ntmps24
    go_wp2_with fail
    go_ret
    rw [HB.out]
    exact ⟨rfl, (Fr.refl No w).alloc _⟩
  by_cases h2 : S > 4
  · have HB := hid (show bytesS W H D L S = 0 from if_pos (.inr (.inl h2)))
    unfold headV
    go_enter Try.func24, Try.ntmps24
    go_wp2_with fail
    go_ret
    rw [HB.out]
    exact ⟨rfl, (Fr.refl No w).alloc _⟩
  by_cases h3 : D < 1
  · have HB := hid (show bytesS W H D L S = 0 from if_pos (.inr (.inr (.inl h3))))
    unfold headV
    go_enter Try.func24, Try.ntmps24
    go_wp2_with fail
    go_ret
    rw [HB.out]
    exact ⟨rfl, (Fr.refl No w).alloc _⟩
  by_cases h4 : D > 16
  · have HB := hid (show bytesS W H D L S = 0 from if_pos (.inr (.inr (.inr h4))))
    unfold headV
    go_enter Try.func24, Try.ntmps24
    go_wp2_with fail
    go_ret
    rw [HB.out]
    exact ⟨rfl, (Fr.refl No w).alloc _⟩
  obtain ⟨s, rfl⟩ : ∃ s : Nat, S = s := ⟨S.toNat, by omega⟩
  obtain ⟨d, rfl⟩ : ∃ d : Nat, D = d := ⟨D.toNat, by omega⟩
  have HB := hid (show bytesS W H d L s = sumB s d (itsOf W H L) by unfold bytesS; rw [if_neg (by omega)]; rfl)
  unfold headV
  go_enter Try.func24, Try.ntmps24
  go_wp2_with fail
  refine (refLines_calls W H L _).mono ?_
  rintro e w2 ⟨A, N, c, ob, xs, rfl, hN, hf2⟩
  obtain ⟨g, hg⟩ : ∃ g, g = w.heap.size := ⟨_, rfl⟩
  obtain ⟨w1, hw1⟩ : ∃ w1, w1 = w.alloc (.cells #[.int .i64 W, .int .i64 H, .int .i64 C, .int .i64 d, .bool L] 33) := ⟨_, rfl⟩
  rw [← hw1] at hf2 hN
  rw [← hg]
  have hb1 : w1.heap[g]? = some (.cells #[.int .i64 W, .int .i64 H, .int .i64 C, .int .i64 d, .bool L] 33 (0, 0)) := by rw [hw1, hg]; exact heap_new _ _
  have hb2 := (hf2.block g (Array.getElem?_eq_some_iff.1 hb1).1 (fun h => h)).trans hb1
  have hf1 : Fr No w w1 := by rw [hw1]; exact (Fr.refl _ _).alloc _
  obtain ⟨its, hits⟩ : ∃ its, its = itsOf W H L := ⟨_, rfl⟩
  have hlen : ∀ it ∈ its, it.2.length ≤ 4096 := fun it hit => by rw [hits] at hit; exact itemsF_len _ (psOf_ok W H L).1 0 it hit
  have hNle : its.length ≤ 409600 := by rw [hits]; exact itsOf_le _ _ _
  rw [← hits] at hN HB
  have hl1 := hN.len
  have hNN : N ≤ 409600 := by omega
  have HN := hid (And.intro hN (And.intro hb2 (And.intro (hf1.then hf2) (And.intro hlen hl1))))
  clear hg hw1 hb1 hb2 hf1 hf2 hits hlen hN hl1
  go_wp2_with fail
  go_loopw [5, 32] (fun v i wr => ∃ (q K1 : Nat), i = .int .i64 q ∧ v = .int .i64 K1 ∧ Hid (q ≤ N ∧ K1 = sumB s d (its.take q) ∧ Fr No w2 wr)) (fun _ i _ => N - (intOf i).toNat)
  case atStart => exact ⟨0, 0, rfl, rfl, by omega, by simp [sumB], Fr.refl _ _⟩
  case round =>
    obtain ⟨q, K1, rfl, rfl, HR⟩ := hrel
    by_cases hlt : q < N
    · have hlt' : (q : Int) < (N : Int) := by omega
      have hxl : q < xs.length := by rw [HN.out.1.xlen]; exact hlt
      have hcc := HN.out.1.cells.fr HR.out.2.2 (fun _ _ h => h)
      obtain ⟨ad, rfl, q0, q1⟩ := lines_at hcc q hxl
      obtain ⟨x, hx⟩ : ∃ x, x = xs[q] := ⟨_, rfl⟩
      have hit : its[q]? = some x.it := by rw [← HN.out.1.2.1, hx]; simp [hxl]
      have hst := sumB_take (S := s) (D := d) hit
      have hn4 := HN.out.2.2.2.1 x.it (List.mem_of_getElem? hit)
      have hK1 := sumB_le (S := s) (D := d) (by omega) (by omega) (its.take q) (fun y hy => HN.out.2.2.2.1 y (List.mem_of_mem_take hy))
      rw [List.length_take] at hK1
      rw [← hx] at q0 q1
      obtain ⟨n, hn⟩ : ∃ n, n = x.s.length := ⟨_, rfl⟩
      rw [← hn] at q1
      rw [show x.it.2.length = n from hn.symm] at hst hn4
      obtain ⟨b1, b2, b3⟩ := rowB_le (S := s) (D := d) (n := n) (by omega) (by omega) hn4
      obtain ⟨M, hM⟩ : ∃ M, M = n * s * d := ⟨_, rfl⟩
      obtain ⟨M1, hM1⟩ : ∃ M1, M1 = n * s := ⟨_, rfl⟩
      have e1 : (n : Int) * (s : Int) = (M1 : Int) := by rw [hM1]; simp
      have e2 : (M1 : Int) * (d : Int) = (M : Int) := by rw [hM1, hM]; simp
      rw [← HR.out.2.1] at hK1 hst
      have HST := hid (show sumB s d (its.take (q + 1)) = K1 + (1 + (M + 7) / 8) by rw [hst, hM]; rfl)
      rw [← hM] at b1
      rw [← hM1] at b2
      have hK2 : K1 ≤ 13422182400 := by
        have : its.length ≤ 409600 := hNle
        omega
      have hcell := (HR.out.2.2.block g (Array.getElem?_eq_some_iff.1 HN.out.2.1).1 (fun h => h)).trans HN.out.2.1
      have d0 : wr.cell? ⟨g, 3, none⟩ = some (.int .i64 d) := by simp [World.cell?, hcell]
      have hgs : g < wr.heap.size := (Array.getElem?_eq_some_iff.1 hcell).1
      clear hst hit hM hM1 b3 hK1 hx hn hcell hcc
      go_wp2_with fail
      go_roundw
      case rel => exact ⟨q + 1, K1 + (1 + (M + 7) / 8), by go_num, by go_num, by omega, HST.out.symm, HR.out.2.2.alloc _⟩
      case measure => simp [intOf] <;> omega
    · have hge : ¬ ((q : Int) < (N : Int)) := by omega
      have hq : q = N := by have := HR.out.1; omega
      have hK : K1 = sumB s d its := by
        rw [HR.out.2.1, hq, List.take_of_length_le (by rw [HN.out.2.2.2.2]; exact Nat.le_refl _)]
      have HK := hid hK
      clear hq hK hlt
      go_wp2_with fail
      go_ret
      rw [HB.out, ← HK.out]
      exact ⟨rfl, HN.out.2.2.1.then HR.out.2.2⟩
end Go.Proofs.Ytkhglmmidgfliaa

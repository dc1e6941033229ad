/- The walk of ScreenCuts. -/
import Derived.Test.YtamkfjbdcjkchaaDoorScLaw1
namespace Go.Proofs.YtamkfjbdcjkchaaDoor
open Go.RowKit Go.Proofs.HK
set_option linter.unusedVariables false
set_option linter.unusedSimpArgs false
attribute [local go_sem] max2_int min2_int max_two min_two
set_option maxRecDepth 100000 in
set_option maxHeartbeats 3200000 in
theorem screenCuts_walk (v : Value) (x : ScrT) (at_ : Int) (w : World) {base : Nat} (hok : Value.okWide Tryd.prog w .any base 26 v) (hx : scrD.K w x v.cells.toList) (hat : 0 ≤ at_ ∧ at_ ≤ 65535) (hw : TabW w) :
    Calls Tryd.prog 6 #[v, .int .u16 at_] w fun e w' => e = .returned (.bool true) ∧ Fr No w w' := by
  obtain ⟨sW, sH, T, L, C, I, K, tA, tn, tc, rfl, t1, t2, t3, hWb, hHb⟩ := scrD_val hok hx
  clear hok hx
  obtain ⟨S, hS⟩ : ∃ S : ScrS, S = ⟨sW, sH, T, L, C, I, K⟩ := ⟨_, rfl⟩
  have wcl : ∀ W, Fr No w W → Calls Tryd.prog 12 #[.agg #[.int .i64 sW, .int .i64 sH, .slice tA tn tc, .bool L, .int .i64 C, .bool I, .int .i64 K]] W fun e w' => ∃ v, e = .returned (.tuple #[v, .int .i64 (wrE S)]) ∧ New B W w' v (wrB S) := fun W h => by
    rw [hS]; exact scwrite_calls sW sH T tA tn tc L C I K W t1 (t2.fr h (fun _ _ h => h)) t3 (hw.fr h) hWb hHb
  have HW := hid wcl
  have HT := hid hw
  have HN := hid (And.intro t1 t2)
  obtain ⟨g, hgg⟩ : ∃ g, g = w.heap.size := ⟨_, rfl⟩
  obtain ⟨w1, hw1⟩ : ∃ W, W = w.alloc (.cells #[.int .i64 sW, .int .i64 sH, .slice tA tn tc, .bool L, .int .i64 C, .bool I, .int .i64 K] 26) := ⟨_, rfl⟩
  have hb1 : w1.heap[g]? = some (.cells #[.int .i64 sW, .int .i64 sH, .slice tA tn tc, .bool L, .int .i64 C, .bool I, .int .i64 K] 26 (0, 0)) := by rw [hw1, hgg]; exact heap_new _ _
  have hf1 : Fr No w w1 := by rw [hw1]; exact (Fr.refl No w).alloc _
  have HB := hid (And.intro hb1 (And.intro hf1 (And.intro hgg hw1)))
  have hX : ∀ W, Fr No w1 W → W.heap[g]? = some (.cells #[.int .i64 sW, .int .i64 sH, .slice tA tn tc, .bool L, .int .i64 C, .bool I, .int .i64 K] 26 (0, 0)) := fun W h => (h.block g (Array.getElem?_eq_some_iff.1 hb1).1 (fun h => h)).trans hb1
  have HX := hid hX
  clear wcl hw t1 t2 hgg hw1 hb1 hf1 hX
  by_cases hm : wrE S = 0
  · have hlen := wr_len hm
    have hTS : S.T.length = 3 * (S.T.length / 3) := by rw [hS]; show T.length = 3 * (T.length / 3); rw [HN.out.1]; omega
    have HE := hid (And.intro hm (scr_cut S hTS hm))
    obtain ⟨b, hb⟩ : ∃ b, b = wrB S := ⟨_, rfl⟩
    rw [← hb] at hlen
    have HBB := hid hb
    obtain ⟨nb, hnb⟩ : ∃ nb, nb = b.length := ⟨_, rfl⟩
    rw [← hnb] at hlen
    obtain ⟨k, hk⟩ : ∃ k : Nat, k = at_.toNat % nb := ⟨_, rfl⟩
    have hkl : k < nb := by rw [hk]; exact Nat.mod_lt _ (by omega)
    have hrm : at_ % (nb : Int) = (k : Int) := by
      obtain ⟨a, rfl⟩ := Int.eq_ofNat_of_zero_le hat.1
      rw [hk, Int.toNat_natCast]
      exact (Int.natCast_emod a nb).symm
    have HRM := hid hrm
    have hb1 : 0 ≤ at_ % (nb : Int) := by omega
    have hb2 : at_ % (nb : Int) ≤ (nb : Int) := by omega
    clear hrm
    have rcl : ∀ W A c, Rd B W A (b.take k) → k ≤ c → Calls Tryd.prog 8 #[.slice A k c] W fun e w' => ∃ tA' tn' tc', e = .returned (.tuple #[.agg #[.int .i64 0, .int .i64 0, .slice tA' tn' tc', .bool false, .int .i64 0, .bool false, .int .i64 0], .int .i64 0, .int .i64 2]) ∧ Fr No W w' := fun W A c h2 h3 => by
      refine (scread_calls A (b.take k) k c W (by rw [List.length_take, ← hnb]; omega) h2 h3 (by omega)).mono ?_
      rw [HBB.out, HE.out.2 k (by rw [← HBB.out, ← hnb]; exact hkl)]
      rintro e w' ⟨tA', tn', tc', e1, htab, e2⟩
      exact ⟨tA', tn', tc', e1, e2⟩
    have HRC := hid rcl
    have HNB := hid hnb
    have hnz : ((nb : Int) == 0) = false := by simp; omega
    clear hm hS hb rcl hTS hnb hk
    go_enter Tryd.func6, Tryd.ntmps6
    go_wp2_with fail
    rw [← HB.out.2.2.2, ← HB.out.2.2.1]
    refine (fixed17_calls _ (HT.out.fr HB.out.2.1)).mono ?_
    rintro e w2 ⟨rfl, hf2⟩
    have H2 := hid hf2
    obtain ⟨m0, m1, m2, m3, m4, m5, m6, mf⟩ := blk7 (HX.out w2 hf2)
    clear hf2
    go_wp2_with fail
    refine (HW.out w2 (HB.out.2.1.then H2.out)).mono ?_
    rw [HE.out.1, ← HBB.out]
    rintro e w3 ⟨v3, rfl, hn3⟩
    obtain ⟨A3, n3, c3, rfl, N3⟩ := hn3.use
    obtain rfl : n3 = nb := by rw [← N3.out.1, HNB.out]
    clear hn3 m0 m1 m2 m3 m4 m5 m6 mf
    obtain ⟨ad3, rfl, _⟩ := N3.out.2.1 (by rw [N3.out.1]; omega)
    have hc3 := N3.out.2.2.1
    go_wp2_with fail
    rw [HRM.out, Int.toNat_natCast]
    refine (HRC.out w3 (some ad3) c3 ((N3.out.2.1.take k)) (by omega)).mono ?_
    rintro e w4 ⟨tA4, tn4, tc4, rfl, hf4⟩
    have H4 := hid hf4
    clear hf4
    go_wp2_with fail
    go_ret
    exact ⟨rfl, (((HB.out.2.1.then H2.out).then N3.out.2.2.2.1).then H4.out).alloc _⟩
  · have HE := hid (And.intro (show (wrE S != 0) = true by simpa using hm) (wrB_no hm))
    clear hm hS
    obtain ⟨er, her⟩ : ∃ e, e = wrE S := ⟨_, rfl⟩
    rw [← her] at HE
    have HER := hid her
    have hne : (er != 0) = true := HE.out.1
    clear her
    go_enter Tryd.func6, Tryd.ntmps6
    go_wp2_with fail
    rw [← HB.out.2.2.2, ← HB.out.2.2.1]
    refine (fixed17_calls _ (HT.out.fr HB.out.2.1)).mono ?_
    rintro e w2 ⟨rfl, hf2⟩
    have H2 := hid hf2
    obtain ⟨m0, m1, m2, m3, m4, m5, m6, mf⟩ := blk7 (HX.out w2 hf2)
    clear hf2
    go_wp2_with fail
    refine (HW.out w2 (HB.out.2.1.then H2.out)).mono ?_
    rw [← HER.out, HE.out.2]
    rintro e w3 ⟨v3, rfl, hn3⟩
    obtain ⟨A3, n3, c3, rfl, N3⟩ := hn3.use
    obtain rfl : n3 = 0 := N3.out.1.symm
    clear hn3 m0 m1 m2 m3 m4 m5 m6 mf
    go_wp2_with fail
    go_ret
    exact ⟨rfl, (HB.out.2.1.then H2.out).then N3.out.2.2.2.1⟩
end Go.Proofs.YtamkfjbdcjkchaaDoor

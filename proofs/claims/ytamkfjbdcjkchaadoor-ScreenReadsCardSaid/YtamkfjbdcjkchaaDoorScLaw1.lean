/- The walk of ScreenBack. -/
import Derived.Test.YtamkfjbdcjkchaaDoorSFix
import Derived.Test.YtamkfjbdcjkchaaDoorSBackP
import Derived.Test.YtamkfjbdcjkchaaDoorDecS
namespace Go.Proofs.YtamkfjbdcjkchaaDoor
open Go.RowKit Go.Proofs.HK
set_option linter.unusedVariables false
set_option linter.unusedSimpArgs false
attribute [local go_sem] max2_int min2_int max_two min_two
theorem wr_len {s : ScrS} (h : wrE s = 0) : (wrB s).length ≤ 2000 ∧ 14 ≤ (wrB s).length := by
  obtain ⟨_, hp, _⟩ := wrE_facts h
  have hT := p2_le hp
  have h1 : (clearB s).length ≤ 8 := by unfold clearB; split <;> simp
  have h2 : (if s.L then [] else s.T).length ≤ 770 := by split <;> first | (simp; done) | omega
  have h3 : (if s.L then s.T else []).length ≤ 770 := by split <;> first | (simp; done) | omega
  unfold wrB
  rw [if_pos h]
  unfold wrP sidesB
  simp only [List.flatten_cons, List.flatten_nil, List.length_append, List.length_cons, List.length_nil, putLE_length, magic]
  omega
theorem wrB_no {s : ScrS} (h : wrE s ≠ 0) : wrB s = [] := by unfold wrB; rw [if_neg h]
set_option maxRecDepth 100000 in
set_option maxHeartbeats 3200000 in
theorem screenBack_walk (v : Value) (x : ScrT) (A : Option Addr) (xs : List UInt8) (n c : Nat) (w : World) {base : Nat} (hok : Value.okWide Tryd.prog w .any base 26 v) (hx : scrD.K w x v.cells.toList) (s1 : SlIn B 1 w A xs n c) (hw : TabW w) :
    Calls Tryd.prog 5 #[v, .slice A n c] w fun e w' => e = .returned (.bool true) ∧ Fr No w w' := by
  obtain ⟨sW, sH, T, L, C, I, K, tA, tn, tc, rfl, t1, t2, t3, hWb, hHb⟩ := scrD_val hok hx
  clear hok hx
  obtain ⟨S, hS⟩ : ∃ S : ScrS, S = ⟨sW, sH, T, L, C, I, K⟩ := ⟨_, rfl⟩
  have wcl : ∀ W, Fr No w W → Calls Tryd.prog 12 #[.agg #[.int .i64 sW, .int .i64 sH, .slice tA tn tc, .bool L, .int .i64 C, .bool I, .int .i64 K]] W fun e w' => ∃ v, e = .returned (.tuple #[v, .int .i64 (wrE S)]) ∧ New B W w' v (wrB S) := fun W h => by
    rw [hS]; exact scwrite_calls sW sH T tA tn tc L C I K W t1 (t2.fr h (fun _ _ h => h)) t3 (hw.fr h) hWb hHb
  have HW := hid wcl
  have HT := hid hw
  have HN := hid (And.intro t1 (And.intro t2 (And.intro s1.len (And.intro s1.rd s1.cap))))
  have hnr : n ≤ 140737488351232 := by have := s1.reach; omega
  obtain ⟨g, hgg⟩ : ∃ g, g = w.heap.size := ⟨_, rfl⟩
  obtain ⟨w1, hw1⟩ : ∃ W, W = w.alloc (.cells #[.int .i64 sW, .int .i64 sH, .slice tA tn tc, .bool L, .int .i64 C, .bool I, .int .i64 K] 26) := ⟨_, rfl⟩
  have hb1 : w1.heap[g]? = some (.cells #[.int .i64 sW, .int .i64 sH, .slice tA tn tc, .bool L, .int .i64 C, .bool I, .int .i64 K] 26 (0, 0)) := by rw [hw1, hgg]; exact heap_new _ _
  have hf1 : Fr No w w1 := by rw [hw1]; exact (Fr.refl No w).alloc _
  have HB := hid (And.intro hb1 (And.intro hf1 (And.intro hgg hw1)))
  have hX : ∀ W, Fr No w1 W → W.heap[g]? = some (.cells #[.int .i64 sW, .int .i64 sH, .slice tA tn tc, .bool L, .int .i64 C, .bool I, .int .i64 K] 26 (0, 0)) := fun W h => (h.block g (Array.getElem?_eq_some_iff.1 hb1).1 (fun h => h)).trans hb1
  have HX := hid hX
  clear wcl hw t1 t2 s1 hgg hw1 hb1 hf1 hX
  by_cases hm : wrE S = 0
  · have hlen := wr_len hm
    have hTS : S.T.length = 3 * (S.T.length / 3) := by rw [hS]; show T.length = 3 * (T.length / 3); rw [HN.out.1]; omega
    have HE := hid (And.intro hm (scr_back S hTS hm xs))
    obtain ⟨b, hb⟩ : ∃ b, b = wrB S := ⟨_, rfl⟩
    rw [← hb] at hlen
    have HBB := hid hb
    obtain ⟨nb, hnb⟩ : ∃ nb, nb = b.length := ⟨_, rfl⟩
    rw [← hnb] at hlen
    have rcl : ∀ W A m c, m = nb + n → Rd B W A (b ++ xs) → m ≤ c → Calls Tryd.prog 8 #[.slice A m c] W fun e w' => ∃ tA' tc', e = .returned (.tuple #[.agg #[.int .i64 sW, .int .i64 sH, .slice tA' tn tc', .bool L, .int .i64 C, .bool I, .int .i64 K], .int .i64 (nb : Int), .int .i64 0]) ∧ Cells w' tA' (T.map B) ∧ Fr No W w' := fun W A m c h1 h2 h3 => by
      refine (scread_calls A (b ++ xs) m c W (by rw [List.length_append, ← hnb, HN.out.2.2.1, h1]) h2 h3 (by omega)).mono ?_
      rw [HBB.out, HE.out.2, ← HBB.out, ← hnb, hS]
      rintro e w' ⟨tA', tn', tc', e1, htab, e2⟩
      have h4 : T.length = 3 * tn' := htab.1
      obtain rfl : tn' = tn := by have := HN.out.1; omega
      exact ⟨tA', tc', e1, htab.cells, e2⟩
    have HRC := hid rcl
    have HNB := hid hnb
    clear hm hS hb rcl hTS hnb
    go_enter Tryd.func5, Tryd.ntmps5
    go_wp2_with fail
    rw [← HB.out.2.2.2, ← HB.out.2.2.1]
    refine (fixed17_calls _ (HT.out.fr HB.out.2.1)).mono ?_
    rintro e w2 ⟨rfl, hf2⟩
    have H2 := hid hf2
    obtain ⟨m0, m1, m2, m3, m4, m5, m6, mf⟩ := blk7 (HX.out w2 hf2)
    clear hf2
    go_wp2_with fail
    refine (HW.out w2 (HB.out.2.1.then H2.out)).mono ?_
    rw [HE.out.1, ← HBB.out]
    rintro e w3 ⟨v3, rfl, hn3⟩
    obtain ⟨A3, n3, c3, rfl, N3⟩ := hn3.use
    obtain rfl : n3 = nb := by rw [← N3.out.1, HNB.out]
    clear hn3 m0 m1 m2 m3 m4 m5 m6 mf
    go_wp2_with (first
      | (at_builtin; refine wpList_app slU8 rfl (.tmp 23) (.tmp 24) rfl rfl (Row.new w3 1 0 [] _ rfl (by omega)) rfl (by rw [List.length_map, N3.out.1, Nat.mul_one]) ((Rd.cells.1 N3.out.2.1).fr (S := No) ((Fr.refl No w3).alloc _) (fun _ _ h => h)) (oneB _) (by omega) (by omega) ?_; intro A4 c4 w4 ob4 hv4 hf4 hob4; simp only [Nat.zero_add, List.nil_append] at hv4 ⊢; have hk4 := some_le (m := w3.heap.size) (hob4.imp id (fun ⟨k, a, b⟩ => ⟨k, a, by simp at b; omega⟩)) (Nat.le_refl _); have hF4 : Fr No w3 w4 := ((Fr.refl No w3).alloc _).fresh hf4 (fun k e => by injection e with e; omega); have hF34 : Fr No w w4 := ((HB.out.2.1.then H2.out).then N3.out.2.2.2.1).then hF4; have hs4 : w3.heap.size ≤ w4.heap.size := hF4.size; have H4 := hid (And.intro hv4 (And.intro hk4 (And.intro hF4 hF34))); clear hv4 hk4 hF4 hF34 hf4 hob4)
      | (at_builtin; refine wpList_app slU8 rfl (.tmp 25) (.tmp 26) rfl rfl H4.out.1 rfl (by rw [List.length_map, HN.out.2.2.1, Nat.mul_one]) ((Rd.cells.1 HN.out.2.2.2.1).fr (S := No) H4.out.2.2.2 (fun _ _ h => h)) (oneB _) (by omega) (by omega) ?_; intro A5 c5 w5 ob5 hv5 hf5 hob5; rw [← List.map_append] at hv5; have hF5 : Fr No w3 w5 := H4.out.2.2.1.fresh hf5 H4.out.2.1; have H5 := hid (And.intro hv5 hF5); clear hv5 hf5 hob5 hF5))
    refine (HRC.out w5 A5 (n3 + n) c5 rfl H5.out.1.rd.1 H5.out.1.rd.2.1).mono ?_
    rintro e w6 ⟨tA6, tc6, rfl, ht6, hf6⟩
    have hfa : ∀ ob, Fr No w1 (w6.alloc ob) := fun ob => (((H2.out.then N3.out.2.2.2.1).then H5.out.2).then hf6).alloc ob
    have hX2 : ∀ ob, (w6.alloc ob).heap[g]? = some (.cells #[.int .i64 sW, .int .i64 sH, .slice tA tn tc, .bool L, .int .i64 C, .bool I, .int .i64 K] 26 (0, 0)) := fun ob => HX.out _ (hfa ob)
    have m0 := fun ob => (blk7 (hX2 ob)).1
    have m1 := fun ob => (blk7 (hX2 ob)).2.1
    have m2 := fun ob => (blk7 (hX2 ob)).2.2.1
    have m3 := fun ob => (blk7 (hX2 ob)).2.2.2.1
    have m4 := fun ob => (blk7 (hX2 ob)).2.2.2.2.1
    have m5 := fun ob => (blk7 (hX2 ob)).2.2.2.2.2.1
    have m6 := fun ob => (blk7 (hX2 ob)).2.2.2.2.2.2.1
    have HFA := hid hfa
    have H6 := hid (And.intro ht6 hf6)
    clear ht6 hf6 hfa hX2
    go_wp2_with fail
    have hF4 : ∀ ob, Fr No w (w6.alloc ob) := fun ob => HB.out.2.1.then (HFA.out ob)
    refine (same17_calls sW sH T L C I K tA tA6 tn tc tc6 _ HN.out.1 (HN.out.2.1.fr (hF4 _) (fun _ _ h => h)) (H6.out.1.fr ((Fr.refl No w6).alloc _) (fun _ _ h => h)) t3).mono ?_
    rintro e w7 ⟨rfl, hf7⟩
    have H7 := hid hf7
    clear hf7 m0 m1 m2 m3 m4 m5 m6 hF4
    go_wp2_with fail
    go_ret
    exact ⟨rfl, (HB.out.2.1.then (HFA.out _)).then H7.out⟩
  · have HE := hid (And.intro (show (wrE S != 0) = true by simpa using hm) (wrB_no hm))
    clear hm hS
    obtain ⟨er, her⟩ : ∃ e, e = wrE S := ⟨_, rfl⟩
    rw [← her] at HE
    have HER := hid her
    have hne : (er != 0) = true := HE.out.1
    clear her
    go_enter Tryd.func5, Tryd.ntmps5
    go_wp2_with fail
    rw [← HB.out.2.2.2, ← HB.out.2.2.1]
    refine (fixed17_calls _ (HT.out.fr HB.out.2.1)).mono ?_
    rintro e w2 ⟨rfl, hf2⟩
    have H2 := hid hf2
    obtain ⟨m0, m1, m2, m3, m4, m5, m6, mf⟩ := blk7 (HX.out w2 hf2)
    clear hf2
    go_wp2_with fail
    refine (HW.out w2 (HB.out.2.1.then H2.out)).mono ?_
    rw [← HER.out, HE.out.2]
    rintro e w3 ⟨v3, rfl, hn3⟩
    obtain ⟨A3, n3, c3, rfl, N3⟩ := hn3.use
    obtain rfl : n3 = 0 := N3.out.1.symm
    clear hn3 m0 m1 m2 m3 m4 m5 m6 mf
    go_wp2_with fail
    go_ret
    exact ⟨rfl, (HB.out.2.1.then H2.out).then N3.out.2.2.2.1⟩
end Go.Proofs.YtamkfjbdcjkchaaDoor

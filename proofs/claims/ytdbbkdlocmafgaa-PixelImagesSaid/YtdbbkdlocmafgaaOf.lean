/- The contract of pixel.Of. -/
import Derived.Test.YtdbbkdlocmafgaaColorT
import Derived.Deep.RegionHeld3
namespace Go.Proofs.Ytdbbkdlocmafgaa
open Go.RowKit Go.Proofs.HK
set_option linter.unusedVariables false
set_option linter.unusedSimpArgs false
attribute [local go_sem] max2_int min2_int max_two min_two

def ofE (r : RS) (s : List Int) : Int := if tabS r = 0 then lookS r s (samS r.C) else tabS r
def ofC (r : RS) (s : List Int) : Col := if ofE r s = 0 then colS r s else (0, 0, 0, 0)
theorem tab_facts {r : RS} (h : tabS r = 0) : mayS r.W r.H r.C r.D = true ∧ (r.C = 3 → (∀ v ∈ r.al, 0 ≤ v ∧ v ≤ 255) ∧ r.cl.length = 0) := by
  unfold tabS at h
  by_cases hm : mayS r.W r.H r.C r.D = true
  · rw [if_neg (by rw [hm]; simp)] at h
    refine ⟨hm, fun hc => ?_⟩
    rw [if_pos hc] at h
    by_cases h2 : 0 < r.ts.length ∧ (r.ts.length : Int) ≤ 2 ^ r.D.toNat ∧ r.al.length ≤ r.ts.length ∧ witB r.al 255 = true ∧ r.cl.length = 0
    · exact ⟨wit_iff.1 h2.2.2.2.1, h2.2.2.2.2⟩
    · rw [if_neg h2] at h; exact absurd h (by decide)
  · rw [if_pos (by cases hh : mayS r.W r.H r.C r.D <;> simp_all)] at h; exact absurd h (by decide)
theorem look_facts {r : RS} {s : List Int} {n : Int} (h : lookS r s n = 0) : (s.length : Int) = n ∧ (∀ v ∈ s, 0 ≤ v ∧ v ≤ 2 ^ r.D.toNat - 1) ∧ (r.C = 3 → ∀ v ∈ s, 0 ≤ v ∧ v ≤ (r.ts.length : Int) - 1) := by
  unfold lookS at h
  by_cases h1 : (s.length : Int) ≠ n ∨ witB s (2 ^ r.D.toNat - 1) = false
  · rw [if_pos h1] at h; exact absurd h (by decide)
  · rw [if_neg h1] at h
    refine ⟨Decidable.byContradiction fun e => h1 (.inl e), wit_iff.1 (by cases hw : witB s (2 ^ r.D.toNat - 1) with | true => rfl | false => exact absurd (.inr hw) h1), fun hc => ?_⟩
    by_cases h2 : r.C = 3 ∧ witB s ((r.ts.length : Int) - 1) = false
    · rw [if_pos h2] at h; exact absurd h (by decide)
    · exact wit_iff.1 (by cases hw : witB s ((r.ts.length : Int) - 1) with | true => rfl | false => exact absurd ⟨hc, hw⟩ h2)
/-- color, of samples that may be. -/
theorem color_calls (r : RS) (A : Option Addr) (xs : List Int) (m c : Nat) (w : World) (hr : r.ok w) (ht : tabS r = 0) (hk : lookS r xs (samS r.C) = 0) (hx : xs.length = m) (hxr : Rd II w A xs) :
    Calls Try.prog 31 #[r.v, .slice A m c] w fun e w' => e = .returned (colS r xs).v ∧ Fr No w w' := by
  obtain ⟨h1, h2⟩ := tab_facts ht
  obtain ⟨l1, l2, l3⟩ := look_facts hk
  obtain ⟨ys, rfl⟩ := nats_of l2
  rw [List.length_map] at hx l1
  by_cases hc : r.C = 3
  · rw [hc] at l1
    have e1 : ys.length = 1 := by have : samS 3 = 1 := rfl; omega
    obtain ⟨y, rfl⟩ : ∃ y, ys = [y] := by
      match ys, e1 with
      | [y], _ => exact ⟨y, rfl⟩
    obtain rfl : m = 1 := hx.symm.trans e1
    have := l3 hc (y : Int) (by simp)
    exact color_t r A y c w hr hc hxr (by omega) (h2 hc).1
  · refine color_n r A ys m c w hr h1 hx hxr (by rw [← hx]; exact l1) (fun y hy => ?_) hc
    have := (l2 (y : Int) (List.mem_map.2 ⟨y, hy, rfl⟩)).2
    have hp := Nat.one_le_two_pow (n := r.D.toNat)
    have e : ((2 : Int) ^ r.D.toNat) = ((2 ^ r.D.toNat : Nat) : Int) := by simp
    rw [e] at this
    omega
set_option maxRecDepth 100000 in
set_option maxHeartbeats 3200000 in
theorem of_calls (r : RS) (A : Option Addr) (xs : List Int) (m c : Nat) (w : World) (hr : r.ok w) (hx : xs.length = m) (hxr : Rd II w A xs) (hl : m ≤ 5000) :
    Calls Try.prog 15 #[r.v, .slice A m c] w fun e w' => e = .returned (.tuple #[(ofC r xs).v, .int .i64 (ofE r xs)]) ∧ Fr No w w' := by
  obtain ⟨W, H, C, D, L, tA, ts, tc, aA, al, ac, cA, cl, cc, sA, sa, sc⟩ := r
  obtain ⟨nt, hnt⟩ : ∃ n, n = ts.length := ⟨_, rfl⟩
  obtain ⟨na, hna⟩ : ∃ n, n = al.length := ⟨_, rfl⟩
  obtain ⟨nc, hnc⟩ : ∃ n, n = cl.length := ⟨_, rfl⟩
  obtain ⟨ns, hns⟩ : ∃ n, n = sa.length := ⟨_, rfl⟩
  obtain ⟨v, hv⟩ : ∃ v, v = (RS.mk W H C D L tA ts tc aA al ac cA cl cc sA sa sc).v := ⟨_, rfl⟩
  have hv2 : v = .agg #[.int .i64 W, .int .i64 H, .int .i64 C, .int .i64 D, .bool L, .slice tA nt tc, .slice aA na ac, .slice cA nc cc, .slice sA ns sc] := by rw [hv, hnt, hna, hnc, hns]; rfl
  obtain ⟨T, hT⟩ : ∃ T, T = tabS ⟨W, H, C, D, L, tA, ts, tc, aA, al, ac, cA, cl, cc, sA, sa, sc⟩ := ⟨_, rfl⟩
  obtain ⟨w2, hw2⟩ : ∃ w2, w2 = (w.alloc (.cells #[.int .i64 W, .int .i64 H, .int .i64 C, .int .i64 D, .bool L, .slice tA nt tc, .slice aA na ac, .slice cA nc cc, .slice sA ns sc] 34)).alloc (.cells #[.int .u16 0, .int .u16 0, .int .u16 0, .int .u16 0] 38) := ⟨_, rfl⟩
  obtain ⟨g, hg⟩ : ∃ g, g = w.heap.size := ⟨_, rfl⟩
  have hf2 : Fr No w w2 := by rw [hw2]; exact ((Fr.refl _ _).alloc _).alloc _
  have hb9 : w2.heap[g]? = some (.cells #[.int .i64 W, .int .i64 H, .int .i64 C, .int .i64 D, .bool L, .slice tA nt tc, .slice aA na ac, .slice cA nc cc, .slice sA ns sc] 34 (0, 0)) := by
    rw [hw2, ((Fr.refl No (w.alloc _)).alloc _).block g (by rw [World.size_alloc, hg]; omega) (fun h => h), hg]; exact heap_new _ _
  have hbR : w2.heap[g + 1]? = some (.cells #[.int .u16 0, .int .u16 0, .int .u16 0, .int .u16 0] 38 (0, 0)) := by
    have := heap_new (w.alloc (.cells #[.int .i64 W, .int .i64 H, .int .i64 C, .int .i64 D, .bool L, .slice tA nt tc, .slice aA na ac, .slice cA nc cc, .slice sA ns sc] 34)) (.cells #[.int .u16 0, .int .u16 0, .int .u16 0, .int .u16 0] 38)
    rw [World.size_alloc, ← hg] at this
    rw [hw2]; exact this
  have hcell : ∀ X, Fr No w2 X → X.heap[g]? = some (.cells #[.int .i64 W, .int .i64 H, .int .i64 C, .int .i64 D, .bool L, .slice tA nt tc, .slice aA na ac, .slice cA nc cc, .slice sA ns sc] 34 (0, 0)) ∧ X.heap[g + 1]? = some (.cells #[.int .u16 0, .int .u16 0, .int .u16 0, .int .u16 0] 38 (0, 0)) := fun X hf =>
    ⟨(hf.block g (Array.getElem?_eq_some_iff.1 hb9).1 (fun h => h)).trans hb9, (hf.block (g + 1) (Array.getElem?_eq_some_iff.1 hbR).1 (fun h => h)).trans hbR⟩
  have hgs : g + 1 < w2.heap.size := (Array.getElem?_eq_some_iff.1 hbR).1
  have hfin : ∀ (W' : World) (a b c d : Value), Fr No w W' → Fr No w ((((W'.setCell ⟨g + 1, 0, none⟩ a).setCell ⟨g + 1, 1, none⟩ b).setCell ⟨g + 1, 2, none⟩ c).setCell ⟨g + 1, 3, none⟩ d) := fun W' a b c d hf => by
    have hs : ∀ k, k < w.heap.size → HK.One (g + 1) k → No k := fun k hk e => by have e : k = g + 1 := e; omega
    exact (((hf.trans (Fr.set1 _ _ _ _) hs).trans (Fr.set1 _ _ _ _) hs).trans (Fr.set1 _ _ _ _) hs).trans (Fr.set1 _ _ _ _) hs
  have HC := hid hcell
  have HW := hid (And.intro hw2 (And.intro hg (And.intro hf2 (And.intro (hr.fr hf2) (And.intro hv2 (And.intro hfin (And.intro hx hxr)))))))
  have HV := hid hv
  have HT := hid hT
  rw [show (RS.mk W H C D L tA ts tc aA al ac cA cl cc sA sa sc).v = .agg #[.int .i64 W, .int .i64 H, .int .i64 C, .int .i64 D, .bool L, .slice tA nt tc, .slice aA na ac, .slice cA nc cc, .slice sA ns sc] from hv.symm.trans hv2]
  clear hw2 hg hf2 hb9 hbR hcell hr hnt hna hnc hns hfin hv hv2 hT hx hxr
  by_cases ht : T = 0
  · have HT0 := hid (HT.out.symm.trans ht)
    subst ht
    obtain ⟨K, hK⟩ : ∃ K, K = lookS ⟨W, H, C, D, L, tA, ts, tc, aA, al, ac, cA, cl, cc, sA, sa, sc⟩ xs (samS C) := ⟨_, rfl⟩
    have HK0 := hid (And.intro hK (show ofE ⟨W, H, C, D, L, tA, ts, tc, aA, al, ac, cA, cl, cc, sA, sa, sc⟩ xs = K by unfold ofE; rw [if_pos HT0.out, hK]))
    clear hK
    go_enter Try.func15, Try.ntmps15
    go_wp2_with fail
    rw [← HW.out.1, ← HW.out.2.1, ← HW.out.2.2.2.2.1, HV.out]
    refine (tables_calls _ _ HW.out.2.2.2.1).mono ?_
    rw [← HT.out]
    rintro e w3 ⟨rfl, hf3⟩
    have h3 := HC.out w3 hf3
    obtain ⟨q0, q1, q2, q3, q4, q5, q6, q7, q8⟩ := blk9 h3.1
    have hs3 : g < w3.heap.size := by have := hf3.size; omega
    clear h3
    go_wp2_with fail
    go_region_held3 (fun w' => w'.cell? ⟨g, 0, none⟩ = some (.int .i64 W) ∧ w'.cell? ⟨g, 1, none⟩ = some (.int .i64 H) ∧ w'.cell? ⟨g, 2, none⟩ = some (.int .i64 C) ∧ w'.cell? ⟨g, 3, none⟩ = some (.int .i64 D) ∧ w'.cell? ⟨g, 4, none⟩ = some (.bool L) ∧ w'.cell? ⟨g, 5, none⟩ = some (.slice tA nt tc) ∧ w'.cell? ⟨g, 6, none⟩ = some (.slice aA na ac) ∧ w'.cell? ⟨g, 7, none⟩ = some (.slice cA nc cc) ∧ w'.cell? ⟨g, 8, none⟩ = some (.slice sA ns sc))
      (first | go_keep | (refine ⟨(hf5.cellg g 0 (by have h2 := hf4.size; simp at h2; omega) (fun h => h)).trans ?_, (hf5.cellg g 1 (by have h2 := hf4.size; simp at h2; omega) (fun h => h)).trans ?_, (hf5.cellg g 2 (by have h2 := hf4.size; simp at h2; omega) (fun h => h)).trans ?_, (hf5.cellg g 3 (by have h2 := hf4.size; simp at h2; omega) (fun h => h)).trans ?_, (hf5.cellg g 4 (by have h2 := hf4.size; simp at h2; omega) (fun h => h)).trans ?_, (hf5.cellg g 5 (by have h2 := hf4.size; simp at h2; omega) (fun h => h)).trans ?_, (hf5.cellg g 6 (by have h2 := hf4.size; simp at h2; omega) (fun h => h)).trans ?_, (hf5.cellg g 7 (by have h2 := hf4.size; simp at h2; omega) (fun h => h)).trans ?_, (hf5.cellg g 8 (by have h2 := hf4.size; simp at h2; omega) (fun h => h)).trans ?_⟩ <;> go_keep) | (refine ⟨(hf4.cellg g 0 (by simp; omega) (fun h => h)).trans ?_, (hf4.cellg g 1 (by simp; omega) (fun h => h)).trans ?_, (hf4.cellg g 2 (by simp; omega) (fun h => h)).trans ?_, (hf4.cellg g 3 (by simp; omega) (fun h => h)).trans ?_, (hf4.cellg g 4 (by simp; omega) (fun h => h)).trans ?_, (hf4.cellg g 5 (by simp; omega) (fun h => h)).trans ?_, (hf4.cellg g 6 (by simp; omega) (fun h => h)).trans ?_, (hf4.cellg g 7 (by simp; omega) (fun h => h)).trans ?_, (hf4.cellg g 8 (by simp; omega) (fun h => h)).trans ?_⟩ <;> go_keep))
      (first
        | (go_at_call 30; refine (samples_calls C _).mono ?_; rintro e w4 ⟨rfl, hf4⟩)
        | (go_at_call 29; rw [← HW.out.2.2.2.2.1, HV.out]; refine (look_calls _ A xs m c (samS C) _ (HW.out.2.2.2.1.fr (hf3.drew.then hf4)) (tab_facts HT0.out).1 HW.out.2.2.2.2.2.2.1 (HW.out.2.2.2.2.2.2.2.fr0 (HW.out.2.2.1.then (hf3.drew.then hf4))) hl).mono ?_; rintro e w5 ⟨rfl, hf5⟩))
    rw [← HK0.out.1]
    have hF5 := (hf3.drew.then hf4).then hf5
    have h5 := HC.out w5 hF5
    obtain ⟨p0, p1, p2, p3, p4, p5, p6, p7, p8⟩ := blk9 h5.1
    obtain ⟨⟨z0, z1, z2, z3⟩, f0, f1, f2, f3⟩ := blk4c h5.2
    have HF5 := hid (And.intro h5.2 hF5)
    clear h5 hF5 hf3 hf4 hf5 q0 q1 q2 q3 q4 q5 q6 q7 q8
    rename_i hHeldX
    clear hHeldX
    by_cases hk : K = 0
    · have hkb : (K != 0) = false := by rw [hk]; rfl
      have HKZ := hid (And.intro (HK0.out.1.symm.trans hk) (show ofC ⟨W, H, C, D, L, tA, ts, tc, aA, al, ac, cA, cl, cc, sA, sa, sc⟩ xs = colS ⟨W, H, C, D, L, tA, ts, tc, aA, al, ac, cA, cl, cc, sA, sa, sc⟩ xs by unfold ofC; rw [HK0.out.2, if_pos hk]))
      have HKE := hid hk
      clear hk
      obtain ⟨x, hx⟩ : ∃ x, x = (colS ⟨W, H, C, D, L, tA, ts, tc, aA, al, ac, cA, cl, cc, sA, sa, sc⟩ xs).1 := ⟨_, rfl⟩
      obtain ⟨y, hy⟩ : ∃ x, x = (colS ⟨W, H, C, D, L, tA, ts, tc, aA, al, ac, cA, cl, cc, sA, sa, sc⟩ xs).2.1 := ⟨_, rfl⟩
      obtain ⟨z, hz⟩ : ∃ x, x = (colS ⟨W, H, C, D, L, tA, ts, tc, aA, al, ac, cA, cl, cc, sA, sa, sc⟩ xs).2.2.1 := ⟨_, rfl⟩
      obtain ⟨u, hu⟩ : ∃ x, x = (colS ⟨W, H, C, D, L, tA, ts, tc, aA, al, ac, cA, cl, cc, sA, sa, sc⟩ xs).2.2.2 := ⟨_, rfl⟩
      have HXY := hid (show (colS ⟨W, H, C, D, L, tA, ts, tc, aA, al, ac, cA, cl, cc, sA, sa, sc⟩ xs).v = .agg #[.int .u16 x, .int .u16 y, .int .u16 z, .int .u16 u] by rw [hx, hy, hz, hu]; rfl)
      clear hx hy hz hu
      go_wp2_with fail
      rw [← HW.out.2.2.2.2.1, HV.out]
      refine (color_calls _ A xs m c _ (HW.out.2.2.2.1.fr HF5.out.2) HT0.out HKZ.out.1 HW.out.2.2.2.2.2.2.1 (HW.out.2.2.2.2.2.2.2.fr0 (HW.out.2.2.1.then HF5.out.2))).mono ?_
      rw [HXY.out]
      rintro e w6 ⟨rfl, hf6⟩
      have h6 := HC.out w6 (HF5.out.2.then hf6)
      clear p0 p1 p2 p3 p4 p5 p6 p7 p8 z0 z1 z2 z3 f0 f1 f2 f3
      obtain ⟨⟨z0, z1, z2, z3⟩, f0, f1, f2, f3⟩ := blk4c h6.2
      have H6 := hid h6.2
      clear h6
      go_wp2_with fail
      refine ret_col2 rfl (g := g + 1) (x := x) (y := y) (z := z) (u := u) (er := .int .i64 0) (col_cells H6.out) rfl rfl rfl ?_
      exact ⟨by rw [HKZ.out.2, HXY.out, HK0.out.2, HKE.out]; rfl, HW.out.2.2.2.2.2.1 _ _ _ _ _ (HW.out.2.2.1.then (HF5.out.2.then hf6))⟩
    · have hkb : (K != 0) = true := by rw [bne_iff_ne]; exact hk
      have HKZ := hid (show ofC ⟨W, H, C, D, L, tA, ts, tc, aA, al, ac, cA, cl, cc, sA, sa, sc⟩ xs = (0, 0, 0, 0) by unfold ofC; rw [HK0.out.2, if_neg hk])
      clear hk
      go_wp2_with fail
      refine ret_col2 rfl (g := g + 1) (x := 0) (y := 0) (z := 0) (u := 0) (er := .int .i64 K) (col_cells HF5.out.1) rfl rfl rfl ?_
      exact ⟨by rw [HKZ.out, HK0.out.2]; rfl, HW.out.2.2.2.2.2.1 _ _ _ _ _ (HW.out.2.2.1.then HF5.out.2)⟩
  · have htb : (T == 0) = false := by rw [beq_eq_false_iff_ne]; exact ht
    have htn : (T != 0) = true := by rw [bne_iff_ne]; exact ht
    have HE := hid (show ofE ⟨W, H, C, D, L, tA, ts, tc, aA, al, ac, cA, cl, cc, sA, sa, sc⟩ xs = T ∧ ofC ⟨W, H, C, D, L, tA, ts, tc, aA, al, ac, cA, cl, cc, sA, sa, sc⟩ xs = (0, 0, 0, 0) by
      have e : ofE ⟨W, H, C, D, L, tA, ts, tc, aA, al, ac, cA, cl, cc, sA, sa, sc⟩ xs = T := by unfold ofE; rw [← HT.out, if_neg ht]
      exact ⟨e, by unfold ofC; rw [e, if_neg ht]⟩)
    clear ht
    go_enter Try.func15, Try.ntmps15
    go_wp2_with fail
    rw [← HW.out.1, ← HW.out.2.1, ← HW.out.2.2.2.2.1, HV.out]
    refine (tables_calls _ _ HW.out.2.2.2.1).mono ?_
    rw [← HT.out]
    rintro e w3 ⟨rfl, hf3⟩
    obtain ⟨⟨z0, z1, z2, z3⟩, f0, f1, f2, f3⟩ := blk4c (HC.out w3 hf3).2
    go_wp2_with fail
    refine ret_col2 rfl (g := g + 1) (x := 0) (y := 0) (z := 0) (u := 0) (er := .int .i64 T) (col_cells (HC.out w3 hf3).2) rfl rfl rfl ?_
    exact ⟨by rw [HE.out.1, HE.out.2]; rfl, HW.out.2.2.2.2.2.1 _ _ _ _ _ (HW.out.2.2.1.then hf3)⟩
end Go.Proofs.Ytdbbkdlocmafgaa

/- The contract of pixel's color, of a table. -/
import Derived.Test.YtdbbkdlocmafgaaColor4
import Derived.BigRegion
import Derived.Deep.QuietTactic
import Derived.BigQuiet
namespace Go.Proofs.Ytdbbkdlocmafgaa
open Go.RowKit Go.Proofs.HK
set_option linter.unusedVariables false
set_option linter.unusedSimpArgs false
attribute [local go_sem] max2_int min2_int max_two min_two

theorem tinsC_get (l : List Tin) (i j : Nat) (hi : i < l.length) (hj : j < 3) : (tinsC l)[i * 3 + j]? = (tinC l[i])[j]? := by
  induction l generalizing i with
  | nil => simp at hi
  | cons p ps ih =>
    unfold tinsC at *
    rw [List.flatMap_cons]
    cases i with
    | zero => rw [List.getElem?_append_left (by simp [tinC]; omega)]; simp
    | succ i =>
      rw [List.getElem?_append_right (by simp [tinC]; omega)]
      have := ih i (by simpa using hi)
      rw [show (i + 1) * 3 + j - (tinC p).length = i * 3 + j by simp [tinC]; omega, this]
      simp
theorem tinsC_length (l : List Tin) : (tinsC l).length = l.length * 3 := by
  induction l with
  | nil => rfl
  | cons p ps ih => unfold tinsC at *; rw [List.flatMap_cons, List.length_append, ih, List.length_cons]; simp [tinC]; omega
theorem tins_at {w : World} {A : Option Addr} {l : List Tin} (h : Cells w A (tinsC l)) (i : Nat) (hi : i < l.length) :
    ∃ ad, A = some ad ∧ w.cell? (ad.add (i * 3)) = some (B l[i].1) ∧ w.cell? ⟨(ad.add (i * 3)).block, (ad.add (i * 3)).off + 1, none⟩ = some (B l[i].2.1) ∧ w.cell? ⟨(ad.add (i * 3)).block, (ad.add (i * 3)).off + 2, none⟩ = some (B l[i].2.2) := by
  obtain ⟨ad, rfl, hc⟩ := h (by rw [tinsC_length]; omega)
  have g : ∀ j v, (tinC l[i])[j]? = some v → j < 3 → w.cell? (ad.add (i * 3 + j)) = some v := fun j v hv hj => hc _ _ (by rw [tinsC_get l i j hi hj]; exact hv)
  exact ⟨ad, rfl, g 0 _ rfl (by omega), cellAt (g 1 _ rfl (by omega)), cellAt (g 2 _ rfl (by omega))⟩
set_option maxRecDepth 100000 in
set_option maxHeartbeats 3200000 in
theorem color_t (r : RS) (A : Option Addr) (y c : Nat) (w : World) (hr : r.ok w) (hc : r.C = 3) (hxr : Rd II w A [(y : Int)]) (hy : y < r.ts.length) (ha : ∀ v ∈ r.al, 0 ≤ v ∧ v ≤ 255) :
    Calls Try.prog 31 #[r.v, .slice A 1 c] w fun e w' => e = .returned (colS r [(y : Int)]).v ∧ Fr No w w' := by
  obtain ⟨W, H, C, D, L, tA, ts, tc, aA, al, ac, cA, cl, cc, sA, sa, sc⟩ := r
  replace hc : C = 3 := hc
  subst hc
  replace hy : y < ts.length := hy
  replace ha : ∀ v ∈ al, 0 ≤ v ∧ v ≤ 255 := ha
  obtain ⟨nt, hnt⟩ : ∃ n, n = ts.length := ⟨_, rfl⟩
  obtain ⟨na, hna⟩ : ∃ n, n = al.length := ⟨_, rfl⟩
  obtain ⟨nc, hnc⟩ : ∃ n, n = cl.length := ⟨_, rfl⟩
  obtain ⟨ns, hns⟩ : ∃ n, n = sa.length := ⟨_, rfl⟩
  obtain ⟨t, ht⟩ : ∃ t, t = ts[y] := ⟨_, rfl⟩
  obtain ⟨R, hR⟩ : ∃ R : Nat, R = t.1.toNat := ⟨_, rfl⟩
  obtain ⟨G, hG⟩ : ∃ R : Nat, R = t.2.1.toNat := ⟨_, rfl⟩
  obtain ⟨Bb, hB⟩ : ∃ R : Nat, R = t.2.2.toNat := ⟨_, rfl⟩
  have hRb : R < 256 := by rw [hR]; exact t.1.toNat_lt
  have hGb : G < 256 := by rw [hG]; exact t.2.1.toNat_lt
  have hBb : Bb < 256 := by rw [hB]; exact t.2.2.toNat_lt
  have hcol : colS ⟨W, H, 3, D, L, tA, ts, tc, aA, al, ac, cA, cl, cc, sA, sa, sc⟩ [(y : Int)] = ((R : Int) * 257, (G : Int) * 257, (Bb : Int) * 257, if (y : Int) < na then al.getD y 0 * 257 else 65535) := by
    unfold colS
    rw [if_pos rfl, hna, hR, hG, hB, ht]
    simp [List.getD, hy]
  unfold RS.v RS.cs
  simp only [← hnt, ← hna, ← hnc, ← hns]
  obtain ⟨w2, hw2⟩ : ∃ w2, w2 = (w.alloc (.cells #[.int .i64 W, .int .i64 H, .int .i64 3, .int .i64 D, .bool L, .slice tA nt tc, .slice aA na ac, .slice cA nc cc, .slice sA ns sc] 34)).alloc (.cells #[.int .u16 0, .int .u16 0, .int .u16 0, .int .u16 0] 38) := ⟨_, rfl⟩
  obtain ⟨g, hg⟩ : ∃ g, g = w.heap.size := ⟨_, rfl⟩
  have hf2 : Fr No w w2 := by rw [hw2]; exact ((Fr.refl _ _).alloc _).alloc _
  have hb9 : w2.heap[g]? = some (.cells #[.int .i64 W, .int .i64 H, .int .i64 3, .int .i64 D, .bool L, .slice tA nt tc, .slice aA na ac, .slice cA nc cc, .slice sA ns sc] 34 (0, 0)) := by
    rw [hw2, ((Fr.refl No (w.alloc _)).alloc _).block g (by rw [World.size_alloc, hg]; omega) (fun h => h), hg]; exact heap_new _ _
  have hbR : w2.heap[g + 1]? = some (.cells #[.int .u16 0, .int .u16 0, .int .u16 0, .int .u16 0] 38 (0, 0)) := by
    have := heap_new (w.alloc (.cells #[.int .i64 W, .int .i64 H, .int .i64 3, .int .i64 D, .bool L, .slice tA nt tc, .slice aA na ac, .slice cA nc cc, .slice sA ns sc] 34)) (.cells #[.int .u16 0, .int .u16 0, .int .u16 0, .int .u16 0] 38)
    rw [World.size_alloc, ← hg] at this
    rw [hw2]; exact this
  have hs2 : w2.heap.size = g + 1 + 1 := by rw [hw2, World.size_alloc, World.size_alloc, hg]
  obtain ⟨q0, q1, q2, q3, q4, q5, q6, q7, q8⟩ := blk9 hb9
  obtain ⟨⟨z0, z1, z2, z3⟩, f0, f1, f2, f3⟩ := blk4c hbR
  obtain ⟨ad, rfl, t0, t1, t2⟩ := tins_at (hr.fr hf2).t y hy
  obtain ⟨bd, rfl, hs⟩ : ∃ bd, A = some bd ∧ w2.cell? (bd.add 0) = some (.int .i64 (y : Int)) := by
    obtain ⟨bd, e, hc⟩ := (hxr.fr0 hf2) (by simp)
    exact ⟨bd, e, hc 0 (by simp)⟩
  replace t0 : w2.cell? (ad.add (y * 3)) = some (.int .u8 (R : Int)) := by rw [hR, ht]; exact t0
  replace t1 : w2.cell? ⟨(ad.add (y * 3)).block, (ad.add (y * 3)).off + 1, none⟩ = some (.int .u8 (G : Int)) := by rw [hG, ht]; exact t1
  replace t2 : w2.cell? ⟨(ad.add (y * 3)).block, (ad.add (y * 3)).off + 2, none⟩ = some (.int .u8 (Bb : Int)) := by rw [hB, ht]; exact t2
  rw [add_zero] at hs
  have al0 : ∀ (a : Addr) (v : Value), w2.cell? a = some v → ∀ o, (w2.alloc o).cell? a = some v := fun a v h o => (((Fr.refl No w2).alloc o).cell (lt_of_cell h) (fun h => h)).trans h
  have t0' := al0 _ _ t0
  have t1' := al0 _ _ t1
  have t2' := al0 _ _ t2
  have hs' := al0 _ _ hs
  have q5' := al0 _ _ q5
  have q6' := al0 _ _ q6
  have z0' := al0 _ _ z0
  have z1' := al0 _ _ z1
  have z2' := al0 _ _ z2
  have z3' := al0 _ _ z3
  have fr0' : ∀ i, w2.frozen? ⟨g + 1, i, none⟩ = false → ∀ o, (w2.alloc o).frozen? ⟨g + 1, i, none⟩ = false := fun i h o => (((Fr.refl No w2).alloc o).frozen (p := ⟨g + 1, i, none⟩) (by show g + 1 < _; omega) (fun h => h)).trans h
  have f0' := fr0' 0 f0
  have f1' := fr0' 1 f1
  have f2' := fr0' 2 f2
  have f3' := fr0' 3 f3
  clear al0 fr0'
  have hyn : (y : Int) < (nt : Int) := by rw [hnt]; omega
  have hy0 : (0 : Int) ≤ (y : Int) := by omega
  have HW := hid (And.intro hw2 (And.intro hg (And.intro hf2 (And.intro (hr.fr hf2) (And.intro hcol (And.intro hna (And.intro ha hbR)))))))
  clear hw2 hg hf2 hb9 hbR hr hcol hna ha hnt hnc hns hR hG hB ht hxr hy
  have hfin : ∀ (W' : World) (a b c d : Value), Fr No w W' → Fr No w ((((W'.setCell ⟨g + 1, 0, none⟩ a).setCell ⟨g + 1, 1, none⟩ b).setCell ⟨g + 1, 2, none⟩ c).setCell ⟨g + 1, 3, none⟩ d) := fun W' a b c d hf => by
    have hs : ∀ k, k < w.heap.size → HK.One (g + 1) k → No k := fun k hk e => by have e : k = g + 1 := e; have := HW.out.2.1; omega
    exact (((hf.trans (Fr.set1 _ _ _ _) hs).trans (Fr.set1 _ _ _ _) hs).trans (Fr.set1 _ _ _ _) hs).trans (Fr.set1 _ _ _ _) hs
  have hX : ∀ o, (w2.alloc o).heap[g + 1]? = some (.cells #[.int .u16 0, .int .u16 0, .int .u16 0, .int .u16 0] 38 (0, 0)) := fun o => (((Fr.refl No w2).alloc o).block (g + 1) (by omega) (fun h => h)).trans HW.out.2.2.2.2.2.2.2
  have HF := hid (And.intro hfin hX)
  clear hfin hX
  by_cases hya : y < na
  · have hyai : (y : Int) < (na : Int) := by omega
    have hyal : y < al.length := by rw [← HW.out.2.2.2.2.2.1]; exact hya
    have hab := HW.out.2.2.2.2.2.2.1 al[y] (List.getElem_mem hyal)
    obtain ⟨an, han⟩ : ∃ an : Nat, al[y] = an := ⟨al[y].toNat, by omega⟩
    have han2 : an ≤ 255 := by omega
    obtain ⟨cd, rfl, hcA⟩ : ∃ cd, aA = some cd ∧ ∀ o, (w2.alloc o).cell? (cd.add y) = some (.int .i64 (an : Int)) := by
      obtain ⟨cd, e, hc⟩ := HW.out.2.2.2.1.a (Nat.lt_of_le_of_lt (Nat.zero_le _) hyal)
      refine ⟨cd, e, fun o => (((Fr.refl No w2).alloc o).cell (lt_of_cell (hc y hyal)) (fun h => h)).trans ?_⟩
      rw [hc y hyal]; show some (Value.int .i64 al[y]) = _; rw [han]
    have HCOL := hid (show colS ⟨W, H, 3, D, L, some ad, ts, tc, some cd, al, ac, cA, cl, cc, sA, sa, sc⟩ [(y : Int)] = ((R : Int) * 257, (G : Int) * 257, (Bb : Int) * 257, (an : Int) * 257) by
      rw [HW.out.2.2.2.2.1, if_pos hyai, show al.getD y 0 = (an : Int) by simp [List.getD, hyal, han]])
    clear han hab hyal
    go_enter Try.func31, Try.ntmps31
    go_wp2_with fail
    rw [← HW.out.1, ← HW.out.2.1]
    go_region
    go_wp2_with fail
    go_quiet (fail)
    go_wp2_with fail
    go_quiet (fail)
    go_wp2_with fail
    refine ret_col rfl (g := g + 1) (x := (R : Int) * 257) (y := (G : Int) * 257) (z := (Bb : Int) * 257) (u := (an : Int) * 257) (col_cells (HF.out.2 _)) rfl rfl ?_
    exact ⟨by rw [HCOL.out]; rfl, HF.out.1 _ _ _ _ _ ((HW.out.2.2.1.alloc _).drewN _)⟩
  · have hyai : ¬ (y : Int) < (na : Int) := by omega
    have HCOL := hid (show colS ⟨W, H, 3, D, L, some ad, ts, tc, aA, al, ac, cA, cl, cc, sA, sa, sc⟩ [(y : Int)] = ((R : Int) * 257, (G : Int) * 257, (Bb : Int) * 257, 65535) by
      rw [HW.out.2.2.2.2.1, if_neg hyai])
    clear hya
    go_enter Try.func31, Try.ntmps31
    go_wp2_with fail
    rw [← HW.out.1, ← HW.out.2.1]
    go_region
    go_wp2_with fail
    go_quiet (fail)
    go_wp2_with fail
    refine ret_col rfl (g := g + 1) (x := (R : Int) * 257) (y := (G : Int) * 257) (z := (Bb : Int) * 257) (u := 65535) (col_cells (HF.out.2 _)) rfl rfl ?_
    exact ⟨by rw [HCOL.out]; rfl, HF.out.1 _ _ _ _ _ ((HW.out.2.2.1.alloc _).drewN _)⟩
end Go.Proofs.Ytdbbkdlocmafgaa

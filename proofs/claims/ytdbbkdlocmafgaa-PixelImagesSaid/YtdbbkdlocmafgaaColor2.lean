/- The contract of pixel's color, where the kind has no table, and what covers nothing is it. -/
import Derived.Test.YtdbbkdlocmafgaaColor
import Derived.BigRegion
namespace Go.Proofs.Ytdbbkdlocmafgaa
open Go.RowKit Go.Proofs.HK
set_option linter.unusedVariables false
set_option linter.unusedSimpArgs false
attribute [local go_sem] max2_int min2_int max_two min_two

set_option maxRecDepth 100000 in
set_option maxHeartbeats 6400000 in
theorem color_p (r : RS) (A : Option Addr) (ys : List Nat) (m c : Nat) (w : World) (hr : r.ok w) (hm : mayS r.W r.H r.C r.D = true) (hx : ys.length = m) (hxr : Rd II w A (ys.map fun y : Nat => (y : Int))) (hlen : (m : Int) = samS r.C)
    (hv : ∀ y ∈ ys, y ≤ 2 ^ r.D.toNat - 1) (hc : r.C ≠ 3) (hnc0 : r.cl.length ≠ 0) (heq : r.cl = ys.map fun y : Nat => (y : Int)) : Calls Try.prog 31 #[r.v, .slice A m c] w fun e w' => e = .returned (colS r (ys.map fun y : Nat => (y : Int))).v ∧ Fr No w w' := by
  obtain ⟨W, H, C, D, L, tA, ts, tc, aA, al, ac, cA, cl, cc, sA, sa, sc⟩ := r
  obtain ⟨nt, hnt⟩ : ∃ n, n = ts.length := ⟨_, rfl⟩
  obtain ⟨na, hna⟩ : ∃ n, n = al.length := ⟨_, rfl⟩
  obtain ⟨nc, hnc⟩ : ∃ n, n = cl.length := ⟨_, rfl⟩
  obtain ⟨ns, hns⟩ : ∃ n, n = sa.length := ⟨_, rfl⟩
  have HN0 := hid (And.intro (show nc ≠ 0 from fun e => hnc0 (hnc.symm.trans e)) (show cl = ys.map (fun y : Nat => (y : Int)) from heq))
  clear hnc0 heq
  replace hm : mayS W H C D = true := hm
  replace hlen : (m : Int) = samS C := hlen
  replace hc : C ≠ 3 := hc
  obtain ⟨m1, m2, m3, m4, m5, m6, m7, m8, m9⟩ := may_facts hm
  obtain ⟨dn, rfl, hd1, hd16⟩ : ∃ dn : Nat, D = dn ∧ 1 ≤ dn ∧ dn ≤ 16 := ⟨D.toNat, by omega, by omega, by omega⟩
  replace hv : ∀ y ∈ ys, y ≤ 2 ^ dn - 1 := hv
  obtain ⟨P, st, ⟨s1, s2, s3, s4⟩, hqs, hpw, hdiv⟩ := dep_nums (dn := dn) (by omega)
  have HQS := hid (And.intro hqs hv)
  have HDIV := hid hdiv
  clear hqs hv hdiv
  have hc3 : (C == 3) = false := by rw [beq_eq_false_iff_ne]; exact hc
  unfold RS.v RS.cs
  simp only [← hnt, ← hna, ← hnc, ← hns]
  have HL := hid (And.intro hr (And.intro hnc hx))
  have HC3 := hid (And.intro hc (And.intro hlen (And.intro hm (And.intro m7 m6))))
  have hm4 : m ≤ 4 := by omega
  have hm1 : 1 ≤ m := by omega
  clear hc m6 hnt hna hnc hns hr hx hlen hm m7 m1 m2 m3 m4 m5 m8 m9
  go_enter Try.func31, Try.ntmps31
  go_wp2_with fail
  clear hpw
  rw [HDIV.out]
  obtain ⟨g, hg⟩ : ∃ g, g = w.heap.size := ⟨_, rfl⟩
  obtain ⟨o1, ho1⟩ : ∃ o, o = Obj.cells #[.int .i64 W, .int .i64 H, .int .i64 C, .int .i64 dn, .bool L, .slice tA nt tc, .slice aA na ac, .slice cA nc cc, .slice sA ns sc] 34 := ⟨_, rfl⟩
  obtain ⟨o2, ho2⟩ : ∃ o, o = Obj.cells #[.int .u16 0, .int .u16 0, .int .u16 0, .int .u16 0] 38 := ⟨_, rfl⟩
  obtain ⟨o3, ho3⟩ : ∃ o, o = Obj.cells #[.int .u16 0, .int .u16 0, .int .u16 0, .int .u16 0] 71 := ⟨_, rfl⟩
  obtain ⟨w3, hw3⟩ : ∃ w3, w3 = ((w.alloc o1).alloc o2).alloc o3 := ⟨_, rfl⟩
  have hs3 : w3.heap.size = g + 1 + 1 + 1 := by rw [hw3, World.size_alloc, World.size_alloc, World.size_alloc, hg]
  have hb0 : w3.heap[g]? = some o1 := by
    rw [hw3, (((Fr.refl No (w.alloc o1)).alloc o2).alloc o3).block g (by rw [World.size_alloc, hg]; omega) (fun h => h), hg]; exact heap_new _ _
  have hb1 : w3.heap[g + 1]? = some o2 := by
    have := heap_new (w.alloc o1) o2
    rw [World.size_alloc, ← hg] at this
    rw [hw3, ((Fr.refl No ((w.alloc o1).alloc o2)).alloc o3).block (g + 1) (by rw [World.size_alloc, World.size_alloc, hg]; omega) (fun h => h)]; exact this
  have hb2 : w3.heap[g + 1 + 1]? = some o3 := by
    have := heap_new ((w.alloc o1).alloc o2) o3
    rw [World.size_alloc, World.size_alloc, ← hg] at this
    rw [hw3]; exact this
  have hf3 : Fr No w w3 := by rw [hw3]; exact (((Fr.refl _ _).alloc _).alloc _).alloc _
  rw [← ho1, ← ho2, ← ho3, ← hw3, ← hg]
  rw [ho1] at hb0
  rw [ho2] at hb1
  rw [ho3] at hb2
  have hb2' : w3.heap[g + 1 + 1]? = some (.cells (fourA st ys 0) 71 (0, 0)) := hb2
  have H3 := hid (And.intro hb0 (And.intro hb1 (And.intro hf3 (And.intro hxr (And.intro hg HL.out.1)))))
  clear ho1 ho2 ho3 hw3 hb0 hb1 hb2 hf3 hxr hg
  go_loopw [62] (fun i wr => ∃ k : Nat, i = .int .i64 k ∧ Hid (k ≤ m ∧ wr.heap[g + 1 + 1]? = some (.cells (fourA st ys k) 71 (0, 0)) ∧ Fr (HK.One (g + 1 + 1)) w3 wr)) (fun i _ => m - (intOf i).toNat)
  case atStart => exact ⟨0, rfl, by omega, hb2', Fr.refl _ _⟩
  case round =>
    obtain ⟨k, rfl, HR⟩ := hrel
    by_cases hlt : k < m
    · have hlt' : (k : Int) < (m : Int) := by omega
      have hk4 : k < 4 := by omega
      have h1 : k < ys.length := by rw [HL.out.2.2]; exact hlt
      have hgl : g + 1 + 1 < w3.heap.size := by omega
      obtain ⟨ad, rfl, hc1⟩ : ∃ ad, A = some ad ∧ wr.cell? (ad.add k) = some (.int .i64 (ys[k] : Nat)) := by
        obtain ⟨ad, e, hc⟩ := (H3.out.2.2.2.1.fr0 (H3.out.2.2.1.trans HR.out.2.2 (fun j hj (e : j = g + 1 + 1) => by have := H3.out.2.2.2.2.1; omega))) (by rw [List.length_map]; omega)
        refine ⟨ad, e, ?_⟩
        rw [hc k (by rw [List.length_map]; exact h1)]; simp [II]
      obtain ⟨y, hy⟩ : ∃ y, y = ys[k] := ⟨_, rfl⟩
      rw [← hy] at hc1
      have hyP : y ≤ P - 1 := by
        have := HQS.out.2 y (by rw [hy]; exact List.getElem_mem h1)
        rw [HQS.out.1.2.1]; exact this
      obtain ⟨z, hz⟩ : ∃ z, z = y * st := ⟨_, rfl⟩
      have hz2 : z ≤ 65535 := by rw [hz, ← HQS.out.1.1]; exact Nat.mul_le_mul_right _ hyP
      have hset := fourA_set st ys k hk4
      rw [show ys.getD k 0 = y by rw [hy]; simp [List.getD, h1], ← hz] at hset
      obtain ⟨⟨old, p0⟩, p1⟩ := cellOf HR.out.2.1 k (by rw [fourA_size]; exact hk4)
      have HS := hid hset
      have hmul : IntKind.i64.wrap ((y : Int) * (st : Int)) = (z : Int) := by rw [← Int.natCast_mul, ← hz]; exact w64 _ (by omega) (by omega)
      clear hset hz hy h1 hyP
      go_wp2_with fail
      go_roundw
      case rel => exact ⟨k + 1, by go_num, by omega, by rw [heap_set _ _ _ _ _ _ HR.out.2.1, HS.out], HR.out.2.2.then (Fr.set1 _ _ _ _)⟩
      case measure => simp [intOf] <;> omega
    · have hge : ¬ ((k : Int) < (m : Int)) := by omega
      have hkm : k = m := by have := HR.out.1; omega
      have hbv := HR.out.2.1
      rw [hkm] at hbv
      have hfv := HR.out.2.2
      have hbr := (hfv.block (g + 1) (by omega) (fun e => by have e : g + 1 = g + 1 + 1 := e; omega)).trans H3.out.2.1
      have hb9 := (hfv.block g (by omega) (fun e => by have e : g = g + 1 + 1 := e; omega)).trans H3.out.1
      have hfa := fourA_all st ys
      rw [HL.out.2.2] at hfa
      rw [hfa] at hbv
      have hcol := col_n (r := ⟨W, H, C, dn, L, tA, ts, tc, aA, al, ac, cA, cl, cc, sA, sa, sc⟩) (ys := ys) HC3.out.1 HL.out.2.2 HL.out.2.1 HQS.out.1.2.2
      obtain ⟨a0, ha0⟩ : ∃ a, a = ys.getD 0 0 * st := ⟨_, rfl⟩
      obtain ⟨a1, ha1⟩ : ∃ a, a = ys.getD 1 0 * st := ⟨_, rfl⟩
      obtain ⟨a2, ha2⟩ : ∃ a, a = ys.getD 2 0 * st := ⟨_, rfl⟩
      obtain ⟨a3, ha3⟩ : ∃ a, a = ys.getD 3 0 * st := ⟨_, rfl⟩
      rw [← ha0, ← ha1, ← ha2, ← ha3] at hbv
      rw [← ha0, ← ha1, ← ha2] at hcol
      obtain ⟨⟨v0, v1, v2, v3⟩, _⟩ := blk4c hbv
      obtain ⟨q0, q1, q2, q3, q4, q5, q6, q7, q8⟩ := blk9 hb9
      have hlw : g + 1 + 1 < wr.heap.size := by have := hfv.size; omega
      have hX : ∀ o, (wr.alloc o).heap[g + 1]? = some (.cells #[.int .u16 0, .int .u16 0, .int .u16 0, .int .u16 0] 38 (0, 0)) := fun o => (((Fr.refl No wr).alloc o).block (g + 1) (by omega) (fun h => h)).trans hbr
      have hwr : Fr No w wr := H3.out.2.2.1.trans hfv (fun j hj (e : j = g + 1 + 1) => by have := H3.out.2.2.2.2.1; omega)
      have hfin : ∀ (W' : World) (a b c d : Value), Fr No w W' → Fr No w ((((W'.setCell ⟨g + 1, 0, none⟩ a).setCell ⟨g + 1, 1, none⟩ b).setCell ⟨g + 1, 2, none⟩ c).setCell ⟨g + 1, 3, none⟩ d) := fun W' a b c d hf => by
        have hs : ∀ k, k < w.heap.size → HK.One (g + 1) k → No k := fun k hk e => by have e : k = g + 1 := e; have := H3.out.2.2.2.2.1; omega
        exact (((hf.trans (Fr.set1 _ _ _ _) hs).trans (Fr.set1 _ _ _ _) hs).trans (Fr.set1 _ _ _ _) hs).trans (Fr.set1 _ _ _ _) hs
      have hcR : ∀ o, Rd II (wr.alloc o) cA cl := fun o => H3.out.2.2.2.2.2.c.fr0 (hwr.alloc o)
      have hsR : ∀ o, Rd II (wr.alloc o) A (ys.map fun y : Nat => (y : Int)) := fun o => H3.out.2.2.2.1.fr0 (hwr.alloc o)
      have h7 : ∀ o, (wr.alloc o).cell? ⟨g, 7, none⟩ = some (.slice cA nc cc) := fun o => (((Fr.refl No wr).alloc o).cellg g 7 (by omega) (fun h => h)).trans q7
      have hr0 : ∀ o, (wr.alloc o).cell? ⟨g + 1, 0, none⟩ = some (.int .u16 0) := fun o => (blk4c (hX o)).1.1
      have hr1 : ∀ o, (wr.alloc o).cell? ⟨g + 1, 1, none⟩ = some (.int .u16 0) := fun o => (blk4c (hX o)).1.2.1
      have hr2 : ∀ o, (wr.alloc o).cell? ⟨g + 1, 2, none⟩ = some (.int .u16 0) := fun o => (blk4c (hX o)).1.2.2.1
      have hr3 : ∀ o, (wr.alloc o).cell? ⟨g + 1, 3, none⟩ = some (.int .u16 0) := fun o => (blk4c (hX o)).1.2.2.2
      have hz0 : ∀ o, (wr.alloc o).frozen? ⟨g + 1, 0, none⟩ = false := fun o => (blk4c (hX o)).2.1
      have hz1 : ∀ o, (wr.alloc o).frozen? ⟨g + 1, 1, none⟩ = false := fun o => (blk4c (hX o)).2.2.1
      have hz2 : ∀ o, (wr.alloc o).frozen? ⟨g + 1, 2, none⟩ = false := fun o => (blk4c (hX o)).2.2.2.1
      have hz3 : ∀ o, (wr.alloc o).frozen? ⟨g + 1, 3, none⟩ = false := fun o => (blk4c (hX o)).2.2.2.2
      have hX3 : ∀ o q u, (((wr.alloc o).drewN q).setCell ⟨wr.heap.size, 3, none⟩ u).heap[g + 1]? = some (.cells #[.int .u16 0, .int .u16 0, .int .u16 0, .int .u16 0] 38 (0, 0)) := fun o q u =>
        (((Fr.set1 ((wr.alloc o).drewN q) wr.heap.size 3 u).block (g + 1) (by show g + 1 < (wr.alloc o).heap.size; rw [World.size_alloc]; omega) (fun e => by have e : g + 1 = wr.heap.size := e; omega))).trans (hX o)
      have hw3 : ∀ o q u, Fr No w (((wr.alloc o).drewN q).setCell ⟨wr.heap.size, 3, none⟩ u) := fun o q u => ((hwr.alloc o).drewN q).trans (Fr.set1 _ _ _ _) (fun j hj (e : j = wr.heap.size) => by have := hwr.size; omega)
      have HT3 := hid (And.intro hX3 hw3)
      have HT := hid (And.intro hX (And.intro hwr (And.intro hfin (And.intro hcR (And.intro hsR hcol)))))
      have HA := hid (And.intro ha0 (And.intro ha1 (And.intro ha2 ha3)))
      have hkc : C = 0 ∧ m = 1 ∨ C = 2 ∧ m = 3 ∨ C = 4 ∧ m = 2 ∨ C = 6 ∧ m = 4 := by
        have h1 := HC3.out.2.1
        rcases HC3.out.2.2.2.2 with h | h | h | h | h
        · rw [h] at h1; simp [samS] at h1; exact .inl ⟨h, by omega⟩
        · rw [h] at h1; simp [samS] at h1; exact .inr (.inl ⟨h, by omega⟩)
        · exact absurd h HC3.out.1
        · rw [h] at h1; simp [samS] at h1; exact .inr (.inr (.inl ⟨h, by omega⟩))
        · rw [h] at h1; simp [samS] at h1; exact .inr (.inr (.inr ⟨h, by omega⟩))
      clear hkm hbv hfv hbr hb9 hfa hcol ha0 ha1 ha2 ha3 hX hX3 hw3 hwr hfin hcR hsR hlt
      have hnc10 : nc ≤ 10 := by rw [HL.out.2.1]; exact HL.out.1.cl
      have hnc := HN0.out.1
      have heq := HN0.out.2
      have hn0 : (nc : Int) > 0 := by omega
      have HNC := hid hnc
      have HEQ := hid (And.intro (decide_eq_true heq) heq)
      clear hnc heq
      rcases hkc with ⟨rfl, rfl⟩ | ⟨rfl, rfl⟩ | ⟨rfl, rfl⟩ | ⟨rfl, rfl⟩
      · skip
        have HCOL := hid (show colS ⟨W, H, 0, dn, L, tA, ts, tc, aA, al, ac, cA, cl, cc, sA, sa, sc⟩ (ys.map fun y : Nat => (y : Int)) = ((a0 : Int), (a0 : Int), (a0 : Int), 0) by
          rw [HT.out.2.2.2.2.2, if_pos (show 0 < nc ∧ cl = ys.map (fun y : Nat => (y : Int)) from ⟨Nat.pos_of_ne_zero HNC.out, HEQ.out.2⟩)]
          first | rfl | (rw [HA.out.2.1]; rfl) | (rw [HA.out.2.2.2]; rfl))
        go_wp2_with fail
        refine (equal_calls cA A cl (ys.map fun y : Nat => (y : Int)) nc 1 cc c HL.out.2.1.symm ((List.length_map _).trans HL.out.2.2) _ (HT.out.2.2.2.1 _) (HT.out.2.2.2.2.1 _) (by omega)).mono ?_
        rw [HEQ.out.1]
        rintro e w5 ⟨rfl, qq, rfl⟩
        go_wp2_with fail
        refine ret_col rfl (g := g + 1) (x := a0) (y := a0) (z := a0) (u := 0) (col_cells (HT3.out.1 _ _ _)) rfl rfl ?_
        exact ⟨by rw [HCOL.out]; rfl, HT.out.2.2.1 _ _ _ _ _ (HT3.out.2 _ _ _)⟩
      · skip
        have HCOL := hid (show colS ⟨W, H, 2, dn, L, tA, ts, tc, aA, al, ac, cA, cl, cc, sA, sa, sc⟩ (ys.map fun y : Nat => (y : Int)) = ((a0 : Int), (a1 : Int), (a2 : Int), 0) by
          rw [HT.out.2.2.2.2.2, if_pos (show 0 < nc ∧ cl = ys.map (fun y : Nat => (y : Int)) from ⟨Nat.pos_of_ne_zero HNC.out, HEQ.out.2⟩)]
          first | rfl | (rw [HA.out.2.1]; rfl) | (rw [HA.out.2.2.2]; rfl))
        go_wp2_with fail
        go_region
        go_wp2_with fail
        refine (equal_calls cA A cl (ys.map fun y : Nat => (y : Int)) nc 3 cc c HL.out.2.1.symm ((List.length_map _).trans HL.out.2.2) _ (HT.out.2.2.2.1 _).drew (HT.out.2.2.2.2.1 _).drew (by omega)).mono ?_
        rw [HEQ.out.1]
        rintro e w5 ⟨rfl, qq, rfl⟩
        go_wp2_with fail
        refine ret_col rfl (g := g + 1) (x := a0) (y := a1) (z := a2) (u := 0) (col_cells (HT3.out.1 _ _ _)) rfl rfl ?_
        exact ⟨by rw [HCOL.out]; rfl, HT.out.2.2.1 _ _ _ _ _ (HT3.out.2 _ _ _)⟩
      · skip
        have HCOL := hid (show colS ⟨W, H, 4, dn, L, tA, ts, tc, aA, al, ac, cA, cl, cc, sA, sa, sc⟩ (ys.map fun y : Nat => (y : Int)) = ((a0 : Int), (a0 : Int), (a0 : Int), 0) by
          rw [HT.out.2.2.2.2.2, if_pos (show 0 < nc ∧ cl = ys.map (fun y : Nat => (y : Int)) from ⟨Nat.pos_of_ne_zero HNC.out, HEQ.out.2⟩)]
          first | rfl | (rw [HA.out.2.1]; rfl) | (rw [HA.out.2.2.2]; rfl))
        go_wp2_with fail
        refine (equal_calls cA A cl (ys.map fun y : Nat => (y : Int)) nc 2 cc c HL.out.2.1.symm ((List.length_map _).trans HL.out.2.2) _ (HT.out.2.2.2.1 _) (HT.out.2.2.2.2.1 _) (by omega)).mono ?_
        rw [HEQ.out.1]
        rintro e w5 ⟨rfl, qq, rfl⟩
        go_wp2_with fail
        refine ret_col rfl (g := g + 1) (x := a0) (y := a0) (z := a0) (u := 0) (col_cells (HT3.out.1 _ _ _)) rfl rfl ?_
        exact ⟨by rw [HCOL.out]; rfl, HT.out.2.2.1 _ _ _ _ _ (HT3.out.2 _ _ _)⟩
      · skip
        have HCOL := hid (show colS ⟨W, H, 6, dn, L, tA, ts, tc, aA, al, ac, cA, cl, cc, sA, sa, sc⟩ (ys.map fun y : Nat => (y : Int)) = ((a0 : Int), (a1 : Int), (a2 : Int), 0) by
          rw [HT.out.2.2.2.2.2, if_pos (show 0 < nc ∧ cl = ys.map (fun y : Nat => (y : Int)) from ⟨Nat.pos_of_ne_zero HNC.out, HEQ.out.2⟩)]
          first | rfl | (rw [HA.out.2.1]; rfl) | (rw [HA.out.2.2.2]; rfl))
        go_wp2_with fail
        go_region
        go_wp2_with fail
        refine (equal_calls cA A cl (ys.map fun y : Nat => (y : Int)) nc 4 cc c HL.out.2.1.symm ((List.length_map _).trans HL.out.2.2) _ (HT.out.2.2.2.1 _).drew (HT.out.2.2.2.2.1 _).drew (by omega)).mono ?_
        rw [HEQ.out.1]
        rintro e w5 ⟨rfl, qq, rfl⟩
        go_wp2_with fail
        refine ret_col rfl (g := g + 1) (x := a0) (y := a1) (z := a2) (u := 0) (col_cells (HT3.out.1 _ _ _)) rfl rfl ?_
        exact ⟨by rw [HCOL.out]; rfl, HT.out.2.2.1 _ _ _ _ _ (HT3.out.2 _ _ _)⟩
end Go.Proofs.Ytdbbkdlocmafgaa

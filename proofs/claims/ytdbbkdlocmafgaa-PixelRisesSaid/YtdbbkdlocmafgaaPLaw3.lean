/- PixelRises' walk. -/
import Derived.Test.YtdbbkdlocmafgaaPLaw1
namespace Go.Proofs.Ytdbbkdlocmafgaa
open Go.RowKit Go.Proofs.HK
set_option linter.unusedVariables false
set_option linter.unusedSimpArgs false
attribute [local go_sem] max2_int min2_int max_two min_two
theorem rises_tab {dn : Nat} (h : dn = 1 ∨ dn = 2 ∨ dn = 4 ∨ dn = 8 ∨ dn = 16) : tabS (rOne dn) = 0 := by
  rcases h with rfl | rfl | rfl | rfl | rfl <;> decide
theorem rises_of {dn x : Nat} (h : dn = 1 ∨ dn = 2 ∨ dn = 4 ∨ dn = 8 ∨ dn = 16) (hx : x ≤ 2 ^ dn - 1) : ofE (rOne dn) [(x : Int)] = 0 ∧ (ofC (rOne dn) [(x : Int)]).v = .agg #[.int .u16 ((x * stepN dn : Nat) : Int), .int .u16 ((x * stepN dn : Nat) : Int), .int .u16 ((x * stepN dn : Nat) : Int), .int .u16 65535] := by
  have hp := Nat.one_le_two_pow (n := dn)
  have hw : witB [(x : Int)] (2 ^ (dn : Int).toNat - 1) = true := wit_iff.2 fun v hv => by
    rw [List.mem_singleton.1 hv, Int.toNat_natCast]
    have e : ((2 : Int) ^ dn) = ((2 ^ dn : Nat) : Int) := by simp
    rw [e]
    omega
  have hl : lookS (rOne dn) [(x : Int)] 1 = 0 := by
    unfold lookS
    rw [if_neg (fun h => by rcases h with h | h; · exact h rfl
                            · rw [show (rOne dn).D = (dn : Int) from rfl, hw] at h; exact absurd h (by simp)), if_neg (fun h => absurd h.1 (by simp [rOne]))]
  have e : ofE (rOne dn) [(x : Int)] = 0 := by
    unfold ofE; rw [if_pos (rises_tab h)]; exact hl
  refine ⟨e, ?_⟩
  unfold ofC
  rw [if_pos e]
  have := col_n (r := rOne dn) (ys := [x]) (m := 1) (nc := 0) (st := stepN dn) (by simp [rOne]) rfl rfl (by simp [rOne])
  have e2 : ([x] : List Nat).map (fun y : Nat => (y : Int)) = [(x : Int)] := rfl
  rw [e2] at this
  rw [this]
  rfl
theorem mn_nat (a b : Nat) : mn (a : Int) (b : Int) = ((min a b : Nat) : Int) := by unfold mn; split <;> omega
theorem mx_nat (a b : Nat) : mx (a : Int) (b : Int) = ((max a b : Nat) : Int) := by unfold mx; split <;> omega
theorem rises_eq {m M st x y : Nat} (hm : m = min x y) (hM : M = max x y) (hs : 1 ≤ st) : m * st ≤ M * st ∧ ((((m * st : Nat) : Int) == ((M * st : Nat) : Int)) == ((x : Int) == (y : Int))) = true := by
  refine ⟨Nat.mul_le_mul_right _ (by omega), ?_⟩
  by_cases h : x = y
  · have e : m = M := by omega
    rw [e, h]; simp
  · have e : m * st ≠ M * st := fun e => by
      have := Nat.eq_of_mul_eq_mul_right (by omega) e
      omega
    have h1 : (((m * st : Nat) : Int) == ((M * st : Nat) : Int)) = false := by rw [beq_eq_false_iff_ne]; omega
    have h2 : ((x : Int) == (y : Int)) = false := by rw [beq_eq_false_iff_ne]; omega
    rw [h1, h2]; rfl
theorem and_lit {a n F : Nat} (hF : F + 1 = 2 ^ n) (ha : a < 65536) (hn : n ≤ 40) : bits .and .i64 (a : Int) (F : Int) = ((a % 2 ^ n : Nat) : Int) := by
  have := and_mask a n (Nat.lt_trans ha (by decide)) hn
  rw [← this, ← hF]
  congr 1
  omega
theorem blkc {W W' : World} {g : Nat} {cs : Array Value} {t : TypeId} (h : W.heap[g]? = some (.cells cs t (0, 0))) (hf : Fr No W W') : W'.heap[g]? = some (.cells cs t (0, 0)) := (hf.block g (Array.getElem?_eq_some_iff.1 h).1 (fun h => h)).trans h
set_option maxRecDepth 100000 in
set_option maxHeartbeats 3200000 in
theorem rises_0 (dep a b : Nat) (hd : dep < 256) (hk : (dep : Int) % 5 = 0) (ha : a < 65536) (hb : b < 65536) (w : World) : Calls Try.prog 5 #[.int .u8 dep, .int .u16 a, .int .u16 b] w fun e w' => e = .returned (.bool true) ∧ Fr No w w' := by
  obtain ⟨x, hx⟩ : ∃ x, x = a % 2 ^ 1 := ⟨_, rfl⟩
  obtain ⟨y, hy⟩ : ∃ x, x = b % 2 ^ 1 := ⟨_, rfl⟩
  obtain ⟨m, hm⟩ : ∃ m, m = min x y := ⟨_, rfl⟩
  obtain ⟨M, hM⟩ : ∃ m, m = max x y := ⟨_, rfl⟩
  have hxb : x ≤ 1 := by have := Nat.mod_lt a (show 0 < 2 ^ 1 by decide); omega
  have hyb : y ≤ 1 := by have := Nat.mod_lt b (show 0 < 2 ^ 1 by decide); omega
  have hmb : m ≤ 1 := by omega
  have hMb : M ≤ 1 := by omega
  have hax : bits .and .i64 (a : Int) 1 = (x : Int) := by rw [hx]; exact and_lit (F := 1) (by decide) ha (by decide)
  have hay : bits .and .i64 (b : Int) 1 = (y : Int) := by rw [hy]; exact and_lit (F := 1) (by decide) hb (by decide)
  have hmm : mn (x : Int) (y : Int) = (m : Int) := by rw [mn_nat, hm]
  have hMM : mx (x : Int) (y : Int) = (M : Int) := by rw [mx_nat, hM]
  obtain ⟨r1, r2⟩ := rises_eq hm hM (show 1 ≤ stepN 1 by decide)
  have o1 := rises_of (dn := 1) (x := m) (by decide) hmb
  have o2 := rises_of (dn := 1) (x := M) (by decide) hMb
  have o3 : ofE (rOne 1) [0] = 0 ∧ (ofC (rOne 1) [0]).v = .agg #[.int .u16 0, .int .u16 0, .int .u16 0, .int .u16 65535] := (rises_of (dn := 1) (x := 0) (by decide) (by decide)).imp id (fun h => h.trans (by rw [show 0 * stepN 1 = 0 by decide]; rfl))
  have o4 : ofE (rOne 1) [1] = 0 ∧ (ofC (rOne 1) [1]).v = .agg #[.int .u16 65535, .int .u16 65535, .int .u16 65535, .int .u16 65535] := (rises_of (dn := 1) (x := 1) (by decide) (by decide)).imp id (fun h => h.trans (by rw [show 1 * stepN 1 = 65535 by decide]; rfl))
  obtain ⟨p1, hp1⟩ : ∃ p, p = m * stepN 1 := ⟨_, rfl⟩
  obtain ⟨p2, hp2⟩ : ∃ p, p = M * stepN 1 := ⟨_, rfl⟩
  rw [← hp1] at o1
  rw [← hp2] at o2
  replace o1 : ofE (rOne 1) [(m : Int)] = 0 ∧ (ofC (rOne 1) [(m : Int)]).v = .agg #[.int .u16 p1, .int .u16 p1, .int .u16 p1, .int .u16 65535] := o1
  replace o2 : ofE (rOne 1) [(M : Int)] = 0 ∧ (ofC (rOne 1) [(M : Int)]).v = .agg #[.int .u16 p2, .int .u16 p2, .int .u16 p2, .int .u16 65535] := o2
  rw [← hp1, ← hp2] at r1 r2
  have r1' : (p1 : Int) ≤ (p2 : Int) := by omega
  have HO := hid (And.intro o1 (And.intro o2 (And.intro o3 o4)))
  clear o1 o2 o3 o4 hp1 hp2 hx hy hm hM
  go_enter Try.func5, Try.ntmps5
  go_wp2_with fail
  refine (fixed15_calls _).mono ?_
  rintro e w1 ⟨rfl, hf1⟩
  go_wp2_with fail
  obtain ⟨g1, hg1⟩ : ∃ g, g = w1.heap.size + 1 := ⟨_, rfl⟩
  obtain ⟨V1, hV1⟩ : ∃ V, V = (w1.alloc (.cells #[.int .i64 1, .int .i64 2, .int .i64 4, .int .i64 8, .int .i64 16] 3)).alloc (.cells #[.int .i64 1, .int .i64 1, .int .i64 0, .int .i64 1, .bool false, .slice none 0 0, .slice none 0 0, .slice none 0 0, .slice none 0 0] 34) := ⟨_, rfl⟩
  have hr1 : V1.heap[g1]? = some (.cells #[.int .i64 1, .int .i64 1, .int .i64 0, .int .i64 1, .bool false, .slice none 0 0, .slice none 0 0, .slice none 0 0, .slice none 0 0] 34 (0, 0)) := by
    have := heap_new (w1.alloc (.cells #[.int .i64 1, .int .i64 2, .int .i64 4, .int .i64 8, .int .i64 16] 3)) (.cells #[.int .i64 1, .int .i64 1, .int .i64 0, .int .i64 1, .bool false, .slice none 0 0, .slice none 0 0, .slice none 0 0, .slice none 0 0] 34)
    rw [World.size_alloc, ← hg1] at this
    rw [hV1]; exact this
  have hs1 : g1 + 1 = V1.heap.size := by rw [hV1, hg1, World.size_alloc, World.size_alloc]
  have hF1 : Fr No w V1 := by rw [hV1]; exact (hf1.alloc _).alloc _
  rw [← hV1, ← hg1, hs1, ← rOne_v]
  have H1 := hid (And.intro hr1 hF1)
  clear hV1 hg1 hr1 hs1 hF1 hf1
  refine (of_calls (rOne 1) _ [(m : Int)] 1 1 _ (rOne_ok _ _) rfl (rd_new II V1 [(m : Int)] _ _ rfl) (by decide)).mono ?_
  rw [HO.out.1.1, HO.out.1.2]
  rintro e W2 ⟨rfl, hf2⟩
  have hr2 := blkc H1.out.1 (((Fr.refl No V1).alloc _).then hf2)
  have H2 := hid (And.intro hr2 (H1.out.2.then (((Fr.refl No V1).alloc _).then hf2)))
  have al2 : ∀ i v, W2.cell? ⟨g1, i, none⟩ = some v → ∀ o, (W2.alloc o).cell? ⟨g1, i, none⟩ = some v := fun i v h o => (((Fr.refl No W2).alloc o).cell (lt_of_cell h) (fun h => h)).trans h
  obtain ⟨q0, q1, q2, q3, q4, q5, q6, q7, q8⟩ := blk9 hr2
  have a0 := al2 _ _ q0
  have a1 := al2 _ _ q1
  have a2 := al2 _ _ q2
  have a3 := al2 _ _ q3
  have a4 := al2 _ _ q4
  have a5 := al2 _ _ q5
  have a6 := al2 _ _ q6
  have a7 := al2 _ _ q7
  have a8 := al2 _ _ q8
  clear al2 q0 q1 q2 q3 q4 q5 q6 q7 q8
  clear hr2 hf2
  go_wp2_with fail
  rw [← rOne_v]
  obtain ⟨g12, hg12⟩ : ∃ g, g = W2.heap.size := ⟨_, rfl⟩
  obtain ⟨V2, hV2⟩ : ∃ V, V = W2.alloc (.cells #[.int .u16 p1, .int .u16 p1, .int .u16 p1, .int .u16 65535] 38) := ⟨_, rfl⟩
  have hc12 : V2.heap[g12]? = some (.cells #[.int .u16 p1, .int .u16 p1, .int .u16 p1, .int .u16 65535] 38 (0, 0)) := by rw [hV2, hg12]; exact heap_new _ _
  have hs2 : W2.heap.size + 1 = V2.heap.size := by rw [hV2, World.size_alloc]
  have hF2 : Fr No W2 V2 := by rw [hV2]; exact (Fr.refl _ _).alloc _
  rw [← hV2, hs2, ← hg12]
  have HV2 := hid (And.intro hc12 hF2)
  clear hV2 hg12 hc12 hs2 hF2
  clear a0 a1 a2 a3 a4 a5 a6 a7 a8
  refine (of_calls (rOne 1) _ [(M : Int)] 1 1 _ (rOne_ok _ _) rfl (rd_new II V2 [(M : Int)] _ _ rfl) (by decide)).mono ?_
  rw [HO.out.2.1.1, HO.out.2.1.2]
  rintro e W3 ⟨rfl, hf3⟩
  have hF3 := HV2.out.2.then (((Fr.refl No V2).alloc _).then hf3)
  have hr3 := blkc H2.out.1 hF3
  have H3 := hid (And.intro hr3 (And.intro (H2.out.2.then hF3) (blkc HV2.out.1 (((Fr.refl No V2).alloc _).then hf3))))
  have al2 : ∀ i v, W3.cell? ⟨g1, i, none⟩ = some v → ∀ o, (W3.alloc o).cell? ⟨g1, i, none⟩ = some v := fun i v h o => (((Fr.refl No W3).alloc o).cell (lt_of_cell h) (fun h => h)).trans h
  obtain ⟨q0, q1, q2, q3, q4, q5, q6, q7, q8⟩ := blk9 hr3
  have a0 := al2 _ _ q0
  have a1 := al2 _ _ q1
  have a2 := al2 _ _ q2
  have a3 := al2 _ _ q3
  have a4 := al2 _ _ q4
  have a5 := al2 _ _ q5
  have a6 := al2 _ _ q6
  have a7 := al2 _ _ q7
  have a8 := al2 _ _ q8
  clear al2 q0 q1 q2 q3 q4 q5 q6 q7 q8
  clear hr3 hf3 hF3
  go_wp2_with fail
  rw [← rOne_v]
  obtain ⟨g14, hg14⟩ : ∃ g, g = W3.heap.size := ⟨_, rfl⟩
  obtain ⟨V3, hV3⟩ : ∃ V, V = W3.alloc (.cells #[.int .u16 p2, .int .u16 p2, .int .u16 p2, .int .u16 65535] 38) := ⟨_, rfl⟩
  have hc14 : V3.heap[g14]? = some (.cells #[.int .u16 p2, .int .u16 p2, .int .u16 p2, .int .u16 65535] 38 (0, 0)) := by rw [hV3, hg14]; exact heap_new _ _
  have hs3 : W3.heap.size + 1 = V3.heap.size := by rw [hV3, World.size_alloc]
  have hF3 : Fr No W3 V3 := by rw [hV3]; exact (Fr.refl _ _).alloc _
  rw [← hV3, hs3, ← hg14]
  have HV3 := hid (And.intro hc14 hF3)
  clear hV3 hg14 hc14 hs3 hF3
  clear a0 a1 a2 a3 a4 a5 a6 a7 a8
  refine (of_calls (rOne 1) _ [0] 1 1 _ (rOne_ok _ _) rfl (rd_new II V3 [0] _ _ rfl) (by decide)).mono ?_
  rw [HO.out.2.2.1.1, HO.out.2.2.1.2]
  rintro e W4 ⟨rfl, hf4⟩
  have hG4 := ((Fr.refl No V3).alloc _).then hf4
  have hF4 := HV3.out.2.then hG4
  have hr4 := blkc H3.out.1 hF4
  have H4 := hid (And.intro hr4 (And.intro (H3.out.2.1.then hF4) (And.intro (blkc H3.out.2.2 hF4) (blkc HV3.out.1 hG4))))
  have al2 : ∀ i v, W4.cell? ⟨g1, i, none⟩ = some v → ∀ o, (W4.alloc o).cell? ⟨g1, i, none⟩ = some v := fun i v h o => (((Fr.refl No W4).alloc o).cell (lt_of_cell h) (fun h => h)).trans h
  obtain ⟨q0, q1, q2, q3, q4, q5, q6, q7, q8⟩ := blk9 hr4
  have a0 := al2 _ _ q0
  have a1 := al2 _ _ q1
  have a2 := al2 _ _ q2
  have a3 := al2 _ _ q3
  have a4 := al2 _ _ q4
  have a5 := al2 _ _ q5
  have a6 := al2 _ _ q6
  have a7 := al2 _ _ q7
  have a8 := al2 _ _ q8
  clear al2 q0 q1 q2 q3 q4 q5 q6 q7 q8
  clear hr4 hf4 hF4 hG4
  go_wp2_with fail
  rw [← rOne_v]
  obtain ⟨g16, hg16⟩ : ∃ g, g = W4.heap.size := ⟨_, rfl⟩
  obtain ⟨V4, hV4⟩ : ∃ V, V = W4.alloc (.cells #[.int .u16 0, .int .u16 0, .int .u16 0, .int .u16 65535] 38) := ⟨_, rfl⟩
  have hc16 : V4.heap[g16]? = some (.cells #[.int .u16 0, .int .u16 0, .int .u16 0, .int .u16 65535] 38 (0, 0)) := by rw [hV4, hg16]; exact heap_new _ _
  have hs4 : W4.heap.size + 1 = V4.heap.size := by rw [hV4, World.size_alloc]
  have hF4 : Fr No W4 V4 := by rw [hV4]; exact (Fr.refl _ _).alloc _
  rw [← hV4, hs4, ← hg16]
  have HV4 := hid (And.intro hc16 hF4)
  clear hV4 hg16 hc16 hs4 hF4
  clear a0 a1 a2 a3 a4 a5 a6 a7 a8
  refine (of_calls (rOne 1) _ [1] 1 1 _ (rOne_ok _ _) rfl (rd_new II V4 [1] _ _ rfl) (by decide)).mono ?_
  rw [HO.out.2.2.2.1, HO.out.2.2.2.2]
  rintro e W5 ⟨rfl, hf5⟩
  have hG5 := ((Fr.refl No V4).alloc _).then hf5
  have hF5 := HV4.out.2.then hG5
  have HF := hid (H4.out.2.1.then hF5)
  have al5 : ∀ g (cs : Array Value) t, W5.heap[g]? = some (Obj.cells cs t (0, 0)) → ∀ o, (W5.alloc o).heap[g]? = some (Obj.cells cs t (0, 0)) := fun g cs t h o => blkc h ((Fr.refl No W5).alloc o)
  have d1 := fun o => (blk4c (al5 _ _ _ (blkc H4.out.2.2.1 hF5) o)).1.1
  have d2 := fun o => (blk4c (al5 _ _ _ (blkc H4.out.2.2.2 hF5) o)).1.1
  have d3 := fun o => (blk4c (al5 _ _ _ (blkc HV4.out.1 hG5) o)).1.1
  clear hf5 hG5 hF5 al5
  go_wp2_with fail
  go_ret
  exact ⟨rfl, HF.out.alloc _⟩
set_option maxRecDepth 100000 in
set_option maxHeartbeats 3200000 in
theorem rises_1 (dep a b : Nat) (hd : dep < 256) (hk : (dep : Int) % 5 = 1) (ha : a < 65536) (hb : b < 65536) (w : World) : Calls Try.prog 5 #[.int .u8 dep, .int .u16 a, .int .u16 b] w fun e w' => e = .returned (.bool true) ∧ Fr No w w' := by
  obtain ⟨x, hx⟩ : ∃ x, x = a % 2 ^ 2 := ⟨_, rfl⟩
  obtain ⟨y, hy⟩ : ∃ x, x = b % 2 ^ 2 := ⟨_, rfl⟩
  obtain ⟨m, hm⟩ : ∃ m, m = min x y := ⟨_, rfl⟩
  obtain ⟨M, hM⟩ : ∃ m, m = max x y := ⟨_, rfl⟩
  have hxb : x ≤ 3 := by have := Nat.mod_lt a (show 0 < 2 ^ 2 by decide); omega
  have hyb : y ≤ 3 := by have := Nat.mod_lt b (show 0 < 2 ^ 2 by decide); omega
  have hmb : m ≤ 3 := by omega
  have hMb : M ≤ 3 := by omega
  have hax : bits .and .i64 (a : Int) 3 = (x : Int) := by rw [hx]; exact and_lit (F := 3) (by decide) ha (by decide)
  have hay : bits .and .i64 (b : Int) 3 = (y : Int) := by rw [hy]; exact and_lit (F := 3) (by decide) hb (by decide)
  have hmm : mn (x : Int) (y : Int) = (m : Int) := by rw [mn_nat, hm]
  have hMM : mx (x : Int) (y : Int) = (M : Int) := by rw [mx_nat, hM]
  obtain ⟨r1, r2⟩ := rises_eq hm hM (show 1 ≤ stepN 2 by decide)
  have o1 := rises_of (dn := 2) (x := m) (by decide) hmb
  have o2 := rises_of (dn := 2) (x := M) (by decide) hMb
  have o3 : ofE (rOne 2) [0] = 0 ∧ (ofC (rOne 2) [0]).v = .agg #[.int .u16 0, .int .u16 0, .int .u16 0, .int .u16 65535] := (rises_of (dn := 2) (x := 0) (by decide) (by decide)).imp id (fun h => h.trans (by rw [show 0 * stepN 2 = 0 by decide]; rfl))
  have o4 : ofE (rOne 2) [3] = 0 ∧ (ofC (rOne 2) [3]).v = .agg #[.int .u16 65535, .int .u16 65535, .int .u16 65535, .int .u16 65535] := (rises_of (dn := 2) (x := 3) (by decide) (by decide)).imp id (fun h => h.trans (by rw [show 3 * stepN 2 = 65535 by decide]; rfl))
  obtain ⟨p1, hp1⟩ : ∃ p, p = m * stepN 2 := ⟨_, rfl⟩
  obtain ⟨p2, hp2⟩ : ∃ p, p = M * stepN 2 := ⟨_, rfl⟩
  rw [← hp1] at o1
  rw [← hp2] at o2
  replace o1 : ofE (rOne 2) [(m : Int)] = 0 ∧ (ofC (rOne 2) [(m : Int)]).v = .agg #[.int .u16 p1, .int .u16 p1, .int .u16 p1, .int .u16 65535] := o1
  replace o2 : ofE (rOne 2) [(M : Int)] = 0 ∧ (ofC (rOne 2) [(M : Int)]).v = .agg #[.int .u16 p2, .int .u16 p2, .int .u16 p2, .int .u16 65535] := o2
  rw [← hp1, ← hp2] at r1 r2
  have r1' : (p1 : Int) ≤ (p2 : Int) := by omega
  have HO := hid (And.intro o1 (And.intro o2 (And.intro o3 o4)))
  clear o1 o2 o3 o4 hp1 hp2 hx hy hm hM
  go_enter Try.func5, Try.ntmps5
  go_wp2_with fail
  refine (fixed15_calls _).mono ?_
  rintro e w1 ⟨rfl, hf1⟩
  go_wp2_with fail
  obtain ⟨g1, hg1⟩ : ∃ g, g = w1.heap.size + 1 := ⟨_, rfl⟩
  obtain ⟨V1, hV1⟩ : ∃ V, V = (w1.alloc (.cells #[.int .i64 1, .int .i64 2, .int .i64 4, .int .i64 8, .int .i64 16] 3)).alloc (.cells #[.int .i64 1, .int .i64 1, .int .i64 0, .int .i64 2, .bool false, .slice none 0 0, .slice none 0 0, .slice none 0 0, .slice none 0 0] 34) := ⟨_, rfl⟩
  have hr1 : V1.heap[g1]? = some (.cells #[.int .i64 1, .int .i64 1, .int .i64 0, .int .i64 2, .bool false, .slice none 0 0, .slice none 0 0, .slice none 0 0, .slice none 0 0] 34 (0, 0)) := by
    have := heap_new (w1.alloc (.cells #[.int .i64 1, .int .i64 2, .int .i64 4, .int .i64 8, .int .i64 16] 3)) (.cells #[.int .i64 1, .int .i64 1, .int .i64 0, .int .i64 2, .bool false, .slice none 0 0, .slice none 0 0, .slice none 0 0, .slice none 0 0] 34)
    rw [World.size_alloc, ← hg1] at this
    rw [hV1]; exact this
  have hs1 : g1 + 1 = V1.heap.size := by rw [hV1, hg1, World.size_alloc, World.size_alloc]
  have hF1 : Fr No w V1 := by rw [hV1]; exact (hf1.alloc _).alloc _
  rw [← hV1, ← hg1, hs1, ← rOne_v]
  have H1 := hid (And.intro hr1 hF1)
  clear hV1 hg1 hr1 hs1 hF1 hf1
  refine (of_calls (rOne 2) _ [(m : Int)] 1 1 _ (rOne_ok _ _) rfl (rd_new II V1 [(m : Int)] _ _ rfl) (by decide)).mono ?_
  rw [HO.out.1.1, HO.out.1.2]
  rintro e W2 ⟨rfl, hf2⟩
  have hr2 := blkc H1.out.1 (((Fr.refl No V1).alloc _).then hf2)
  have H2 := hid (And.intro hr2 (H1.out.2.then (((Fr.refl No V1).alloc _).then hf2)))
  have al2 : ∀ i v, W2.cell? ⟨g1, i, none⟩ = some v → ∀ o, (W2.alloc o).cell? ⟨g1, i, none⟩ = some v := fun i v h o => (((Fr.refl No W2).alloc o).cell (lt_of_cell h) (fun h => h)).trans h
  obtain ⟨q0, q1, q2, q3, q4, q5, q6, q7, q8⟩ := blk9 hr2
  have a0 := al2 _ _ q0
  have a1 := al2 _ _ q1
  have a2 := al2 _ _ q2
  have a3 := al2 _ _ q3
  have a4 := al2 _ _ q4
  have a5 := al2 _ _ q5
  have a6 := al2 _ _ q6
  have a7 := al2 _ _ q7
  have a8 := al2 _ _ q8
  clear al2 q0 q1 q2 q3 q4 q5 q6 q7 q8
  clear hr2 hf2
  go_wp2_with fail
  rw [← rOne_v]
  obtain ⟨g12, hg12⟩ : ∃ g, g = W2.heap.size := ⟨_, rfl⟩
  obtain ⟨V2, hV2⟩ : ∃ V, V = W2.alloc (.cells #[.int .u16 p1, .int .u16 p1, .int .u16 p1, .int .u16 65535] 38) := ⟨_, rfl⟩
  have hc12 : V2.heap[g12]? = some (.cells #[.int .u16 p1, .int .u16 p1, .int .u16 p1, .int .u16 65535] 38 (0, 0)) := by rw [hV2, hg12]; exact heap_new _ _
  have hs2 : W2.heap.size + 1 = V2.heap.size := by rw [hV2, World.size_alloc]
  have hF2 : Fr No W2 V2 := by rw [hV2]; exact (Fr.refl _ _).alloc _
  rw [← hV2, hs2, ← hg12]
  have HV2 := hid (And.intro hc12 hF2)
  clear hV2 hg12 hc12 hs2 hF2
  clear a0 a1 a2 a3 a4 a5 a6 a7 a8
  refine (of_calls (rOne 2) _ [(M : Int)] 1 1 _ (rOne_ok _ _) rfl (rd_new II V2 [(M : Int)] _ _ rfl) (by decide)).mono ?_
  rw [HO.out.2.1.1, HO.out.2.1.2]
  rintro e W3 ⟨rfl, hf3⟩
  have hF3 := HV2.out.2.then (((Fr.refl No V2).alloc _).then hf3)
  have hr3 := blkc H2.out.1 hF3
  have H3 := hid (And.intro hr3 (And.intro (H2.out.2.then hF3) (blkc HV2.out.1 (((Fr.refl No V2).alloc _).then hf3))))
  have al2 : ∀ i v, W3.cell? ⟨g1, i, none⟩ = some v → ∀ o, (W3.alloc o).cell? ⟨g1, i, none⟩ = some v := fun i v h o => (((Fr.refl No W3).alloc o).cell (lt_of_cell h) (fun h => h)).trans h
  obtain ⟨q0, q1, q2, q3, q4, q5, q6, q7, q8⟩ := blk9 hr3
  have a0 := al2 _ _ q0
  have a1 := al2 _ _ q1
  have a2 := al2 _ _ q2
  have a3 := al2 _ _ q3
  have a4 := al2 _ _ q4
  have a5 := al2 _ _ q5
  have a6 := al2 _ _ q6
  have a7 := al2 _ _ q7
  have a8 := al2 _ _ q8
  clear al2 q0 q1 q2 q3 q4 q5 q6 q7 q8
  clear hr3 hf3 hF3
  go_wp2_with fail
  rw [← rOne_v]
  obtain ⟨g14, hg14⟩ : ∃ g, g = W3.heap.size := ⟨_, rfl⟩
  obtain ⟨V3, hV3⟩ : ∃ V, V = W3.alloc (.cells #[.int .u16 p2, .int .u16 p2, .int .u16 p2, .int .u16 65535] 38) := ⟨_, rfl⟩
  have hc14 : V3.heap[g14]? = some (.cells #[.int .u16 p2, .int .u16 p2, .int .u16 p2, .int .u16 65535] 38 (0, 0)) := by rw [hV3, hg14]; exact heap_new _ _
  have hs3 : W3.heap.size + 1 = V3.heap.size := by rw [hV3, World.size_alloc]
  have hF3 : Fr No W3 V3 := by rw [hV3]; exact (Fr.refl _ _).alloc _
  rw [← hV3, hs3, ← hg14]
  have HV3 := hid (And.intro hc14 hF3)
  clear hV3 hg14 hc14 hs3 hF3
  clear a0 a1 a2 a3 a4 a5 a6 a7 a8
  refine (of_calls (rOne 2) _ [0] 1 1 _ (rOne_ok _ _) rfl (rd_new II V3 [0] _ _ rfl) (by decide)).mono ?_
  rw [HO.out.2.2.1.1, HO.out.2.2.1.2]
  rintro e W4 ⟨rfl, hf4⟩
  have hG4 := ((Fr.refl No V3).alloc _).then hf4
  have hF4 := HV3.out.2.then hG4
  have hr4 := blkc H3.out.1 hF4
  have H4 := hid (And.intro hr4 (And.intro (H3.out.2.1.then hF4) (And.intro (blkc H3.out.2.2 hF4) (blkc HV3.out.1 hG4))))
  have al2 : ∀ i v, W4.cell? ⟨g1, i, none⟩ = some v → ∀ o, (W4.alloc o).cell? ⟨g1, i, none⟩ = some v := fun i v h o => (((Fr.refl No W4).alloc o).cell (lt_of_cell h) (fun h => h)).trans h
  obtain ⟨q0, q1, q2, q3, q4, q5, q6, q7, q8⟩ := blk9 hr4
  have a0 := al2 _ _ q0
  have a1 := al2 _ _ q1
  have a2 := al2 _ _ q2
  have a3 := al2 _ _ q3
  have a4 := al2 _ _ q4
  have a5 := al2 _ _ q5
  have a6 := al2 _ _ q6
  have a7 := al2 _ _ q7
  have a8 := al2 _ _ q8
  clear al2 q0 q1 q2 q3 q4 q5 q6 q7 q8
  clear hr4 hf4 hF4 hG4
  go_wp2_with fail
  rw [← rOne_v]
  obtain ⟨g16, hg16⟩ : ∃ g, g = W4.heap.size := ⟨_, rfl⟩
  obtain ⟨V4, hV4⟩ : ∃ V, V = W4.alloc (.cells #[.int .u16 0, .int .u16 0, .int .u16 0, .int .u16 65535] 38) := ⟨_, rfl⟩
  have hc16 : V4.heap[g16]? = some (.cells #[.int .u16 0, .int .u16 0, .int .u16 0, .int .u16 65535] 38 (0, 0)) := by rw [hV4, hg16]; exact heap_new _ _
  have hs4 : W4.heap.size + 1 = V4.heap.size := by rw [hV4, World.size_alloc]
  have hF4 : Fr No W4 V4 := by rw [hV4]; exact (Fr.refl _ _).alloc _
  rw [← hV4, hs4, ← hg16]
  have HV4 := hid (And.intro hc16 hF4)
  clear hV4 hg16 hc16 hs4 hF4
  clear a0 a1 a2 a3 a4 a5 a6 a7 a8
  refine (of_calls (rOne 2) _ [3] 1 1 _ (rOne_ok _ _) rfl (rd_new II V4 [3] _ _ rfl) (by decide)).mono ?_
  rw [HO.out.2.2.2.1, HO.out.2.2.2.2]
  rintro e W5 ⟨rfl, hf5⟩
  have hG5 := ((Fr.refl No V4).alloc _).then hf5
  have hF5 := HV4.out.2.then hG5
  have HF := hid (H4.out.2.1.then hF5)
  have al5 : ∀ g (cs : Array Value) t, W5.heap[g]? = some (Obj.cells cs t (0, 0)) → ∀ o, (W5.alloc o).heap[g]? = some (Obj.cells cs t (0, 0)) := fun g cs t h o => blkc h ((Fr.refl No W5).alloc o)
  have d1 := fun o => (blk4c (al5 _ _ _ (blkc H4.out.2.2.1 hF5) o)).1.1
  have d2 := fun o => (blk4c (al5 _ _ _ (blkc H4.out.2.2.2 hF5) o)).1.1
  have d3 := fun o => (blk4c (al5 _ _ _ (blkc HV4.out.1 hG5) o)).1.1
  clear hf5 hG5 hF5 al5
  go_wp2_with fail
  go_ret
  exact ⟨rfl, HF.out.alloc _⟩
set_option maxRecDepth 100000 in
set_option maxHeartbeats 3200000 in
theorem rises_2 (dep a b : Nat) (hd : dep < 256) (hk : (dep : Int) % 5 = 2) (ha : a < 65536) (hb : b < 65536) (w : World) : Calls Try.prog 5 #[.int .u8 dep, .int .u16 a, .int .u16 b] w fun e w' => e = .returned (.bool true) ∧ Fr No w w' := by
  obtain ⟨x, hx⟩ : ∃ x, x = a % 2 ^ 4 := ⟨_, rfl⟩
  obtain ⟨y, hy⟩ : ∃ x, x = b % 2 ^ 4 := ⟨_, rfl⟩
  obtain ⟨m, hm⟩ : ∃ m, m = min x y := ⟨_, rfl⟩
  obtain ⟨M, hM⟩ : ∃ m, m = max x y := ⟨_, rfl⟩
  have hxb : x ≤ 15 := by have := Nat.mod_lt a (show 0 < 2 ^ 4 by decide); omega
  have hyb : y ≤ 15 := by have := Nat.mod_lt b (show 0 < 2 ^ 4 by decide); omega
  have hmb : m ≤ 15 := by omega
  have hMb : M ≤ 15 := by omega
  have hax : bits .and .i64 (a : Int) 15 = (x : Int) := by rw [hx]; exact and_lit (F := 15) (by decide) ha (by decide)
  have hay : bits .and .i64 (b : Int) 15 = (y : Int) := by rw [hy]; exact and_lit (F := 15) (by decide) hb (by decide)
  have hmm : mn (x : Int) (y : Int) = (m : Int) := by rw [mn_nat, hm]
  have hMM : mx (x : Int) (y : Int) = (M : Int) := by rw [mx_nat, hM]
  obtain ⟨r1, r2⟩ := rises_eq hm hM (show 1 ≤ stepN 4 by decide)
  have o1 := rises_of (dn := 4) (x := m) (by decide) hmb
  have o2 := rises_of (dn := 4) (x := M) (by decide) hMb
  have o3 : ofE (rOne 4) [0] = 0 ∧ (ofC (rOne 4) [0]).v = .agg #[.int .u16 0, .int .u16 0, .int .u16 0, .int .u16 65535] := (rises_of (dn := 4) (x := 0) (by decide) (by decide)).imp id (fun h => h.trans (by rw [show 0 * stepN 4 = 0 by decide]; rfl))
  have o4 : ofE (rOne 4) [15] = 0 ∧ (ofC (rOne 4) [15]).v = .agg #[.int .u16 65535, .int .u16 65535, .int .u16 65535, .int .u16 65535] := (rises_of (dn := 4) (x := 15) (by decide) (by decide)).imp id (fun h => h.trans (by rw [show 15 * stepN 4 = 65535 by decide]; rfl))
  obtain ⟨p1, hp1⟩ : ∃ p, p = m * stepN 4 := ⟨_, rfl⟩
  obtain ⟨p2, hp2⟩ : ∃ p, p = M * stepN 4 := ⟨_, rfl⟩
  rw [← hp1] at o1
  rw [← hp2] at o2
  replace o1 : ofE (rOne 4) [(m : Int)] = 0 ∧ (ofC (rOne 4) [(m : Int)]).v = .agg #[.int .u16 p1, .int .u16 p1, .int .u16 p1, .int .u16 65535] := o1
  replace o2 : ofE (rOne 4) [(M : Int)] = 0 ∧ (ofC (rOne 4) [(M : Int)]).v = .agg #[.int .u16 p2, .int .u16 p2, .int .u16 p2, .int .u16 65535] := o2
  rw [← hp1, ← hp2] at r1 r2
  have r1' : (p1 : Int) ≤ (p2 : Int) := by omega
  have HO := hid (And.intro o1 (And.intro o2 (And.intro o3 o4)))
  clear o1 o2 o3 o4 hp1 hp2 hx hy hm hM
  go_enter Try.func5, Try.ntmps5
  go_wp2_with fail
  refine (fixed15_calls _).mono ?_
  rintro e w1 ⟨rfl, hf1⟩
  go_wp2_with fail
  obtain ⟨g1, hg1⟩ : ∃ g, g = w1.heap.size + 1 := ⟨_, rfl⟩
  obtain ⟨V1, hV1⟩ : ∃ V, V = (w1.alloc (.cells #[.int .i64 1, .int .i64 2, .int .i64 4, .int .i64 8, .int .i64 16] 3)).alloc (.cells #[.int .i64 1, .int .i64 1, .int .i64 0, .int .i64 4, .bool false, .slice none 0 0, .slice none 0 0, .slice none 0 0, .slice none 0 0] 34) := ⟨_, rfl⟩
  have hr1 : V1.heap[g1]? = some (.cells #[.int .i64 1, .int .i64 1, .int .i64 0, .int .i64 4, .bool false, .slice none 0 0, .slice none 0 0, .slice none 0 0, .slice none 0 0] 34 (0, 0)) := by
    have := heap_new (w1.alloc (.cells #[.int .i64 1, .int .i64 2, .int .i64 4, .int .i64 8, .int .i64 16] 3)) (.cells #[.int .i64 1, .int .i64 1, .int .i64 0, .int .i64 4, .bool false, .slice none 0 0, .slice none 0 0, .slice none 0 0, .slice none 0 0] 34)
    rw [World.size_alloc, ← hg1] at this
    rw [hV1]; exact this
  have hs1 : g1 + 1 = V1.heap.size := by rw [hV1, hg1, World.size_alloc, World.size_alloc]
  have hF1 : Fr No w V1 := by rw [hV1]; exact (hf1.alloc _).alloc _
  rw [← hV1, ← hg1, hs1, ← rOne_v]
  have H1 := hid (And.intro hr1 hF1)
  clear hV1 hg1 hr1 hs1 hF1 hf1
  refine (of_calls (rOne 4) _ [(m : Int)] 1 1 _ (rOne_ok _ _) rfl (rd_new II V1 [(m : Int)] _ _ rfl) (by decide)).mono ?_
  rw [HO.out.1.1, HO.out.1.2]
  rintro e W2 ⟨rfl, hf2⟩
  have hr2 := blkc H1.out.1 (((Fr.refl No V1).alloc _).then hf2)
  have H2 := hid (And.intro hr2 (H1.out.2.then (((Fr.refl No V1).alloc _).then hf2)))
  have al2 : ∀ i v, W2.cell? ⟨g1, i, none⟩ = some v → ∀ o, (W2.alloc o).cell? ⟨g1, i, none⟩ = some v := fun i v h o => (((Fr.refl No W2).alloc o).cell (lt_of_cell h) (fun h => h)).trans h
  obtain ⟨q0, q1, q2, q3, q4, q5, q6, q7, q8⟩ := blk9 hr2
  have a0 := al2 _ _ q0
  have a1 := al2 _ _ q1
  have a2 := al2 _ _ q2
  have a3 := al2 _ _ q3
  have a4 := al2 _ _ q4
  have a5 := al2 _ _ q5
  have a6 := al2 _ _ q6
  have a7 := al2 _ _ q7
  have a8 := al2 _ _ q8
  clear al2 q0 q1 q2 q3 q4 q5 q6 q7 q8
  clear hr2 hf2
  go_wp2_with fail
  rw [← rOne_v]
  obtain ⟨g12, hg12⟩ : ∃ g, g = W2.heap.size := ⟨_, rfl⟩
  obtain ⟨V2, hV2⟩ : ∃ V, V = W2.alloc (.cells #[.int .u16 p1, .int .u16 p1, .int .u16 p1, .int .u16 65535] 38) := ⟨_, rfl⟩
  have hc12 : V2.heap[g12]? = some (.cells #[.int .u16 p1, .int .u16 p1, .int .u16 p1, .int .u16 65535] 38 (0, 0)) := by rw [hV2, hg12]; exact heap_new _ _
  have hs2 : W2.heap.size + 1 = V2.heap.size := by rw [hV2, World.size_alloc]
  have hF2 : Fr No W2 V2 := by rw [hV2]; exact (Fr.refl _ _).alloc _
  rw [← hV2, hs2, ← hg12]
  have HV2 := hid (And.intro hc12 hF2)
  clear hV2 hg12 hc12 hs2 hF2
  clear a0 a1 a2 a3 a4 a5 a6 a7 a8
  refine (of_calls (rOne 4) _ [(M : Int)] 1 1 _ (rOne_ok _ _) rfl (rd_new II V2 [(M : Int)] _ _ rfl) (by decide)).mono ?_
  rw [HO.out.2.1.1, HO.out.2.1.2]
  rintro e W3 ⟨rfl, hf3⟩
  have hF3 := HV2.out.2.then (((Fr.refl No V2).alloc _).then hf3)
  have hr3 := blkc H2.out.1 hF3
  have H3 := hid (And.intro hr3 (And.intro (H2.out.2.then hF3) (blkc HV2.out.1 (((Fr.refl No V2).alloc _).then hf3))))
  have al2 : ∀ i v, W3.cell? ⟨g1, i, none⟩ = some v → ∀ o, (W3.alloc o).cell? ⟨g1, i, none⟩ = some v := fun i v h o => (((Fr.refl No W3).alloc o).cell (lt_of_cell h) (fun h => h)).trans h
  obtain ⟨q0, q1, q2, q3, q4, q5, q6, q7, q8⟩ := blk9 hr3
  have a0 := al2 _ _ q0
  have a1 := al2 _ _ q1
  have a2 := al2 _ _ q2
  have a3 := al2 _ _ q3
  have a4 := al2 _ _ q4
  have a5 := al2 _ _ q5
  have a6 := al2 _ _ q6
  have a7 := al2 _ _ q7
  have a8 := al2 _ _ q8
  clear al2 q0 q1 q2 q3 q4 q5 q6 q7 q8
  clear hr3 hf3 hF3
  go_wp2_with fail
  rw [← rOne_v]
  obtain ⟨g14, hg14⟩ : ∃ g, g = W3.heap.size := ⟨_, rfl⟩
  obtain ⟨V3, hV3⟩ : ∃ V, V = W3.alloc (.cells #[.int .u16 p2, .int .u16 p2, .int .u16 p2, .int .u16 65535] 38) := ⟨_, rfl⟩
  have hc14 : V3.heap[g14]? = some (.cells #[.int .u16 p2, .int .u16 p2, .int .u16 p2, .int .u16 65535] 38 (0, 0)) := by rw [hV3, hg14]; exact heap_new _ _
  have hs3 : W3.heap.size + 1 = V3.heap.size := by rw [hV3, World.size_alloc]
  have hF3 : Fr No W3 V3 := by rw [hV3]; exact (Fr.refl _ _).alloc _
  rw [← hV3, hs3, ← hg14]
  have HV3 := hid (And.intro hc14 hF3)
  clear hV3 hg14 hc14 hs3 hF3
  clear a0 a1 a2 a3 a4 a5 a6 a7 a8
  refine (of_calls (rOne 4) _ [0] 1 1 _ (rOne_ok _ _) rfl (rd_new II V3 [0] _ _ rfl) (by decide)).mono ?_
  rw [HO.out.2.2.1.1, HO.out.2.2.1.2]
  rintro e W4 ⟨rfl, hf4⟩
  have hG4 := ((Fr.refl No V3).alloc _).then hf4
  have hF4 := HV3.out.2.then hG4
  have hr4 := blkc H3.out.1 hF4
  have H4 := hid (And.intro hr4 (And.intro (H3.out.2.1.then hF4) (And.intro (blkc H3.out.2.2 hF4) (blkc HV3.out.1 hG4))))
  have al2 : ∀ i v, W4.cell? ⟨g1, i, none⟩ = some v → ∀ o, (W4.alloc o).cell? ⟨g1, i, none⟩ = some v := fun i v h o => (((Fr.refl No W4).alloc o).cell (lt_of_cell h) (fun h => h)).trans h
  obtain ⟨q0, q1, q2, q3, q4, q5, q6, q7, q8⟩ := blk9 hr4
  have a0 := al2 _ _ q0
  have a1 := al2 _ _ q1
  have a2 := al2 _ _ q2
  have a3 := al2 _ _ q3
  have a4 := al2 _ _ q4
  have a5 := al2 _ _ q5
  have a6 := al2 _ _ q6
  have a7 := al2 _ _ q7
  have a8 := al2 _ _ q8
  clear al2 q0 q1 q2 q3 q4 q5 q6 q7 q8
  clear hr4 hf4 hF4 hG4
  go_wp2_with fail
  rw [← rOne_v]
  obtain ⟨g16, hg16⟩ : ∃ g, g = W4.heap.size := ⟨_, rfl⟩
  obtain ⟨V4, hV4⟩ : ∃ V, V = W4.alloc (.cells #[.int .u16 0, .int .u16 0, .int .u16 0, .int .u16 65535] 38) := ⟨_, rfl⟩
  have hc16 : V4.heap[g16]? = some (.cells #[.int .u16 0, .int .u16 0, .int .u16 0, .int .u16 65535] 38 (0, 0)) := by rw [hV4, hg16]; exact heap_new _ _
  have hs4 : W4.heap.size + 1 = V4.heap.size := by rw [hV4, World.size_alloc]
  have hF4 : Fr No W4 V4 := by rw [hV4]; exact (Fr.refl _ _).alloc _
  rw [← hV4, hs4, ← hg16]
  have HV4 := hid (And.intro hc16 hF4)
  clear hV4 hg16 hc16 hs4 hF4
  clear a0 a1 a2 a3 a4 a5 a6 a7 a8
  refine (of_calls (rOne 4) _ [15] 1 1 _ (rOne_ok _ _) rfl (rd_new II V4 [15] _ _ rfl) (by decide)).mono ?_
  rw [HO.out.2.2.2.1, HO.out.2.2.2.2]
  rintro e W5 ⟨rfl, hf5⟩
  have hG5 := ((Fr.refl No V4).alloc _).then hf5
  have hF5 := HV4.out.2.then hG5
  have HF := hid (H4.out.2.1.then hF5)
  have al5 : ∀ g (cs : Array Value) t, W5.heap[g]? = some (Obj.cells cs t (0, 0)) → ∀ o, (W5.alloc o).heap[g]? = some (Obj.cells cs t (0, 0)) := fun g cs t h o => blkc h ((Fr.refl No W5).alloc o)
  have d1 := fun o => (blk4c (al5 _ _ _ (blkc H4.out.2.2.1 hF5) o)).1.1
  have d2 := fun o => (blk4c (al5 _ _ _ (blkc H4.out.2.2.2 hF5) o)).1.1
  have d3 := fun o => (blk4c (al5 _ _ _ (blkc HV4.out.1 hG5) o)).1.1
  clear hf5 hG5 hF5 al5
  go_wp2_with fail
  go_ret
  exact ⟨rfl, HF.out.alloc _⟩
set_option maxRecDepth 100000 in
set_option maxHeartbeats 3200000 in
theorem rises_3 (dep a b : Nat) (hd : dep < 256) (hk : (dep : Int) % 5 = 3) (ha : a < 65536) (hb : b < 65536) (w : World) : Calls Try.prog 5 #[.int .u8 dep, .int .u16 a, .int .u16 b] w fun e w' => e = .returned (.bool true) ∧ Fr No w w' := by
  obtain ⟨x, hx⟩ : ∃ x, x = a % 2 ^ 8 := ⟨_, rfl⟩
  obtain ⟨y, hy⟩ : ∃ x, x = b % 2 ^ 8 := ⟨_, rfl⟩
  obtain ⟨m, hm⟩ : ∃ m, m = min x y := ⟨_, rfl⟩
  obtain ⟨M, hM⟩ : ∃ m, m = max x y := ⟨_, rfl⟩
  have hxb : x ≤ 255 := by have := Nat.mod_lt a (show 0 < 2 ^ 8 by decide); omega
  have hyb : y ≤ 255 := by have := Nat.mod_lt b (show 0 < 2 ^ 8 by decide); omega
  have hmb : m ≤ 255 := by omega
  have hMb : M ≤ 255 := by omega
  have hax : bits .and .i64 (a : Int) 255 = (x : Int) := by rw [hx]; exact and_lit (F := 255) (by decide) ha (by decide)
  have hay : bits .and .i64 (b : Int) 255 = (y : Int) := by rw [hy]; exact and_lit (F := 255) (by decide) hb (by decide)
  have hmm : mn (x : Int) (y : Int) = (m : Int) := by rw [mn_nat, hm]
  have hMM : mx (x : Int) (y : Int) = (M : Int) := by rw [mx_nat, hM]
  obtain ⟨r1, r2⟩ := rises_eq hm hM (show 1 ≤ stepN 8 by decide)
  have o1 := rises_of (dn := 8) (x := m) (by decide) hmb
  have o2 := rises_of (dn := 8) (x := M) (by decide) hMb
  have o3 : ofE (rOne 8) [0] = 0 ∧ (ofC (rOne 8) [0]).v = .agg #[.int .u16 0, .int .u16 0, .int .u16 0, .int .u16 65535] := (rises_of (dn := 8) (x := 0) (by decide) (by decide)).imp id (fun h => h.trans (by rw [show 0 * stepN 8 = 0 by decide]; rfl))
  have o4 : ofE (rOne 8) [255] = 0 ∧ (ofC (rOne 8) [255]).v = .agg #[.int .u16 65535, .int .u16 65535, .int .u16 65535, .int .u16 65535] := (rises_of (dn := 8) (x := 255) (by decide) (by decide)).imp id (fun h => h.trans (by rw [show 255 * stepN 8 = 65535 by decide]; rfl))
  obtain ⟨p1, hp1⟩ : ∃ p, p = m * stepN 8 := ⟨_, rfl⟩
  obtain ⟨p2, hp2⟩ : ∃ p, p = M * stepN 8 := ⟨_, rfl⟩
  rw [← hp1] at o1
  rw [← hp2] at o2
  replace o1 : ofE (rOne 8) [(m : Int)] = 0 ∧ (ofC (rOne 8) [(m : Int)]).v = .agg #[.int .u16 p1, .int .u16 p1, .int .u16 p1, .int .u16 65535] := o1
  replace o2 : ofE (rOne 8) [(M : Int)] = 0 ∧ (ofC (rOne 8) [(M : Int)]).v = .agg #[.int .u16 p2, .int .u16 p2, .int .u16 p2, .int .u16 65535] := o2
  rw [← hp1, ← hp2] at r1 r2
  have r1' : (p1 : Int) ≤ (p2 : Int) := by omega
  have HO := hid (And.intro o1 (And.intro o2 (And.intro o3 o4)))
  clear o1 o2 o3 o4 hp1 hp2 hx hy hm hM
  go_enter Try.func5, Try.ntmps5
  go_wp2_with fail
  refine (fixed15_calls _).mono ?_
  rintro e w1 ⟨rfl, hf1⟩
  go_wp2_with fail
  obtain ⟨g1, hg1⟩ : ∃ g, g = w1.heap.size + 1 := ⟨_, rfl⟩
  obtain ⟨V1, hV1⟩ : ∃ V, V = (w1.alloc (.cells #[.int .i64 1, .int .i64 2, .int .i64 4, .int .i64 8, .int .i64 16] 3)).alloc (.cells #[.int .i64 1, .int .i64 1, .int .i64 0, .int .i64 8, .bool false, .slice none 0 0, .slice none 0 0, .slice none 0 0, .slice none 0 0] 34) := ⟨_, rfl⟩
  have hr1 : V1.heap[g1]? = some (.cells #[.int .i64 1, .int .i64 1, .int .i64 0, .int .i64 8, .bool false, .slice none 0 0, .slice none 0 0, .slice none 0 0, .slice none 0 0] 34 (0, 0)) := by
    have := heap_new (w1.alloc (.cells #[.int .i64 1, .int .i64 2, .int .i64 4, .int .i64 8, .int .i64 16] 3)) (.cells #[.int .i64 1, .int .i64 1, .int .i64 0, .int .i64 8, .bool false, .slice none 0 0, .slice none 0 0, .slice none 0 0, .slice none 0 0] 34)
    rw [World.size_alloc, ← hg1] at this
    rw [hV1]; exact this
  have hs1 : g1 + 1 = V1.heap.size := by rw [hV1, hg1, World.size_alloc, World.size_alloc]
  have hF1 : Fr No w V1 := by rw [hV1]; exact (hf1.alloc _).alloc _
  rw [← hV1, ← hg1, hs1, ← rOne_v]
  have H1 := hid (And.intro hr1 hF1)
  clear hV1 hg1 hr1 hs1 hF1 hf1
  refine (of_calls (rOne 8) _ [(m : Int)] 1 1 _ (rOne_ok _ _) rfl (rd_new II V1 [(m : Int)] _ _ rfl) (by decide)).mono ?_
  rw [HO.out.1.1, HO.out.1.2]
  rintro e W2 ⟨rfl, hf2⟩
  have hr2 := blkc H1.out.1 (((Fr.refl No V1).alloc _).then hf2)
  have H2 := hid (And.intro hr2 (H1.out.2.then (((Fr.refl No V1).alloc _).then hf2)))
  have al2 : ∀ i v, W2.cell? ⟨g1, i, none⟩ = some v → ∀ o, (W2.alloc o).cell? ⟨g1, i, none⟩ = some v := fun i v h o => (((Fr.refl No W2).alloc o).cell (lt_of_cell h) (fun h => h)).trans h
  obtain ⟨q0, q1, q2, q3, q4, q5, q6, q7, q8⟩ := blk9 hr2
  have a0 := al2 _ _ q0
  have a1 := al2 _ _ q1
  have a2 := al2 _ _ q2
  have a3 := al2 _ _ q3
  have a4 := al2 _ _ q4
  have a5 := al2 _ _ q5
  have a6 := al2 _ _ q6
  have a7 := al2 _ _ q7
  have a8 := al2 _ _ q8
  clear al2 q0 q1 q2 q3 q4 q5 q6 q7 q8
  clear hr2 hf2
  go_wp2_with fail
  rw [← rOne_v]
  obtain ⟨g12, hg12⟩ : ∃ g, g = W2.heap.size := ⟨_, rfl⟩
  obtain ⟨V2, hV2⟩ : ∃ V, V = W2.alloc (.cells #[.int .u16 p1, .int .u16 p1, .int .u16 p1, .int .u16 65535] 38) := ⟨_, rfl⟩
  have hc12 : V2.heap[g12]? = some (.cells #[.int .u16 p1, .int .u16 p1, .int .u16 p1, .int .u16 65535] 38 (0, 0)) := by rw [hV2, hg12]; exact heap_new _ _
  have hs2 : W2.heap.size + 1 = V2.heap.size := by rw [hV2, World.size_alloc]
  have hF2 : Fr No W2 V2 := by rw [hV2]; exact (Fr.refl _ _).alloc _
  rw [← hV2, hs2, ← hg12]
  have HV2 := hid (And.intro hc12 hF2)
  clear hV2 hg12 hc12 hs2 hF2
  clear a0 a1 a2 a3 a4 a5 a6 a7 a8
  refine (of_calls (rOne 8) _ [(M : Int)] 1 1 _ (rOne_ok _ _) rfl (rd_new II V2 [(M : Int)] _ _ rfl) (by decide)).mono ?_
  rw [HO.out.2.1.1, HO.out.2.1.2]
  rintro e W3 ⟨rfl, hf3⟩
  have hF3 := HV2.out.2.then (((Fr.refl No V2).alloc _).then hf3)
  have hr3 := blkc H2.out.1 hF3
  have H3 := hid (And.intro hr3 (And.intro (H2.out.2.then hF3) (blkc HV2.out.1 (((Fr.refl No V2).alloc _).then hf3))))
  have al2 : ∀ i v, W3.cell? ⟨g1, i, none⟩ = some v → ∀ o, (W3.alloc o).cell? ⟨g1, i, none⟩ = some v := fun i v h o => (((Fr.refl No W3).alloc o).cell (lt_of_cell h) (fun h => h)).trans h
  obtain ⟨q0, q1, q2, q3, q4, q5, q6, q7, q8⟩ := blk9 hr3
  have a0 := al2 _ _ q0
  have a1 := al2 _ _ q1
  have a2 := al2 _ _ q2
  have a3 := al2 _ _ q3
  have a4 := al2 _ _ q4
  have a5 := al2 _ _ q5
  have a6 := al2 _ _ q6
  have a7 := al2 _ _ q7
  have a8 := al2 _ _ q8
  clear al2 q0 q1 q2 q3 q4 q5 q6 q7 q8
  clear hr3 hf3 hF3
  go_wp2_with fail
  rw [← rOne_v]
  obtain ⟨g14, hg14⟩ : ∃ g, g = W3.heap.size := ⟨_, rfl⟩
  obtain ⟨V3, hV3⟩ : ∃ V, V = W3.alloc (.cells #[.int .u16 p2, .int .u16 p2, .int .u16 p2, .int .u16 65535] 38) := ⟨_, rfl⟩
  have hc14 : V3.heap[g14]? = some (.cells #[.int .u16 p2, .int .u16 p2, .int .u16 p2, .int .u16 65535] 38 (0, 0)) := by rw [hV3, hg14]; exact heap_new _ _
  have hs3 : W3.heap.size + 1 = V3.heap.size := by rw [hV3, World.size_alloc]
  have hF3 : Fr No W3 V3 := by rw [hV3]; exact (Fr.refl _ _).alloc _
  rw [← hV3, hs3, ← hg14]
  have HV3 := hid (And.intro hc14 hF3)
  clear hV3 hg14 hc14 hs3 hF3
  clear a0 a1 a2 a3 a4 a5 a6 a7 a8
  refine (of_calls (rOne 8) _ [0] 1 1 _ (rOne_ok _ _) rfl (rd_new II V3 [0] _ _ rfl) (by decide)).mono ?_
  rw [HO.out.2.2.1.1, HO.out.2.2.1.2]
  rintro e W4 ⟨rfl, hf4⟩
  have hG4 := ((Fr.refl No V3).alloc _).then hf4
  have hF4 := HV3.out.2.then hG4
  have hr4 := blkc H3.out.1 hF4
  have H4 := hid (And.intro hr4 (And.intro (H3.out.2.1.then hF4) (And.intro (blkc H3.out.2.2 hF4) (blkc HV3.out.1 hG4))))
  have al2 : ∀ i v, W4.cell? ⟨g1, i, none⟩ = some v → ∀ o, (W4.alloc o).cell? ⟨g1, i, none⟩ = some v := fun i v h o => (((Fr.refl No W4).alloc o).cell (lt_of_cell h) (fun h => h)).trans h
  obtain ⟨q0, q1, q2, q3, q4, q5, q6, q7, q8⟩ := blk9 hr4
  have a0 := al2 _ _ q0
  have a1 := al2 _ _ q1
  have a2 := al2 _ _ q2
  have a3 := al2 _ _ q3
  have a4 := al2 _ _ q4
  have a5 := al2 _ _ q5
  have a6 := al2 _ _ q6
  have a7 := al2 _ _ q7
  have a8 := al2 _ _ q8
  clear al2 q0 q1 q2 q3 q4 q5 q6 q7 q8
  clear hr4 hf4 hF4 hG4
  go_wp2_with fail
  rw [← rOne_v]
  obtain ⟨g16, hg16⟩ : ∃ g, g = W4.heap.size := ⟨_, rfl⟩
  obtain ⟨V4, hV4⟩ : ∃ V, V = W4.alloc (.cells #[.int .u16 0, .int .u16 0, .int .u16 0, .int .u16 65535] 38) := ⟨_, rfl⟩
  have hc16 : V4.heap[g16]? = some (.cells #[.int .u16 0, .int .u16 0, .int .u16 0, .int .u16 65535] 38 (0, 0)) := by rw [hV4, hg16]; exact heap_new _ _
  have hs4 : W4.heap.size + 1 = V4.heap.size := by rw [hV4, World.size_alloc]
  have hF4 : Fr No W4 V4 := by rw [hV4]; exact (Fr.refl _ _).alloc _
  rw [← hV4, hs4, ← hg16]
  have HV4 := hid (And.intro hc16 hF4)
  clear hV4 hg16 hc16 hs4 hF4
  clear a0 a1 a2 a3 a4 a5 a6 a7 a8
  refine (of_calls (rOne 8) _ [255] 1 1 _ (rOne_ok _ _) rfl (rd_new II V4 [255] _ _ rfl) (by decide)).mono ?_
  rw [HO.out.2.2.2.1, HO.out.2.2.2.2]
  rintro e W5 ⟨rfl, hf5⟩
  have hG5 := ((Fr.refl No V4).alloc _).then hf5
  have hF5 := HV4.out.2.then hG5
  have HF := hid (H4.out.2.1.then hF5)
  have al5 : ∀ g (cs : Array Value) t, W5.heap[g]? = some (Obj.cells cs t (0, 0)) → ∀ o, (W5.alloc o).heap[g]? = some (Obj.cells cs t (0, 0)) := fun g cs t h o => blkc h ((Fr.refl No W5).alloc o)
  have d1 := fun o => (blk4c (al5 _ _ _ (blkc H4.out.2.2.1 hF5) o)).1.1
  have d2 := fun o => (blk4c (al5 _ _ _ (blkc H4.out.2.2.2 hF5) o)).1.1
  have d3 := fun o => (blk4c (al5 _ _ _ (blkc HV4.out.1 hG5) o)).1.1
  clear hf5 hG5 hF5 al5
  go_wp2_with fail
  go_ret
  exact ⟨rfl, HF.out.alloc _⟩
set_option maxRecDepth 100000 in
set_option maxHeartbeats 3200000 in
theorem rises_4 (dep a b : Nat) (hd : dep < 256) (hk : (dep : Int) % 5 = 4) (ha : a < 65536) (hb : b < 65536) (w : World) : Calls Try.prog 5 #[.int .u8 dep, .int .u16 a, .int .u16 b] w fun e w' => e = .returned (.bool true) ∧ Fr No w w' := by
  obtain ⟨x, hx⟩ : ∃ x, x = a % 2 ^ 16 := ⟨_, rfl⟩
  obtain ⟨y, hy⟩ : ∃ x, x = b % 2 ^ 16 := ⟨_, rfl⟩
  obtain ⟨m, hm⟩ : ∃ m, m = min x y := ⟨_, rfl⟩
  obtain ⟨M, hM⟩ : ∃ m, m = max x y := ⟨_, rfl⟩
  have hxb : x ≤ 65535 := by have := Nat.mod_lt a (show 0 < 2 ^ 16 by decide); omega
  have hyb : y ≤ 65535 := by have := Nat.mod_lt b (show 0 < 2 ^ 16 by decide); omega
  have hmb : m ≤ 65535 := by omega
  have hMb : M ≤ 65535 := by omega
  have hax : bits .and .i64 (a : Int) 65535 = (x : Int) := by rw [hx]; exact and_lit (F := 65535) (by decide) ha (by decide)
  have hay : bits .and .i64 (b : Int) 65535 = (y : Int) := by rw [hy]; exact and_lit (F := 65535) (by decide) hb (by decide)
  have hmm : mn (x : Int) (y : Int) = (m : Int) := by rw [mn_nat, hm]
  have hMM : mx (x : Int) (y : Int) = (M : Int) := by rw [mx_nat, hM]
  obtain ⟨r1, r2⟩ := rises_eq hm hM (show 1 ≤ stepN 16 by decide)
  have o1 := rises_of (dn := 16) (x := m) (by decide) hmb
  have o2 := rises_of (dn := 16) (x := M) (by decide) hMb
  have o3 : ofE (rOne 16) [0] = 0 ∧ (ofC (rOne 16) [0]).v = .agg #[.int .u16 0, .int .u16 0, .int .u16 0, .int .u16 65535] := (rises_of (dn := 16) (x := 0) (by decide) (by decide)).imp id (fun h => h.trans (by rw [show 0 * stepN 16 = 0 by decide]; rfl))
  have o4 : ofE (rOne 16) [65535] = 0 ∧ (ofC (rOne 16) [65535]).v = .agg #[.int .u16 65535, .int .u16 65535, .int .u16 65535, .int .u16 65535] := (rises_of (dn := 16) (x := 65535) (by decide) (by decide)).imp id (fun h => h.trans (by rw [show 65535 * stepN 16 = 65535 by decide]; rfl))
  obtain ⟨p1, hp1⟩ : ∃ p, p = m * stepN 16 := ⟨_, rfl⟩
  obtain ⟨p2, hp2⟩ : ∃ p, p = M * stepN 16 := ⟨_, rfl⟩
  rw [← hp1] at o1
  rw [← hp2] at o2
  replace o1 : ofE (rOne 16) [(m : Int)] = 0 ∧ (ofC (rOne 16) [(m : Int)]).v = .agg #[.int .u16 p1, .int .u16 p1, .int .u16 p1, .int .u16 65535] := o1
  replace o2 : ofE (rOne 16) [(M : Int)] = 0 ∧ (ofC (rOne 16) [(M : Int)]).v = .agg #[.int .u16 p2, .int .u16 p2, .int .u16 p2, .int .u16 65535] := o2
  rw [← hp1, ← hp2] at r1 r2
  have r1' : (p1 : Int) ≤ (p2 : Int) := by omega
  have HO := hid (And.intro o1 (And.intro o2 (And.intro o3 o4)))
  clear o1 o2 o3 o4 hp1 hp2 hx hy hm hM
  go_enter Try.func5, Try.ntmps5
  go_wp2_with fail
  refine (fixed15_calls _).mono ?_
  rintro e w1 ⟨rfl, hf1⟩
  go_wp2_with fail
  obtain ⟨g1, hg1⟩ : ∃ g, g = w1.heap.size + 1 := ⟨_, rfl⟩
  obtain ⟨V1, hV1⟩ : ∃ V, V = (w1.alloc (.cells #[.int .i64 1, .int .i64 2, .int .i64 4, .int .i64 8, .int .i64 16] 3)).alloc (.cells #[.int .i64 1, .int .i64 1, .int .i64 0, .int .i64 16, .bool false, .slice none 0 0, .slice none 0 0, .slice none 0 0, .slice none 0 0] 34) := ⟨_, rfl⟩
  have hr1 : V1.heap[g1]? = some (.cells #[.int .i64 1, .int .i64 1, .int .i64 0, .int .i64 16, .bool false, .slice none 0 0, .slice none 0 0, .slice none 0 0, .slice none 0 0] 34 (0, 0)) := by
    have := heap_new (w1.alloc (.cells #[.int .i64 1, .int .i64 2, .int .i64 4, .int .i64 8, .int .i64 16] 3)) (.cells #[.int .i64 1, .int .i64 1, .int .i64 0, .int .i64 16, .bool false, .slice none 0 0, .slice none 0 0, .slice none 0 0, .slice none 0 0] 34)
    rw [World.size_alloc, ← hg1] at this
    rw [hV1]; exact this
  have hs1 : g1 + 1 = V1.heap.size := by rw [hV1, hg1, World.size_alloc, World.size_alloc]
  have hF1 : Fr No w V1 := by rw [hV1]; exact (hf1.alloc _).alloc _
  rw [← hV1, ← hg1, hs1, ← rOne_v]
  have H1 := hid (And.intro hr1 hF1)
  clear hV1 hg1 hr1 hs1 hF1 hf1
  refine (of_calls (rOne 16) _ [(m : Int)] 1 1 _ (rOne_ok _ _) rfl (rd_new II V1 [(m : Int)] _ _ rfl) (by decide)).mono ?_
  rw [HO.out.1.1, HO.out.1.2]
  rintro e W2 ⟨rfl, hf2⟩
  have hr2 := blkc H1.out.1 (((Fr.refl No V1).alloc _).then hf2)
  have H2 := hid (And.intro hr2 (H1.out.2.then (((Fr.refl No V1).alloc _).then hf2)))
  have al2 : ∀ i v, W2.cell? ⟨g1, i, none⟩ = some v → ∀ o, (W2.alloc o).cell? ⟨g1, i, none⟩ = some v := fun i v h o => (((Fr.refl No W2).alloc o).cell (lt_of_cell h) (fun h => h)).trans h
  obtain ⟨q0, q1, q2, q3, q4, q5, q6, q7, q8⟩ := blk9 hr2
  have a0 := al2 _ _ q0
  have a1 := al2 _ _ q1
  have a2 := al2 _ _ q2
  have a3 := al2 _ _ q3
  have a4 := al2 _ _ q4
  have a5 := al2 _ _ q5
  have a6 := al2 _ _ q6
  have a7 := al2 _ _ q7
  have a8 := al2 _ _ q8
  clear al2 q0 q1 q2 q3 q4 q5 q6 q7 q8
  clear hr2 hf2
  go_wp2_with fail
  rw [← rOne_v]
  obtain ⟨g12, hg12⟩ : ∃ g, g = W2.heap.size := ⟨_, rfl⟩
  obtain ⟨V2, hV2⟩ : ∃ V, V = W2.alloc (.cells #[.int .u16 p1, .int .u16 p1, .int .u16 p1, .int .u16 65535] 38) := ⟨_, rfl⟩
  have hc12 : V2.heap[g12]? = some (.cells #[.int .u16 p1, .int .u16 p1, .int .u16 p1, .int .u16 65535] 38 (0, 0)) := by rw [hV2, hg12]; exact heap_new _ _
  have hs2 : W2.heap.size + 1 = V2.heap.size := by rw [hV2, World.size_alloc]
  have hF2 : Fr No W2 V2 := by rw [hV2]; exact (Fr.refl _ _).alloc _
  rw [← hV2, hs2, ← hg12]
  have HV2 := hid (And.intro hc12 hF2)
  clear hV2 hg12 hc12 hs2 hF2
  clear a0 a1 a2 a3 a4 a5 a6 a7 a8
  refine (of_calls (rOne 16) _ [(M : Int)] 1 1 _ (rOne_ok _ _) rfl (rd_new II V2 [(M : Int)] _ _ rfl) (by decide)).mono ?_
  rw [HO.out.2.1.1, HO.out.2.1.2]
  rintro e W3 ⟨rfl, hf3⟩
  have hF3 := HV2.out.2.then (((Fr.refl No V2).alloc _).then hf3)
  have hr3 := blkc H2.out.1 hF3
  have H3 := hid (And.intro hr3 (And.intro (H2.out.2.then hF3) (blkc HV2.out.1 (((Fr.refl No V2).alloc _).then hf3))))
  have al2 : ∀ i v, W3.cell? ⟨g1, i, none⟩ = some v → ∀ o, (W3.alloc o).cell? ⟨g1, i, none⟩ = some v := fun i v h o => (((Fr.refl No W3).alloc o).cell (lt_of_cell h) (fun h => h)).trans h
  obtain ⟨q0, q1, q2, q3, q4, q5, q6, q7, q8⟩ := blk9 hr3
  have a0 := al2 _ _ q0
  have a1 := al2 _ _ q1
  have a2 := al2 _ _ q2
  have a3 := al2 _ _ q3
  have a4 := al2 _ _ q4
  have a5 := al2 _ _ q5
  have a6 := al2 _ _ q6
  have a7 := al2 _ _ q7
  have a8 := al2 _ _ q8
  clear al2 q0 q1 q2 q3 q4 q5 q6 q7 q8
  clear hr3 hf3 hF3
  go_wp2_with fail
  rw [← rOne_v]
  obtain ⟨g14, hg14⟩ : ∃ g, g = W3.heap.size := ⟨_, rfl⟩
  obtain ⟨V3, hV3⟩ : ∃ V, V = W3.alloc (.cells #[.int .u16 p2, .int .u16 p2, .int .u16 p2, .int .u16 65535] 38) := ⟨_, rfl⟩
  have hc14 : V3.heap[g14]? = some (.cells #[.int .u16 p2, .int .u16 p2, .int .u16 p2, .int .u16 65535] 38 (0, 0)) := by rw [hV3, hg14]; exact heap_new _ _
  have hs3 : W3.heap.size + 1 = V3.heap.size := by rw [hV3, World.size_alloc]
  have hF3 : Fr No W3 V3 := by rw [hV3]; exact (Fr.refl _ _).alloc _
  rw [← hV3, hs3, ← hg14]
  have HV3 := hid (And.intro hc14 hF3)
  clear hV3 hg14 hc14 hs3 hF3
  clear a0 a1 a2 a3 a4 a5 a6 a7 a8
  refine (of_calls (rOne 16) _ [0] 1 1 _ (rOne_ok _ _) rfl (rd_new II V3 [0] _ _ rfl) (by decide)).mono ?_
  rw [HO.out.2.2.1.1, HO.out.2.2.1.2]
  rintro e W4 ⟨rfl, hf4⟩
  have hG4 := ((Fr.refl No V3).alloc _).then hf4
  have hF4 := HV3.out.2.then hG4
  have hr4 := blkc H3.out.1 hF4
  have H4 := hid (And.intro hr4 (And.intro (H3.out.2.1.then hF4) (And.intro (blkc H3.out.2.2 hF4) (blkc HV3.out.1 hG4))))
  have al2 : ∀ i v, W4.cell? ⟨g1, i, none⟩ = some v → ∀ o, (W4.alloc o).cell? ⟨g1, i, none⟩ = some v := fun i v h o => (((Fr.refl No W4).alloc o).cell (lt_of_cell h) (fun h => h)).trans h
  obtain ⟨q0, q1, q2, q3, q4, q5, q6, q7, q8⟩ := blk9 hr4
  have a0 := al2 _ _ q0
  have a1 := al2 _ _ q1
  have a2 := al2 _ _ q2
  have a3 := al2 _ _ q3
  have a4 := al2 _ _ q4
  have a5 := al2 _ _ q5
  have a6 := al2 _ _ q6
  have a7 := al2 _ _ q7
  have a8 := al2 _ _ q8
  clear al2 q0 q1 q2 q3 q4 q5 q6 q7 q8
  clear hr4 hf4 hF4 hG4
  go_wp2_with fail
  rw [← rOne_v]
  obtain ⟨g16, hg16⟩ : ∃ g, g = W4.heap.size := ⟨_, rfl⟩
  obtain ⟨V4, hV4⟩ : ∃ V, V = W4.alloc (.cells #[.int .u16 0, .int .u16 0, .int .u16 0, .int .u16 65535] 38) := ⟨_, rfl⟩
  have hc16 : V4.heap[g16]? = some (.cells #[.int .u16 0, .int .u16 0, .int .u16 0, .int .u16 65535] 38 (0, 0)) := by rw [hV4, hg16]; exact heap_new _ _
  have hs4 : W4.heap.size + 1 = V4.heap.size := by rw [hV4, World.size_alloc]
  have hF4 : Fr No W4 V4 := by rw [hV4]; exact (Fr.refl _ _).alloc _
  rw [← hV4, hs4, ← hg16]
  have HV4 := hid (And.intro hc16 hF4)
  clear hV4 hg16 hc16 hs4 hF4
  clear a0 a1 a2 a3 a4 a5 a6 a7 a8
  refine (of_calls (rOne 16) _ [65535] 1 1 _ (rOne_ok _ _) rfl (rd_new II V4 [65535] _ _ rfl) (by decide)).mono ?_
  rw [HO.out.2.2.2.1, HO.out.2.2.2.2]
  rintro e W5 ⟨rfl, hf5⟩
  have hG5 := ((Fr.refl No V4).alloc _).then hf5
  have hF5 := HV4.out.2.then hG5
  have HF := hid (H4.out.2.1.then hF5)
  have al5 : ∀ g (cs : Array Value) t, W5.heap[g]? = some (Obj.cells cs t (0, 0)) → ∀ o, (W5.alloc o).heap[g]? = some (Obj.cells cs t (0, 0)) := fun g cs t h o => blkc h ((Fr.refl No W5).alloc o)
  have d1 := fun o => (blk4c (al5 _ _ _ (blkc H4.out.2.2.1 hF5) o)).1.1
  have d2 := fun o => (blk4c (al5 _ _ _ (blkc H4.out.2.2.2 hF5) o)).1.1
  have d3 := fun o => (blk4c (al5 _ _ _ (blkc HV4.out.1 hG5) o)).1.1
  clear hf5 hG5 hF5 al5
  go_wp2_with fail
  go_ret
  exact ⟨rfl, HF.out.alloc _⟩
set_option maxRecDepth 100000 in
theorem pixelRises_walk (dep a b : Int) (w : World) (hd : 0 ≤ dep ∧ dep ≤ 255) (ha : 0 ≤ a ∧ a ≤ 65535) (hb : 0 ≤ b ∧ b ≤ 65535) : Calls Try.prog 5 #[.int .u8 dep, .int .u16 a, .int .u16 b] w fun e w' => e = .returned (.bool true) ∧ Fr No w w' := by
  obtain ⟨dn, rfl⟩ : ∃ n : Nat, dep = n := ⟨dep.toNat, by omega⟩
  obtain ⟨an, rfl⟩ : ∃ n : Nat, a = n := ⟨a.toNat, by omega⟩
  obtain ⟨bn, rfl⟩ : ∃ n : Nat, b = n := ⟨b.toNat, by omega⟩
  have h : (dn : Int) % 5 = 0 ∨ (dn : Int) % 5 = 1 ∨ (dn : Int) % 5 = 2 ∨ (dn : Int) % 5 = 3 ∨ (dn : Int) % 5 = 4 := by omega
  rcases h with h | h | h | h | h
  · exact rises_0 dn an bn (by omega) h (by omega) (by omega) w
  · exact rises_1 dn an bn (by omega) h (by omega) (by omega) w
  · exact rises_2 dn an bn (by omega) h (by omega) (by omega) w
  · exact rises_3 dn an bn (by omega) h (by omega) (by omega) w
  · exact rises_4 dn an bn (by omega) h (by omega) (by omega) w
end Go.Proofs.Ytdbbkdlocmafgaa

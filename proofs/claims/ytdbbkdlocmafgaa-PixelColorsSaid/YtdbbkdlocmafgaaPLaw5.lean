/- PixelColors' walk. -/
import Derived.Test.YtdbbkdlocmafgaaPLaw4
import Derived.Test.YtdbbkdlocmafgaaROf
namespace Go.Proofs.Ytdbbkdlocmafgaa
open Go.RowKit Go.Proofs.HK
set_option linter.unusedVariables false
set_option linter.unusedSimpArgs false
attribute [local go_sem] max2_int min2_int max_two min_two

set_option maxRecDepth 100000 in
set_option maxHeartbeats 3200000 in
theorem pixelColors_w (r : RS) (A : Option Addr) (xs : List Int) (m c : Nat) (w : World) (hr : r.rd w) (hx : xs.length = m) (hxr : Rd II w A xs) : Calls Try.prog 4 #[r.v, .slice A m c] w fun e w' => e = .returned (.bool true) ∧ Fr No w w' := by
  obtain ⟨FB, hFB⟩ : ∃ b, b = fewB r := ⟨_, rfl⟩
  have hok : FB = true → r.ok w := fun h => hr.ok (by rw [← hFB]; exact h)
  have HF := hid hFB
  have HOK := hid hok
  obtain ⟨K, hK⟩ : ∃ K, K = ofE r xs := ⟨_, rfl⟩
  obtain ⟨x, y, z, u, hcv⟩ : ∃ x y z u, (ofC r xs).v = .agg #[.int .u16 x, .int .u16 y, .int .u16 z, .int .u16 u] := ⟨_, _, _, _, rfl⟩
  have HK1 := hid (And.intro hK hcv)
  have hself : (K == K) = true := by simp
  clear hFB hok hr hK hcv
  have few_c := fun w => few_calls r w
  rw [← HF.out] at few_c
  have FC := hid few_c
  have of_c : FB = true → m ≤ 5000 → ∀ w', Fr No w w' → Calls Try.prog 15 #[r.v, .slice A m c] w' fun e w'' => e = .returned (.tuple #[.agg #[.int .u16 x, .int .u16 y, .int .u16 z, .int .u16 u], .int .i64 K]) ∧ Fr No w' w'' := fun h hl w' hf => by
    have := of_calls r A xs m c w' ((HOK.out h).fr hf) hx (hxr.fr0 hf) hl
    rw [← HK1.out.1, HK1.out.2] at this; exact this
  have rof_c : FB = true → m ≤ 5000 → ∀ w', Fr No w w' → Calls Try.prog 16 #[r.v, .slice A m c] w' fun e w'' => e = .returned (.tuple #[.agg #[.int .u16 x, .int .u16 y, .int .u16 z, .int .u16 u], .int .i64 K]) ∧ Fr No w' w'' := fun h hl w' hf => by
    have := refOf_calls r A xs m c w' ((HOK.out h).fr hf) hx (hxr.fr0 hf) hl
    rw [← HK1.out.1, HK1.out.2] at this; exact this
  have CC := hid (And.intro of_c rof_c)
  clear few_c of_c rof_c HF HK1 HOK hx hxr
  obtain ⟨W, H, C, D, L, tA, ts, tc, aA, al, ac, cA, cl, cc, sA, sa, sc⟩ := r
  obtain ⟨nt, hnt⟩ : ∃ n, n = ts.length := ⟨_, rfl⟩
  obtain ⟨na, hna⟩ : ∃ n, n = al.length := ⟨_, rfl⟩
  obtain ⟨nc, hnc⟩ : ∃ n, n = cl.length := ⟨_, rfl⟩
  obtain ⟨ns, hns⟩ : ∃ n, n = sa.length := ⟨_, rfl⟩
  obtain ⟨v, hv⟩ : ∃ v, v = (RS.mk W H C D L tA ts tc aA al ac cA cl cc sA sa sc).v := ⟨_, rfl⟩
  have hv2 : v = .agg #[.int .i64 W, .int .i64 H, .int .i64 C, .int .i64 D, .bool L, .slice tA nt tc, .slice aA na ac, .slice cA nc cc, .slice sA ns sc] := by rw [hv, hnt, hna, hnc, hns]; rfl
  rw [← hv]
  rw [← hv] at FC CC
  rw [hv2]
  obtain ⟨w2, hw2⟩ : ∃ w2, w2 = w.alloc (.cells #[.int .i64 W, .int .i64 H, .int .i64 C, .int .i64 D, .bool L, .slice tA nt tc, .slice aA na ac, .slice cA nc cc, .slice sA ns sc] 34) := ⟨_, rfl⟩
  obtain ⟨g, hg⟩ : ∃ g, g = w.heap.size := ⟨_, rfl⟩
  have hf2 : Fr No w w2 := by rw [hw2]; exact (Fr.refl _ _).alloc _
  have hb9 : w2.heap[g]? = some (.cells #[.int .i64 W, .int .i64 H, .int .i64 C, .int .i64 D, .bool L, .slice tA nt tc, .slice aA na ac, .slice cA nc cc, .slice sA ns sc] 34 (0, 0)) := by rw [hw2, hg]; exact heap_new _ _
  have hcell : ∀ X, Fr No w2 X → X.heap[g]? = some (.cells #[.int .i64 W, .int .i64 H, .int .i64 C, .int .i64 D, .bool L, .slice tA nt tc, .slice aA na ac, .slice cA nc cc, .slice sA ns sc] 34 (0, 0)) := fun X hf => (hf.block g (Array.getElem?_eq_some_iff.1 hb9).1 (fun h => h)).trans hb9
  have hgs : g < w2.heap.size := (Array.getElem?_eq_some_iff.1 hb9).1
  have HC := hid hcell
  have HW := hid (And.intro hw2 (And.intro hg (And.intro hf2 hv2)))
  clear hv hv2 hw2 hg hf2 hb9 hcell hnt hna hnc hns
  cases FB with
  | false =>
    go_enter Try.func4, Try.ntmps4
    go_wp2_with fail
    rw [← HW.out.1, ← HW.out.2.1]
    refine (fixed15_calls _).mono ?_
    rintro e w3 ⟨rfl, hf3⟩
    have hw3 := hid (HW.out.2.2.1.then hf3)
    obtain ⟨q0, q1, q2, q3, q4, q5, q6, q7, q8⟩ := blk9 (HC.out w3 hf3)
    have hf3' := hid hf3
    clear hf3
    go_wp2_with fail
    rw [← HW.out.2.2.2]
    refine (FC.out _).mono ?_
    rintro e w6 ⟨rfl, hf6⟩
    have hw6 := hid (hw3.out.then hf6)
    clear q0 q1 q2 q3 q4 q5 q6 q7 q8
    obtain ⟨q0, q1, q2, q3, q4, q5, q6, q7, q8⟩ := blk9 (HC.out w6 (hf3'.out.then hf6))
    have hf6' := hid (hf3'.out.then hf6)
    clear hf6
    go_wp2_with fail
    go_ret
    exact ⟨rfl, hw6.out⟩
  | true =>
    by_cases hm : (m : Int) > 100
    · skip
      go_enter Try.func4, Try.ntmps4
      go_wp2_with fail
      rw [← HW.out.1, ← HW.out.2.1]
      refine (fixed15_calls _).mono ?_
      rintro e w3 ⟨rfl, hf3⟩
      have hw3 := hid (HW.out.2.2.1.then hf3)
      obtain ⟨q0, q1, q2, q3, q4, q5, q6, q7, q8⟩ := blk9 (HC.out w3 hf3)
      have hf3' := hid hf3
      clear hf3
      go_wp2_with fail
      rw [← HW.out.2.2.2]
      refine (FC.out _).mono ?_
      rintro e w6 ⟨rfl, hf6⟩
      have hw6 := hid (hw3.out.then hf6)
      clear q0 q1 q2 q3 q4 q5 q6 q7 q8
      obtain ⟨q0, q1, q2, q3, q4, q5, q6, q7, q8⟩ := blk9 (HC.out w6 (hf3'.out.then hf6))
      have hf6' := hid (hf3'.out.then hf6)
      clear hf6
      go_wp2_with fail
      go_ret
      exact ⟨rfl, hw6.out⟩
    · have hl : m ≤ 5000 := by omega
      go_enter Try.func4, Try.ntmps4
      go_wp2_with fail
      rw [← HW.out.1, ← HW.out.2.1]
      refine (fixed15_calls _).mono ?_
      rintro e w3 ⟨rfl, hf3⟩
      have hw3 := hid (HW.out.2.2.1.then hf3)
      obtain ⟨q0, q1, q2, q3, q4, q5, q6, q7, q8⟩ := blk9 (HC.out w3 hf3)
      have hf3' := hid hf3
      clear hf3
      go_wp2_with fail
      rw [← HW.out.2.2.2]
      refine (FC.out _).mono ?_
      rintro e w6 ⟨rfl, hf6⟩
      have hw6 := hid (hw3.out.then hf6)
      clear q0 q1 q2 q3 q4 q5 q6 q7 q8
      obtain ⟨q0, q1, q2, q3, q4, q5, q6, q7, q8⟩ := blk9 (HC.out w6 (hf3'.out.then hf6))
      have hf6' := hid (hf3'.out.then hf6)
      clear hf6
      go_wp2_with fail
      rw [← HW.out.2.2.2]
      refine (CC.out.1 trivial hl _ hw6.out).mono ?_
      rintro e w7 ⟨rfl, hf7⟩
      have hw7 := hid (hw6.out.then hf7)
      clear q0 q1 q2 q3 q4 q5 q6 q7 q8
      obtain ⟨q0, q1, q2, q3, q4, q5, q6, q7, q8⟩ := blk9 (HC.out w7 (hf6'.out.then hf7))
      have hf7' := hid (hf6'.out.then hf7)
      have al7 : ∀ (i : Nat) (v : Value), w7.cell? ⟨g, i, none⟩ = some v → ∀ o, (w7.alloc o).cell? ⟨g, i, none⟩ = some v := fun i v h o => (((Fr.refl No w7).alloc o).cell (lt_of_cell h) (fun h => h)).trans h
      have q0' := al7 _ _ q0
      have q1' := al7 _ _ q1
      have q2' := al7 _ _ q2
      have q3' := al7 _ _ q3
      have q4' := al7 _ _ q4
      have q5' := al7 _ _ q5
      have q6' := al7 _ _ q6
      have q7' := al7 _ _ q7
      have q8' := al7 _ _ q8
      clear al7 hf7
      go_wp2_with fail
      clear q0 q1 q2 q3 q4 q5 q6 q7 q8 q0' q1' q2' q3' q4' q5' q6' q7' q8'
      rw [← HW.out.2.2.2]
      obtain ⟨h, hh⟩ : ∃ h, h = w7.heap.size := ⟨_, rfl⟩
      obtain ⟨X, hX⟩ : ∃ X, X = w7.alloc (.cells #[.int .u16 x, .int .u16 y, .int .u16 z, .int .u16 u] 38) := ⟨_, rfl⟩
      have hbX : X.heap[h]? = some (.cells #[.int .u16 x, .int .u16 y, .int .u16 z, .int .u16 u] 38 (0, 0)) := by rw [hX, hh]; exact heap_new _ _
      have hwX : Fr No w X := by rw [hX]; exact hw7.out.alloc _
      rw [← hX, ← hh]
      refine (CC.out.2 trivial hl _ hwX).mono ?_
      rintro e w8 ⟨rfl, hf8⟩
      have hb8 := (hf8.block h (Array.getElem?_eq_some_iff.1 hbX).1 (fun h => h)).trans hbX
      have hb8' : ∀ o, (w8.alloc o).heap[h]? = some (.cells #[.int .u16 x, .int .u16 y, .int .u16 z, .int .u16 u] 38 (0, 0)) := fun o => (((Fr.refl No w8).alloc o).block h (Array.getElem?_eq_some_iff.1 hb8).1 (fun h => h)).trans hb8
      have z0' : ∀ o, (w8.alloc o).cell? ⟨h, 0, none⟩ = some (.int .u16 x) := fun o => (blk4c (hb8' o)).1.1
      have z1' : ∀ o, (w8.alloc o).cell? ⟨h, 1, none⟩ = some (.int .u16 y) := fun o => (blk4c (hb8' o)).1.2.1
      have z2' : ∀ o, (w8.alloc o).cell? ⟨h, 2, none⟩ = some (.int .u16 z) := fun o => (blk4c (hb8' o)).1.2.2.1
      have z3' : ∀ o, (w8.alloc o).cell? ⟨h, 3, none⟩ = some (.int .u16 u) := fun o => (blk4c (hb8' o)).1.2.2.2
      have hw8 := hid (hwX.then hf8)
      clear hX hbX hwX hf8 hb8 hb8' hh
      go_wp2_with fail
      go_ret
      exact ⟨rfl, hw8.out.alloc _⟩
theorem pixelColors_walk (v : Value) (x : RasT) (A : Option Addr) (xs : List Int) (n c : Nat) (w : World) {base : Nat} (hok : Value.okWide Try.prog w .any base 34 v) (hx : rasD.K w x v.cells.toList) (s0 : SlIn (Value.int .i64) 8 w A xs n c) (_ : ∀ i (h : i < xs.length), -9223372036854775808 ≤ xs[i] ∧ xs[i] ≤ 9223372036854775807) : Calls Try.prog 4 #[v, .slice A n c] w fun e w' => e = .returned (.bool true) ∧ Fr No w w' := by
  obtain ⟨r, rfl, hr⟩ := rasD_val hok hx
  exact pixelColors_w r A xs n c w hr s0.len s0.rd
end Go.Proofs.Ytdbbkdlocmafgaa

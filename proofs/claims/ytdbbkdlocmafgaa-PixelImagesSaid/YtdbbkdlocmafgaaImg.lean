/- The contract of pixel.Image. -/
import Derived.Test.YtdbbkdlocmafgaaRImg
import Derived.Test.YtdbbkdlocmafgaaChunkI
import Derived.Test.YtdbbkdlocmafgaaRegIn
namespace Go.Proofs.Ytdbbkdlocmafgaa
open Go.RowKit Go.Proofs.HK
set_option linter.unusedVariables false
set_option linter.unusedSimpArgs false
attribute [local go_sem] max2_int min2_int max_two min_two
attribute [local go_sem] Oper.semAt_some

theorem region_only {P : Program} {ops : Array Oper} {Q : Exit → Act → World → Prop} {S : World → Prop} {id : Nat} {a : Act} {w : World} (hm : P.follows .mixedOrders = true) (hS : S w.drew)
    (h : S w.drew → wpAnyH P .any ops (OnlyNormal Q) S ops.size (Array.replicate ops.size false) a w.drew) : (Code.region id ops true).wp P Q a w :=
  wp_mono (Q := OnlyNormal Q) (wp_region_held_drew hm hS h) (fun e a' w' hq => by obtain ⟨rfl, hq⟩ := hq; exact hq)
theorem results_img {fn : Func} (hres : fn.results = #[.cell 2 52, .tmp 3]) {W : World} {g : Nat} {F S : Int} {A : Option Addr} {n c : Nat} {er : Value} {tmps : Array Value} (hb : W.heap[g]? = some (.cells #[.int .i64 F, .int .i64 S, .slice A n c] 52 (0, 0)))
    (h2 : tmps.getD 2 undef = .pointer (some ⟨g, 0, none⟩)) (h3 : tmps.getD 3 undef = er) : (results fn tmps).run Try.prog W = .ok (.tuple #[.agg #[.int .i64 F, .int .i64 S, .slice A n c], er]) W := by
  have hr := res_img W g F S A n c hb
  have h2' : tmps[2]?.getD undef = .pointer (some ⟨g, 0, none⟩) := by simpa using h2
  have h3' : tmps[3]?.getD undef = er := by simpa using h3
  simp [results, hres, h2', h3', hr.1, hr.2]
set_option maxRecDepth 100000 in
set_option maxHeartbeats 6400000 in
theorem image_calls (r : RS) (w : World) (hr : r.ok w) : Calls Try.prog 22 #[r.v] w (RetImg w r) := by
  obtain ⟨E, hE⟩ : ∃ E, E = chkS r := ⟨_, rfl⟩
  have hck : ∀ W, Fr No w W → Calls Try.prog 17 #[r.v] W fun e w' => e = .returned (.int .i64 E) ∧ Fr No W w' := fun W hW => by rw [hE]; exact check_calls r W (hr.fr hW)
  have HCK := hid hck
  have HE := hid hE
  have HR := hid hr
  have hfin : E ≠ 0 → ∀ (W : World) (g : Nat), Fr No w W → w.heap.size ≤ g → RetImg w r (.returned (.tuple #[.agg #[.int .i64 0, .int .i64 0, .slice none 0 0], .int .i64 E])) (((W.setCell ⟨g, 0, none⟩ (.int .i64 0)).setCell ⟨g, 1, none⟩ (.int .i64 0)).setCell ⟨g, 2, none⟩ (.slice none 0 0)) := fun h0 W g hW hg => by
    have h : ¬ chkS r = 0 := by rw [← HE.out]; exact h0
    refine ⟨none, 0, 0, none, ?_, ?_, ?_, fun _ h => (by cases h), fr3i _ _ _ hW (fun h => absurd h (by omega))⟩
    · unfold imgW imgH; rw [if_neg h, if_neg h, HE.out]
    · unfold imgC; rw [if_neg h]; rfl
    · unfold imgC; rw [if_neg h]; exact Row.nil _ _
  have HFIN := hid hfin
  have hof : ∀ W, Fr No w W → ∀ (A : Option Addr) (xs : List Int) (m c : Nat), xs.length = m → Rd II W A xs → tabS r = 0 → lookS r xs (samS r.C) = 0 → Calls Try.prog 31 #[r.v, .slice A m c] W fun e w' => e = .returned (colS r xs).v ∧ Fr No W w' := fun W hW A xs m c h1 h2 h3 h4 => color_calls r A xs m c W (hr.fr hW) h3 h4 h1 h2
  have HOF := hid hof
  have himg : E = 0 → _ := fun h => chk_img (r := r) (hE.symm.trans h)
  have HIMG := hid himg
  clear hck hE hfin hof himg
  obtain ⟨ro, hro⟩ : ∃ x, x = r := ⟨_, rfl⟩
  rw [← hro] at HE HFIN HOF HIMG HCK HR ⊢
  have hrv : ro.v = r.v := by rw [hro]
  rw [hrv] at HCK HOF
  rw [hrv]
  have HRO := hid hro
  clear hro hrv
  obtain ⟨W, H, C, D, L, tA, ts, tc, aA, al, ac, cA, cl, cc, sA, sa, sc⟩ := r
  obtain ⟨nt, hnt⟩ : ∃ n, n = ts.length := ⟨_, rfl⟩
  obtain ⟨na, hna⟩ : ∃ n, n = al.length := ⟨_, rfl⟩
  obtain ⟨nc, hnc⟩ : ∃ n, n = cl.length := ⟨_, rfl⟩
  obtain ⟨ns, hns⟩ : ∃ n, n = sa.length := ⟨_, rfl⟩
  obtain ⟨v, hv⟩ : ∃ v, v = (RS.mk W H C D L tA ts tc aA al ac cA cl cc sA sa sc).v := ⟨_, rfl⟩
  have hv2 : v = .agg #[.int .i64 W, .int .i64 H, .int .i64 C, .int .i64 D, .bool L, .slice tA nt tc, .slice aA na ac, .slice cA nc cc, .slice sA ns sc] := by rw [hv, hnt, hna, hnc, hns]; rfl
  obtain ⟨T, hT⟩ : ∃ T, T = tabS ⟨W, H, C, D, L, tA, ts, tc, aA, al, ac, cA, cl, cc, sA, sa, sc⟩ := ⟨_, rfl⟩
  obtain ⟨w2, hw2⟩ : ∃ w2, w2 = w.alloc (.cells #[.int .i64 W, .int .i64 H, .int .i64 C, .int .i64 D, .bool L, .slice tA nt tc, .slice aA na ac, .slice cA nc cc, .slice sA ns sc] 34) := ⟨_, rfl⟩
  obtain ⟨g, hg⟩ : ∃ g, g = w.heap.size := ⟨_, rfl⟩
  have hf2 : Fr No w w2 := by rw [hw2]; exact (Fr.refl _ _).alloc _
  have hb9 : w2.heap[g]? = some (.cells #[.int .i64 W, .int .i64 H, .int .i64 C, .int .i64 D, .bool L, .slice tA nt tc, .slice aA na ac, .slice cA nc cc, .slice sA ns sc] 34 (0, 0)) := by rw [hw2, hg]; exact heap_new _ _
  have hcell : ∀ X, Fr No w2 X → X.heap[g]? = some (.cells #[.int .i64 W, .int .i64 H, .int .i64 C, .int .i64 D, .bool L, .slice tA nt tc, .slice aA na ac, .slice cA nc cc, .slice sA ns sc] 34 (0, 0)) := fun X hf => (hf.block g (Array.getElem?_eq_some_iff.1 hb9).1 (fun h => h)).trans hb9
  have hgs : g < w2.heap.size := (Array.getElem?_eq_some_iff.1 hb9).1
  have hl : ns ≤ 5000 := by rw [hns]; exact hr.sl
  have HC := hid hcell
  have HW := hid (And.intro hw2 (And.intro hg (And.intro hf2 (And.intro (hr.fr hf2) (And.intro hv2 hns)))))
  have HV := hid hv
  have HT := hid hT
  rw [show (RS.mk W H C D L tA ts tc aA al ac cA cl cc sA sa sc).v = .agg #[.int .i64 W, .int .i64 H, .int .i64 C, .int .i64 D, .bool L, .slice tA nt tc, .slice aA na ac, .slice cA nc cc, .slice sA ns sc] from hv.symm.trans hv2]
  clear hw2 hg hf2 hb9 hcell hr hnt hna hnc hns hv hv2 hT
  obtain ⟨X, hX⟩ : ∃ X, X = w2.alloc (.cells #[.int .i64 0, .int .i64 0, .slice none 0 0] 52) := ⟨_, rfl⟩
  have hgw : w2.heap.size = g + 1 := by rw [HW.out.1, HW.out.2.1, World.size_alloc]
  have hbX : X.heap[g + 1]? = some (.cells #[.int .i64 0, .int .i64 0, .slice none 0 0] 52 (0, 0)) := by rw [hX, ← hgw]; exact heap_new _ _
  have hfX : Fr No w2 X := by rw [hX]; exact (Fr.refl No w2).alloc _
  have HX := hid (And.intro hX (And.intro hbX (And.intro hfX hgw)))
  clear hX hbX hfX hgw
  by_cases hE0 : E = 0
  · subst hE0
    obtain ⟨n, N, hC, hn1, hn4, hlen, hT0, hchunk⟩ := HIMG.out rfl
    have hCn : samS C = (n : Int) := by rw [HRO.out] at hC; exact hC
    have hns : ns = N * n := by rw [HRO.out] at hlen; rw [HW.out.2.2.2.2.2]; exact hlen
    have hsr : Rd II w sA sa := by have := HR.out.s; rw [HRO.out] at this; exact this
    have hsc : ns ≤ sc := by have := HR.out.scap; rw [HRO.out] at this; rw [HW.out.2.2.2.2.2]; exact this
    have HN := hid (And.intro hCn (And.intro hns (And.intro hsr (And.intro hchunk (And.intro hlen (And.intro hC hsc))))))
    have HT0 := hid hT0
    clear hsc hC hlen hT0 hchunk hCn hns hsr HIMG HFIN
    refine (callsIn_wide (n := 4)).1 (callsIn_of_wp_marks Try.func22 rfl trivial (wpIn_wide.2 ?_) rfl)
    simp only [Try.ntmps22, List.size_toArray, List.length_cons, List.length_nil, Nat.reduceAdd, Nat.reduceSub, Array.replicate_succ, Array.replicate_zero, List.push_toArray, List.append_toArray, List.nil_append, List.cons_append]
    go_wp2_with fail
    rw [← HW.out.1, ← HW.out.2.1, ← HX.out.1, ← HW.out.2.2.2.2.1, HV.out]
    refine (HCK.out _ (HW.out.2.2.1.then HX.out.2.2.1)).mono ?_
    rw [← HV.out, HW.out.2.2.2.2.1]
    rintro e w4 ⟨rfl, hf4⟩
    have hb9 := HC.out w4 (HX.out.2.2.1.then hf4)
    have hb4 := (hf4.block (g + 1) (Array.getElem?_eq_some_iff.1 HX.out.2.1).1 (fun h => h)).trans HX.out.2.1
    obtain ⟨q0, q1, q2, q3, q4, q5, q6, q7, q8⟩ := blk9 hb9
    have H4 := hid (And.intro hb4 (And.intro hf4 hb9))
    clear hb4 hf4 hb9 q2 q3 q4 q5 q6 q7 q8
    go_wp2_with fail
    obtain ⟨g5, hg5⟩ : ∃ g, g = w4.heap.size := ⟨_, rfl⟩
    obtain ⟨Y, hY⟩ : ∃ Y, Y = w4.alloc (.cells #[.int .i64 W, .int .i64 H, .slice none 0 0] 52) := ⟨_, rfl⟩
    rw [← hg5, ← hY]
    have hfY : Fr No w4 Y := by rw [hY]; exact (Fr.refl No w4).alloc _
    have hbY : Y.heap[g5]? = some (.cells #[.int .i64 W, .int .i64 H, .slice none 0 0] 52 (0, 0)) := by rw [hY, hg5]; exact heap_new _ _
    have HY := hid (And.intro hfY (And.intro hbY (And.intro hg5 hY)))
    clear hfY hbY hg5 hY q0 q1
    have hbg := HC.out Y ((HX.out.2.2.1.then H4.out.2.1).then HY.out.1)
    obtain ⟨q0, q1, q2, q3, q4, q5, q6, q7, q8⟩ := blk9 hbg
    clear hbg
    refine region_only (S := (fun W' => W'.cell? ⟨g, 0, none⟩ = some (.int .i64 W) ∧ W'.cell? ⟨g, 1, none⟩ = some (.int .i64 H) ∧ W'.cell? ⟨g, 2, none⟩ = some (.int .i64 C) ∧ W'.cell? ⟨g, 3, none⟩ = some (.int .i64 D) ∧ W'.cell? ⟨g, 4, none⟩ = some (.bool L) ∧ W'.cell? ⟨g, 5, none⟩ = some (.slice tA nt tc) ∧ W'.cell? ⟨g, 6, none⟩ = some (.slice aA na ac) ∧ W'.cell? ⟨g, 7, none⟩ = some (.slice cA nc cc) ∧ W'.cell? ⟨g, 8, none⟩ = some (.slice sA ns sc))) (by kernel_rfl) ⟨q0, q1, q2, q3, q4, q5, q6, q7, q8⟩ (fun hHeld => ?_)
    refine take_round (i := 0) (v := ?_) rfl (by kernel_rfl) (by kernel_rfl) (by kernel_rfl) (by rfl) (fun w' hSw => ?_) (by assumption) ?_
    rotate_left
    · (try dsimp only at hSw)
      go_simp
      try with_reducible rfl
    try simp only [Act.put, List.setIfInBounds_toArray, List.set_cons_zero, List.set_cons_succ]
    refine take_round (i := 1) (v := ?_) rfl (by kernel_rfl) (by kernel_rfl) (by kernel_rfl) (by rfl) (fun w' hSw => ?_) (by assumption) ?_
    rotate_left
    · (try dsimp only at hSw)
      go_simp
      try with_reducible rfl
    try simp only [Act.put, List.setIfInBounds_toArray, List.set_cons_zero, List.set_cons_succ]
    refine take_round (i := 2) (v := ?_) rfl (by kernel_rfl) (by kernel_rfl) (by kernel_rfl) (by rfl) (fun w' hSw => ?_) (by assumption) ?_
    rotate_left
    · (try dsimp only at hSw)
      go_simp
      try with_reducible rfl
    try simp only [Act.put, List.setIfInBounds_toArray, List.set_cons_zero, List.set_cons_succ]
    refine take_round (i := 3) (v := ?_) rfl (by kernel_rfl) (by kernel_rfl) (by kernel_rfl) (by rfl) (fun w' hSw => ?_) (by assumption) ?_
    rotate_left
    · (try dsimp only at hSw)
      go_simp
      try with_reducible rfl
    try simp only [Act.put, List.setIfInBounds_toArray, List.set_cons_zero, List.set_cons_succ]
    refine take_round (i := 4) (v := ?_) rfl (by kernel_rfl) (by kernel_rfl) (by kernel_rfl) (by rfl) (fun w' hSw => ?_) (by assumption) ?_
    rotate_left
    · (try dsimp only at hSw)
      go_simp
      try with_reducible rfl
    try simp only [Act.put, List.setIfInBounds_toArray, List.set_cons_zero, List.set_cons_succ]
    refine one_round (i := 5) (by kernel_rfl) rfl (fun K hK => ?_)
    go_simp
    go_at_call 30
    refine (samples_calls C _).mono ?_
    rw [HN.out.1]
    rintro e w5 ⟨rfl, hf5⟩
    have hF5 : Fr No Y w5 := ((Fr.refl No Y).drew).then hf5
    refine hK.out _ _ ⟨(hF5.cell (p := ⟨g, 0, none⟩) (lt_of_cell q0) (fun h => h)).trans q0, (hF5.cell (p := ⟨g, 1, none⟩) (lt_of_cell q1) (fun h => h)).trans q1, (hF5.cell (p := ⟨g, 2, none⟩) (lt_of_cell q2) (fun h => h)).trans q2, (hF5.cell (p := ⟨g, 3, none⟩) (lt_of_cell q3) (fun h => h)).trans q3, (hF5.cell (p := ⟨g, 4, none⟩) (lt_of_cell q4) (fun h => h)).trans q4, (hF5.cell (p := ⟨g, 5, none⟩) (lt_of_cell q5) (fun h => h)).trans q5, (hF5.cell (p := ⟨g, 6, none⟩) (lt_of_cell q6) (fun h => h)).trans q6, (hF5.cell (p := ⟨g, 7, none⟩) (lt_of_cell q7) (fun h => h)).trans q7, (hF5.cell (p := ⟨g, 8, none⟩) (lt_of_cell q8) (fun h => h)).trans q8⟩ (fun hHeld2 => ?_)
    clear hK K
    try simp only [Act.put, List.setIfInBounds_toArray, List.set_cons_zero, List.set_cons_succ]
    refine one_round (i := 6) (by kernel_rfl) rfl (fun K hK => ?_)
    go_simp
    go_at_call 36
    refine (chunk_calls sA ns sc n _ (by omega)).mono ?_
    rintro e wl ⟨rfl, hwl⟩
    have hF9 : Fr No w5 wl := by rw [hwl]; exact ((Fr.refl _ _).alloc _).alloc _
    refine hK.out _ _ ⟨((hF5.then hF9).cell (p := ⟨g, 0, none⟩) (lt_of_cell q0) (fun h => h)).trans q0, ((hF5.then hF9).cell (p := ⟨g, 1, none⟩) (lt_of_cell q1) (fun h => h)).trans q1, ((hF5.then hF9).cell (p := ⟨g, 2, none⟩) (lt_of_cell q2) (fun h => h)).trans q2, ((hF5.then hF9).cell (p := ⟨g, 3, none⟩) (lt_of_cell q3) (fun h => h)).trans q3, ((hF5.then hF9).cell (p := ⟨g, 4, none⟩) (lt_of_cell q4) (fun h => h)).trans q4, ((hF5.then hF9).cell (p := ⟨g, 5, none⟩) (lt_of_cell q5) (fun h => h)).trans q5, ((hF5.then hF9).cell (p := ⟨g, 6, none⟩) (lt_of_cell q6) (fun h => h)).trans q6, ((hF5.then hF9).cell (p := ⟨g, 7, none⟩) (lt_of_cell q7) (fun h => h)).trans q7, ((hF5.then hF9).cell (p := ⟨g, 8, none⟩) (lt_of_cell q8) (fun h => h)).trans q8⟩ (fun hHeld3 => ?_)
    clear hK K
    try simp only [Act.put, List.setIfInBounds_toArray, List.set_cons_zero, List.set_cons_succ]
    refine wpAnyH_done (by kernel_rfl) ⟨rfl, ?_⟩ _
    clear hHeld hHeld2 hHeld3 hf5
    obtain ⟨gc, hgc⟩ : ∃ g, g = w5.heap.size := ⟨_, rfl⟩
    rw [← hgc]
    have hsl : wl.heap.size = gc + 2 := by rw [hwl, World.size_alloc, World.size_alloc, hgc]
    have hcL : wl.cell? ⟨gc, 0, none⟩ = some (.slice sA ns sc) := by
      rw [hwl, ((Fr.refl No (w5.alloc _)).alloc _).cellg gc 0 (by rw [World.size_alloc, hgc]; omega) (fun h => h), hgc]; exact cell_new1 _ _ _ 0 _ rfl
    have hcM : wl.cell? ⟨gc + 1, 0, none⟩ = some (.int .i64 (n : Int)) := by
      have := cell_new1 (w5.alloc (.cells #[.slice sA ns sc] 22)) #[.int .i64 (n : Int)] 3 0 _ rfl
      rw [World.size_alloc, ← hgc] at this
      rw [hwl]; exact this
    have hg5c : g5 < gc := by have := hF5.size; have := (Array.getElem?_eq_some_iff.1 HY.out.2.1).1; omega
    have HL := hid (And.intro (hF5.then hF9) (And.intro hg5c hwl))
    have hI0 : ∀ W', Fr No wl W' → ∃ (A1 : Option Addr) (c1 : Nat) (ob1 : Option Nat), W'.heap[g5]? = some (.cells #[.int .i64 W, .int .i64 H, .slice A1 0 c1] 52 (0, 0)) ∧ Row W' 4 (.slice A1 0 c1) ob1 0 (colsC (imgL ro n 0)) ∧ (∀ j, ob1 = some j → Y.heap.size ≤ j ∧ (j < gc ∨ gc + 4 ≤ j)) ∧ Fr (HK.One g5) Y W' := fun W' hf =>
      ⟨none, 0, none, ((HL.out.1.then hf).block g5 (Array.getElem?_eq_some_iff.1 HY.out.2.1).1 (fun h => h)).trans HY.out.2.1, Row.nil _ _, fun _ h => (by cases h), (HL.out.1.then hf).any⟩
    have hnN : ∀ k, k < N ↔ k * n < ns := fun k => by
      rw [HN.out.2.1]
      exact ⟨fun h => Nat.mul_lt_mul_of_pos_right h (by omega), fun h => Nat.lt_of_mul_lt_mul_right h⟩
    have hg05 : g < g5 := by have := (Array.getElem?_eq_some_iff.1 H4.out.2.2).1; have := HY.out.2.2.1; omega
    have HI0 := hid hI0
    have HNN := hid (And.intro hnN hg05)
    clear hI0 hnN hwl hgc hF5 hF9 hg5c q0 q1 q2 q3 q4 q5 q6 q7 q8
    go_wp2_with fail
    refine wpIn_wide.1 (wpIn_rangeFunc_mem (F := Fence.wide) (n := 4) rfl (by omega) (gf := 44) (lb := #[.pointer (some ⟨gc, 0, none⟩), .pointer (some ⟨gc + 1, 0, none⟩)]) rfl trivial (enters_of Try.func44 (by kernel_rfl) rfl)
      (chunk_seq (4 - 1) (by decide) sA ns sc n N gc wl (by omega) (by have := HN.out.2.2.2.2.2.2; omega) HNN.out.1 (by omega) (by omega) hcL hcM) (Nat.le_refl _) (KeepLU.refl _ _ _) (by omega)
      (fun k W' => ∃ (A1 : Option Addr) (c1 : Nat) (ob1 : Option Nat), W'.heap[g5]? = some (.cells #[.int .i64 W, .int .i64 H, .slice A1 k c1] 52 (0, 0)) ∧ Row W' 4 (.slice A1 k c1) ob1 k (colsC (imgL ro n k)) ∧ (∀ j, ob1 = some j → Y.heap.size ≤ j ∧ (j < gc ∨ gc + 4 ≤ j)) ∧ Fr (HK.One g5) Y W')
      (fun _ _ _ => False) ?hI (fun _ _ _ _ h _ => h) HI0.out ?hOk ?round ?done (fun _ _ _ _ h _ => h.elim))
    case hI =>
      rintro k X' Y' ⟨A1, c1, ob1, h1, h2, h3, h4⟩ hf
      rw [hsl] at hf
      have hl8 := (Array.getElem?_eq_some_iff.1 h1).1
      have h5c := HL.out.2.1
      have hYz : Y.heap.size = g5 + 1 := by have hYs := HY.out.2.2.1; rw [HY.out.2.2.2, World.size_alloc, hYs]
      exact ⟨A1, c1, ob1, (hf.block g5 hl8 (fun e => by have e : g5 = gc + 2 + 1 := e; omega)).trans h1, h2.fr hf (fun j hj e => by have e : j = gc + 2 + 1 := e; have := h3 j hj; omega), h3, h4.trans (hf.mono (S' := HK.One (gc + 2 + 1)) (fun _ _ h => h)) (fun j hj e => by have e : j = gc + 2 + 1 := e; omega)⟩
    case hOk =>
      rintro k args W' hk hok
      obtain rfl : args = _ := hok
      exact ⟨rfl, fun _ _ => rfl⟩
    case round =>
      rintro k args W1 W2 hk ⟨A1, c1, ob1, h1, h2, h3, h4⟩ hsz hok
      obtain rfl : args = _ := hok
      have hYz : Y.heap.size = g5 + 1 := by have hYs := HY.out.2.2.1; rw [HY.out.2.2.2, World.size_alloc, hYs]
      have hFw : Fr No w W2 := ((HW.out.2.2.1.then (HX.out.2.2.1.then H4.out.2.1)).then HY.out.1).trans h4 (fun q hq e => by have e : q = g5 := e; have := HY.out.2.2.1; have := (HW.out.2.2.1.then (HX.out.2.2.1.then H4.out.2.1)).size; omega)
      have hb9 := (h4.block g (by have := HNN.out.2; have := HY.out.2.2.1; omega) (fun e => by have e : g = g5 := e; have := HNN.out.2; omega)).trans ((HY.out.1.block g (by have := HNN.out.2; have := HY.out.2.2.1; omega) (fun h => h)).trans H4.out.2.2)
      obtain ⟨q0, q1, q2, q3, q4, q5, q6, q7, q8⟩ := blk9 hb9
      have hkn : (k + 1) * n ≤ N * n := Nat.mul_le_mul_right _ hk
      rw [Nat.succ_mul] at hkn
      have hkl : k ≤ 100000 := by have := HN.out.2.1; have : N * 1 ≤ N * n := Nat.mul_le_mul_left _ hn1; omega
      have hns2 := HN.out.2.1
      rw [show min n (ns - k * n) = n by omega]
      have hch := HN.out.2.2.2.1 k hk
      obtain ⟨x, y, z, u, hcv⟩ : ∃ x y z u, (colS ro (chunkP ro n k)).v = .agg #[.int .u16 x, .int .u16 y, .int .u16 z, .int .u16 u] := ⟨_, _, _, _, rfl⟩
      have hcol : colC (colS ro (chunkP ro n k)) = [.int .u16 x, .int .u16 y, .int .u16 z, .int .u16 u] := by
        unfold Col.v colV at hcv
        injection hcv with hcv
        exact congrArg Array.toList hcv
      have hchunk : (sa.drop (k * n)).take n = chunkP ro n k := by unfold chunkP; rw [HRO.out]
      have hof1 : ∀ W', Fr No W2 W' → Calls Try.prog 31 #[(.agg #[.int .i64 W, .int .i64 H, .int .i64 C, .int .i64 D, .bool L, .slice tA nt tc, .slice aA na ac, .slice cA nc cc, .slice sA ns sc]), .slice (sA.map (·.add (k * n))) n n] W' fun e w' => e = .returned (.agg #[.int .u16 x, .int .u16 y, .int .u16 z, .int .u16 u]) ∧ Fr No W' w' := fun W' hW' => by
        have := HOF.out W' (hFw.then hW') (sA.map (·.add (k * n))) (chunkP ro n k) n n hch.1 (by rw [← hchunk]; exact (((HN.out.2.2.1.fr0 hFw).fr0 hW').drop (k * n)).take n) HT0.out hch.2.1
        rw [hcv, ← HV.out, HW.out.2.2.2.2.1] at this
        exact this
      have HYZ := hid hYz
      have HO := hid (And.intro hof1 (And.intro hcol hFw))
      have HST := hid (And.intro h2 (And.intro h3 (And.intro h4 h1)))
      have hl5 := (Array.getElem?_eq_some_iff.1 h1).1
      obtain ⟨⟨p0, p1, p2⟩, -⟩ := blk3i h1
      clear hYz hof1 hcol hcv hchunk hch h1 h2 h3 h4 hFw hb9 hns2 hkn
      gi_wp2
      refine ⟨trivial, ?_⟩
      gi_wp2
      refine wpIn_region_round (S := (fun W' => W'.cell? ⟨g, 0, none⟩ = some (.int .i64 W) ∧ W'.cell? ⟨g, 1, none⟩ = some (.int .i64 H) ∧ W'.cell? ⟨g, 2, none⟩ = some (.int .i64 C) ∧ W'.cell? ⟨g, 3, none⟩ = some (.int .i64 D) ∧ W'.cell? ⟨g, 4, none⟩ = some (.bool L) ∧ W'.cell? ⟨g, 5, none⟩ = some (.slice tA nt tc) ∧ W'.cell? ⟨g, 6, none⟩ = some (.slice aA na ac) ∧ W'.cell? ⟨g, 7, none⟩ = some (.slice cA nc cc) ∧ W'.cell? ⟨g, 8, none⟩ = some (.slice sA ns sc))) (by kernel_rfl) (by kernel_rfl) ⟨q0, q1, q2, q3, q4, q5, q6, q7, q8⟩ (fun hHeld => ?_)
      refine take_round (i := 0) (v := ?_) rfl (by kernel_rfl) (by kernel_rfl) (by kernel_rfl) (by rfl) (fun w' hSw => ?_) (by assumption) ?_
      rotate_left
      · (try dsimp only at hSw)
        go_simp
        try with_reducible rfl
      try simp only [Act.put, List.setIfInBounds_toArray, List.set_cons_zero, List.set_cons_succ]
      refine take_round (i := 3) (v := ?_) rfl (by kernel_rfl) (by kernel_rfl) (by kernel_rfl) (by rfl) (fun w' hSw => ?_) (by assumption) ?_
      rotate_left
      · (try dsimp only at hSw)
        go_simp
        try with_reducible rfl
      try simp only [Act.put, List.setIfInBounds_toArray, List.set_cons_zero, List.set_cons_succ]
      refine take_round (i := 2) (v := ?_) rfl (by kernel_rfl) (by kernel_rfl) (by kernel_rfl) (by rfl) (fun w' hSw => ?_) (by assumption) ?_
      rotate_left
      · (try dsimp only at hSw)
        go_simp
        try with_reducible rfl
      try simp only [Act.put, List.setIfInBounds_toArray, List.set_cons_zero, List.set_cons_succ]
      refine wpAnyH_ready (rs := [1, 4]) (by kernel_rfl) (by simp) (AllReadyH.cons rfl (fun K hK => ?_) (AllReadyH.cons rfl (fun K hK => ?_) AllReadyH.nil))
      · go_simp
        refine hK.out _ _ hHeld (fun hHeld => ?_)
        clear hK K
        try simp only [Act.put, List.setIfInBounds_toArray, List.set_cons_zero, List.set_cons_succ]
        refine one_round (i := 4) (by kernel_rfl) rfl (fun K hK => ?_)
        go_simp
        go_at_call 31
        refine (HO.out.1 _ ((Fr.refl No W2).drew)).mono ?_
        rintro e w6 ⟨rfl, hf6⟩
        have hF6 : Fr No W2 w6 := ((Fr.refl No W2).drew).then hf6
        refine hK.out _ _ ⟨(hF6.cell (p := ⟨g, 0, none⟩) (lt_of_cell q0) (fun h => h)).trans q0, (hF6.cell (p := ⟨g, 1, none⟩) (lt_of_cell q1) (fun h => h)).trans q1, (hF6.cell (p := ⟨g, 2, none⟩) (lt_of_cell q2) (fun h => h)).trans q2, (hF6.cell (p := ⟨g, 3, none⟩) (lt_of_cell q3) (fun h => h)).trans q3, (hF6.cell (p := ⟨g, 4, none⟩) (lt_of_cell q4) (fun h => h)).trans q4, (hF6.cell (p := ⟨g, 5, none⟩) (lt_of_cell q5) (fun h => h)).trans q5, (hF6.cell (p := ⟨g, 6, none⟩) (lt_of_cell q6) (fun h => h)).trans q6, (hF6.cell (p := ⟨g, 7, none⟩) (lt_of_cell q7) (fun h => h)).trans q7, (hF6.cell (p := ⟨g, 8, none⟩) (lt_of_cell q8) (fun h => h)).trans q8⟩ (fun hHeld => ?_)
        clear hK K
        try simp only [Act.put, List.setIfInBounds_toArray, List.set_cons_zero, List.set_cons_succ]
        refine one_round (i := 5) (by kernel_rfl) rfl (fun K hK => ?_)
        go_simp
        have hFZ : Fr No W2 (w6.alloc (.cells #[.int .u16 x, .int .u16 y, .int .u16 z, .int .u16 u] 38)) := hF6.alloc _
        refine hK.out _ _ ⟨(hFZ.cell (p := ⟨g, 0, none⟩) (lt_of_cell q0) (fun h => h)).trans q0, (hFZ.cell (p := ⟨g, 1, none⟩) (lt_of_cell q1) (fun h => h)).trans q1, (hFZ.cell (p := ⟨g, 2, none⟩) (lt_of_cell q2) (fun h => h)).trans q2, (hFZ.cell (p := ⟨g, 3, none⟩) (lt_of_cell q3) (fun h => h)).trans q3, (hFZ.cell (p := ⟨g, 4, none⟩) (lt_of_cell q4) (fun h => h)).trans q4, (hFZ.cell (p := ⟨g, 5, none⟩) (lt_of_cell q5) (fun h => h)).trans q5, (hFZ.cell (p := ⟨g, 6, none⟩) (lt_of_cell q6) (fun h => h)).trans q6, (hFZ.cell (p := ⟨g, 7, none⟩) (lt_of_cell q7) (fun h => h)).trans q7, (hFZ.cell (p := ⟨g, 8, none⟩) (lt_of_cell q8) (fun h => h)).trans q8⟩ (fun hHeld => ?_)
        clear hK K
        try simp only [Act.put, List.setIfInBounds_toArray, List.set_cons_zero, List.set_cons_succ]
        refine one_round (i := 6) (by kernel_rfl) rfl (fun K hK => ?_)
        refine step_app slC4 rfl (.tmp 29) (.tmp 33) rfl rfl (HST.out.1.fr (S := No) hFZ (fun _ _ h => h)) rfl (m := 1) (c := 1) (ys := [.int .u16 x, .int .u16 y, .int .u16 z, .int .u16 u]) rfl (cells_new _ _ _) (by simp [Value.oneCell']) (by omega) (by omega) ?_
        intro A5 c5 wv ob5 hrow5 hfr5 hob5
        have hsA := hFZ.size
        have hgn : ¬ Opt ob1 g := fun e => by have := HYZ.out; have := HST.out.2.1 g e.symm; have := HNN.out.2; omega
        have hg5n : ¬ Opt ob1 g5 := fun e => by have := HYZ.out; have := HST.out.2.1 g5 e.symm; omega
        have hblk5 := (hfr5.block g5 (Nat.lt_of_lt_of_le hl5 hsA) hg5n).trans ((hFZ.block g5 hl5 (fun h => h)).trans HST.out.2.2.2)
        have hS5 : (fun W' => W'.cell? ⟨g, 0, none⟩ = some (.int .i64 W) ∧ W'.cell? ⟨g, 1, none⟩ = some (.int .i64 H) ∧ W'.cell? ⟨g, 2, none⟩ = some (.int .i64 C) ∧ W'.cell? ⟨g, 3, none⟩ = some (.int .i64 D) ∧ W'.cell? ⟨g, 4, none⟩ = some (.bool L) ∧ W'.cell? ⟨g, 5, none⟩ = some (.slice tA nt tc) ∧ W'.cell? ⟨g, 6, none⟩ = some (.slice aA na ac) ∧ W'.cell? ⟨g, 7, none⟩ = some (.slice cA nc cc) ∧ W'.cell? ⟨g, 8, none⟩ = some (.slice sA ns sc)) wv := ⟨(hfr5.cell (p := ⟨g, 0, none⟩) (Nat.lt_of_lt_of_le (lt_of_cell q0) hsA) hgn).trans ((hFZ.cell (p := ⟨g, 0, none⟩) (lt_of_cell q0) (fun h => h)).trans q0), (hfr5.cell (p := ⟨g, 1, none⟩) (Nat.lt_of_lt_of_le (lt_of_cell q1) hsA) hgn).trans ((hFZ.cell (p := ⟨g, 1, none⟩) (lt_of_cell q1) (fun h => h)).trans q1), (hfr5.cell (p := ⟨g, 2, none⟩) (Nat.lt_of_lt_of_le (lt_of_cell q2) hsA) hgn).trans ((hFZ.cell (p := ⟨g, 2, none⟩) (lt_of_cell q2) (fun h => h)).trans q2), (hfr5.cell (p := ⟨g, 3, none⟩) (Nat.lt_of_lt_of_le (lt_of_cell q3) hsA) hgn).trans ((hFZ.cell (p := ⟨g, 3, none⟩) (lt_of_cell q3) (fun h => h)).trans q3), (hfr5.cell (p := ⟨g, 4, none⟩) (Nat.lt_of_lt_of_le (lt_of_cell q4) hsA) hgn).trans ((hFZ.cell (p := ⟨g, 4, none⟩) (lt_of_cell q4) (fun h => h)).trans q4), (hfr5.cell (p := ⟨g, 5, none⟩) (Nat.lt_of_lt_of_le (lt_of_cell q5) hsA) hgn).trans ((hFZ.cell (p := ⟨g, 5, none⟩) (lt_of_cell q5) (fun h => h)).trans q5), (hfr5.cell (p := ⟨g, 6, none⟩) (Nat.lt_of_lt_of_le (lt_of_cell q6) hsA) hgn).trans ((hFZ.cell (p := ⟨g, 6, none⟩) (lt_of_cell q6) (fun h => h)).trans q6), (hfr5.cell (p := ⟨g, 7, none⟩) (Nat.lt_of_lt_of_le (lt_of_cell q7) hsA) hgn).trans ((hFZ.cell (p := ⟨g, 7, none⟩) (lt_of_cell q7) (fun h => h)).trans q7), (hfr5.cell (p := ⟨g, 8, none⟩) (Nat.lt_of_lt_of_le (lt_of_cell q8) hsA) hgn).trans ((hFZ.cell (p := ⟨g, 8, none⟩) (lt_of_cell q8) (fun h => h)).trans q8)⟩
        obtain ⟨⟨e0, e1, e2⟩, e3, e4, e5⟩ := blk3i hblk5
        refine hK.out _ _ hS5 (fun hHeld => ?_)
        clear hK K
        try simp only [Act.put, List.setIfInBounds_toArray, List.set_cons_zero, List.set_cons_succ]
        refine take_round (i := 7) (v := ?_) rfl (by kernel_rfl) (by kernel_rfl) (by kernel_rfl) (by rfl) (fun w' hSw => ?_) (by assumption) ?_
        rotate_left
        · (try dsimp only at hSw)
          go_simp
          try with_reducible rfl
        try simp only [Act.put, List.setIfInBounds_toArray, List.set_cons_zero, List.set_cons_succ]
        refine one_round (i := 8) (by kernel_rfl) rfl (fun K hK => ?_)
        go_simp
        have hgg : ∀ i v, wv.cell? ⟨g, i, none⟩ = some v → ∀ u, (wv.setCell ⟨g5, 2, none⟩ u).cell? ⟨g, i, none⟩ = some v := fun i v hv u => ((Fr.set1 _ _ _ _).cell (S := HK.One g5) (p := ⟨g, i, none⟩) (lt_of_cell hv) (fun e => by have e : g = g5 := e; have := HNN.out.2; omega)).trans hv
        refine hK.out _ _ ⟨hgg _ _ hS5.1 _, hgg _ _ hS5.2.1 _, hgg _ _ hS5.2.2.1 _, hgg _ _ hS5.2.2.2.1 _, hgg _ _ hS5.2.2.2.2.1 _, hgg _ _ hS5.2.2.2.2.2.1 _, hgg _ _ hS5.2.2.2.2.2.2.1 _, hgg _ _ hS5.2.2.2.2.2.2.2.1 _, hgg _ _ hS5.2.2.2.2.2.2.2.2 _⟩ (fun hHeld => ?_)
        clear hK K
        refine wpAnyH_done (by kernel_rfl) ⟨rfl, ?_⟩ _
        gi_wp2
        have hZ : Fr (fun b => b = g5 ∨ ob1 = some b) W2 (wv.setCell ⟨g5, 2, none⟩ (.slice A5 (k + 1) c5)) :=
          ((hFZ.mono (fun _ _ h => h.elim)).trans (hfr5.mono (S' := fun b => b = g5 ∨ ob1 = some b) (fun j _ e => .inr (Eq.symm e))) (fun _ _ h => h)).trans (Fr.set1 _ _ _ _) (fun j _ (e : j = g5) => .inl e)
        have hob5' : ∀ j, ob5 = some j → Y.heap.size ≤ j ∧ (j < gc ∨ gc + 4 ≤ j) := fun j hj => by
          have hYz : Y.heap.size = g5 + 1 := by have hYs := HY.out.2.2.1; rw [HY.out.2.2.2, World.size_alloc, hYs]
          rcases hob5 with h | ⟨i, h, hi⟩
          · exact HST.out.2.1 j (by rw [← h]; exact hj)
          · rw [h] at hj; injection hj with hj; have := HST.out.2.2.1.size; omega
        have hdis : ∀ b, gc ≤ b → b < gc + 4 → ¬ (b = g5 ∨ ob1 = some b) := fun b b1 b2 e => by
          rcases e with e | e
          · have := HL.out.2.1; omega
          · have := HST.out.2.1 b e; omega
        rw [← HO.out.2.1, ← colsC_snoc, ← imgL_succ] at hrow5
        refine ⟨fun b hb => hZ.block b (by omega) (hdis b (by omega) (by omega)), hZ.size, KeepLU.of_fr hZ (by omega) (fun b b1 b2 => hdis b (by omega) (by omega)), A5, c5, ?_, ob5, hrow5.fr (Fr.set1 _ _ _ _) (fun j hj e => by have e : j = g5 := e; have := hob5' j hj; have := HYZ.out; omega), hob5', ?_⟩
        · rw [heap_set _ g5 2 _ _ _ hblk5]; rfl
        · exact HST.out.2.2.1.trans hZ (fun j hj e => by
            rcases e with e | e
            · exact e
            · have := HST.out.2.1 j e; omega)
      · go_simp
        go_at_call 31
        refine (HO.out.1 _ ((Fr.refl No W2).drew)).mono ?_
        rintro e w6 ⟨rfl, hf6⟩
        have hF6 : Fr No W2 w6 := ((Fr.refl No W2).drew).then hf6
        refine hK.out _ _ ⟨(hF6.cell (p := ⟨g, 0, none⟩) (lt_of_cell q0) (fun h => h)).trans q0, (hF6.cell (p := ⟨g, 1, none⟩) (lt_of_cell q1) (fun h => h)).trans q1, (hF6.cell (p := ⟨g, 2, none⟩) (lt_of_cell q2) (fun h => h)).trans q2, (hF6.cell (p := ⟨g, 3, none⟩) (lt_of_cell q3) (fun h => h)).trans q3, (hF6.cell (p := ⟨g, 4, none⟩) (lt_of_cell q4) (fun h => h)).trans q4, (hF6.cell (p := ⟨g, 5, none⟩) (lt_of_cell q5) (fun h => h)).trans q5, (hF6.cell (p := ⟨g, 6, none⟩) (lt_of_cell q6) (fun h => h)).trans q6, (hF6.cell (p := ⟨g, 7, none⟩) (lt_of_cell q7) (fun h => h)).trans q7, (hF6.cell (p := ⟨g, 8, none⟩) (lt_of_cell q8) (fun h => h)).trans q8⟩ (fun hHeld => ?_)
        clear hK K
        try simp only [Act.put, List.setIfInBounds_toArray, List.set_cons_zero, List.set_cons_succ]
        refine wpAnyH_ready (rs := [1, 5]) (by kernel_rfl) (by simp) (AllReadyH.cons rfl (fun K hK => ?_) (AllReadyH.cons rfl (fun K hK => ?_) AllReadyH.nil))
        · have e6 : w6.cell? ⟨g5, 2, none⟩ = some (.slice A1 k c1) := (hF6.cell (p := ⟨g5, 2, none⟩) (lt_of_cell p2) (fun h => h)).trans p2
          go_simp
          refine hK.out _ _ hHeld (fun hHeld => ?_)
          clear hK K e6
          try simp only [Act.put, List.setIfInBounds_toArray, List.set_cons_zero, List.set_cons_succ]
          refine one_round (i := 5) (by kernel_rfl) rfl (fun K hK => ?_)
          go_simp
          have hFZ : Fr No W2 (w6.alloc (.cells #[.int .u16 x, .int .u16 y, .int .u16 z, .int .u16 u] 38)) := hF6.alloc _
          refine hK.out _ _ ⟨(hFZ.cell (p := ⟨g, 0, none⟩) (lt_of_cell q0) (fun h => h)).trans q0, (hFZ.cell (p := ⟨g, 1, none⟩) (lt_of_cell q1) (fun h => h)).trans q1, (hFZ.cell (p := ⟨g, 2, none⟩) (lt_of_cell q2) (fun h => h)).trans q2, (hFZ.cell (p := ⟨g, 3, none⟩) (lt_of_cell q3) (fun h => h)).trans q3, (hFZ.cell (p := ⟨g, 4, none⟩) (lt_of_cell q4) (fun h => h)).trans q4, (hFZ.cell (p := ⟨g, 5, none⟩) (lt_of_cell q5) (fun h => h)).trans q5, (hFZ.cell (p := ⟨g, 6, none⟩) (lt_of_cell q6) (fun h => h)).trans q6, (hFZ.cell (p := ⟨g, 7, none⟩) (lt_of_cell q7) (fun h => h)).trans q7, (hFZ.cell (p := ⟨g, 8, none⟩) (lt_of_cell q8) (fun h => h)).trans q8⟩ (fun hHeld => ?_)
          clear hK K
          try simp only [Act.put, List.setIfInBounds_toArray, List.set_cons_zero, List.set_cons_succ]
          refine one_round (i := 6) (by kernel_rfl) rfl (fun K hK => ?_)
          refine step_app slC4 rfl (.tmp 29) (.tmp 33) rfl rfl (HST.out.1.fr (S := No) hFZ (fun _ _ h => h)) rfl (m := 1) (c := 1) (ys := [.int .u16 x, .int .u16 y, .int .u16 z, .int .u16 u]) rfl (cells_new _ _ _) (by simp [Value.oneCell']) (by omega) (by omega) ?_
          intro A5 c5 wv ob5 hrow5 hfr5 hob5
          have hsA := hFZ.size
          have hgn : ¬ Opt ob1 g := fun e => by have := HYZ.out; have := HST.out.2.1 g e.symm; have := HNN.out.2; omega
          have hg5n : ¬ Opt ob1 g5 := fun e => by have := HYZ.out; have := HST.out.2.1 g5 e.symm; omega
          have hblk5 := (hfr5.block g5 (Nat.lt_of_lt_of_le hl5 hsA) hg5n).trans ((hFZ.block g5 hl5 (fun h => h)).trans HST.out.2.2.2)
          have hS5 : (fun W' => W'.cell? ⟨g, 0, none⟩ = some (.int .i64 W) ∧ W'.cell? ⟨g, 1, none⟩ = some (.int .i64 H) ∧ W'.cell? ⟨g, 2, none⟩ = some (.int .i64 C) ∧ W'.cell? ⟨g, 3, none⟩ = some (.int .i64 D) ∧ W'.cell? ⟨g, 4, none⟩ = some (.bool L) ∧ W'.cell? ⟨g, 5, none⟩ = some (.slice tA nt tc) ∧ W'.cell? ⟨g, 6, none⟩ = some (.slice aA na ac) ∧ W'.cell? ⟨g, 7, none⟩ = some (.slice cA nc cc) ∧ W'.cell? ⟨g, 8, none⟩ = some (.slice sA ns sc)) wv := ⟨(hfr5.cell (p := ⟨g, 0, none⟩) (Nat.lt_of_lt_of_le (lt_of_cell q0) hsA) hgn).trans ((hFZ.cell (p := ⟨g, 0, none⟩) (lt_of_cell q0) (fun h => h)).trans q0), (hfr5.cell (p := ⟨g, 1, none⟩) (Nat.lt_of_lt_of_le (lt_of_cell q1) hsA) hgn).trans ((hFZ.cell (p := ⟨g, 1, none⟩) (lt_of_cell q1) (fun h => h)).trans q1), (hfr5.cell (p := ⟨g, 2, none⟩) (Nat.lt_of_lt_of_le (lt_of_cell q2) hsA) hgn).trans ((hFZ.cell (p := ⟨g, 2, none⟩) (lt_of_cell q2) (fun h => h)).trans q2), (hfr5.cell (p := ⟨g, 3, none⟩) (Nat.lt_of_lt_of_le (lt_of_cell q3) hsA) hgn).trans ((hFZ.cell (p := ⟨g, 3, none⟩) (lt_of_cell q3) (fun h => h)).trans q3), (hfr5.cell (p := ⟨g, 4, none⟩) (Nat.lt_of_lt_of_le (lt_of_cell q4) hsA) hgn).trans ((hFZ.cell (p := ⟨g, 4, none⟩) (lt_of_cell q4) (fun h => h)).trans q4), (hfr5.cell (p := ⟨g, 5, none⟩) (Nat.lt_of_lt_of_le (lt_of_cell q5) hsA) hgn).trans ((hFZ.cell (p := ⟨g, 5, none⟩) (lt_of_cell q5) (fun h => h)).trans q5), (hfr5.cell (p := ⟨g, 6, none⟩) (Nat.lt_of_lt_of_le (lt_of_cell q6) hsA) hgn).trans ((hFZ.cell (p := ⟨g, 6, none⟩) (lt_of_cell q6) (fun h => h)).trans q6), (hfr5.cell (p := ⟨g, 7, none⟩) (Nat.lt_of_lt_of_le (lt_of_cell q7) hsA) hgn).trans ((hFZ.cell (p := ⟨g, 7, none⟩) (lt_of_cell q7) (fun h => h)).trans q7), (hfr5.cell (p := ⟨g, 8, none⟩) (Nat.lt_of_lt_of_le (lt_of_cell q8) hsA) hgn).trans ((hFZ.cell (p := ⟨g, 8, none⟩) (lt_of_cell q8) (fun h => h)).trans q8)⟩
          obtain ⟨⟨e0, e1, e2⟩, e3, e4, e5⟩ := blk3i hblk5
          refine hK.out _ _ hS5 (fun hHeld => ?_)
          clear hK K
          try simp only [Act.put, List.setIfInBounds_toArray, List.set_cons_zero, List.set_cons_succ]
          refine take_round (i := 7) (v := ?_) rfl (by kernel_rfl) (by kernel_rfl) (by kernel_rfl) (by rfl) (fun w' hSw => ?_) (by assumption) ?_
          rotate_left
          · (try dsimp only at hSw)
            go_simp
            try with_reducible rfl
          try simp only [Act.put, List.setIfInBounds_toArray, List.set_cons_zero, List.set_cons_succ]
          refine one_round (i := 8) (by kernel_rfl) rfl (fun K hK => ?_)
          go_simp
          have hgg : ∀ i v, wv.cell? ⟨g, i, none⟩ = some v → ∀ u, (wv.setCell ⟨g5, 2, none⟩ u).cell? ⟨g, i, none⟩ = some v := fun i v hv u => ((Fr.set1 _ _ _ _).cell (S := HK.One g5) (p := ⟨g, i, none⟩) (lt_of_cell hv) (fun e => by have e : g = g5 := e; have := HNN.out.2; omega)).trans hv
          refine hK.out _ _ ⟨hgg _ _ hS5.1 _, hgg _ _ hS5.2.1 _, hgg _ _ hS5.2.2.1 _, hgg _ _ hS5.2.2.2.1 _, hgg _ _ hS5.2.2.2.2.1 _, hgg _ _ hS5.2.2.2.2.2.1 _, hgg _ _ hS5.2.2.2.2.2.2.1 _, hgg _ _ hS5.2.2.2.2.2.2.2.1 _, hgg _ _ hS5.2.2.2.2.2.2.2.2 _⟩ (fun hHeld => ?_)
          clear hK K
          refine wpAnyH_done (by kernel_rfl) ⟨rfl, ?_⟩ _
          gi_wp2
          have hZ : Fr (fun b => b = g5 ∨ ob1 = some b) W2 (wv.setCell ⟨g5, 2, none⟩ (.slice A5 (k + 1) c5)) :=
            ((hFZ.mono (fun _ _ h => h.elim)).trans (hfr5.mono (S' := fun b => b = g5 ∨ ob1 = some b) (fun j _ e => .inr (Eq.symm e))) (fun _ _ h => h)).trans (Fr.set1 _ _ _ _) (fun j _ (e : j = g5) => .inl e)
          have hob5' : ∀ j, ob5 = some j → Y.heap.size ≤ j ∧ (j < gc ∨ gc + 4 ≤ j) := fun j hj => by
            have hYz : Y.heap.size = g5 + 1 := by have hYs := HY.out.2.2.1; rw [HY.out.2.2.2, World.size_alloc, hYs]
            rcases hob5 with h | ⟨i, h, hi⟩
            · exact HST.out.2.1 j (by rw [← h]; exact hj)
            · rw [h] at hj; injection hj with hj; have := HST.out.2.2.1.size; omega
          have hdis : ∀ b, gc ≤ b → b < gc + 4 → ¬ (b = g5 ∨ ob1 = some b) := fun b b1 b2 e => by
            rcases e with e | e
            · have := HL.out.2.1; omega
            · have := HST.out.2.1 b e; omega
          rw [← HO.out.2.1, ← colsC_snoc, ← imgL_succ] at hrow5
          refine ⟨fun b hb => hZ.block b (by omega) (hdis b (by omega) (by omega)), hZ.size, KeepLU.of_fr hZ (by omega) (fun b b1 b2 => hdis b (by omega) (by omega)), A5, c5, ?_, ob5, hrow5.fr (Fr.set1 _ _ _ _) (fun j hj e => by have e : j = g5 := e; have := hob5' j hj; have := HYZ.out; omega), hob5', ?_⟩
          · rw [heap_set _ g5 2 _ _ _ hblk5]; rfl
          · exact HST.out.2.2.1.trans hZ (fun j hj e => by
              rcases e with e | e
              · exact e
              · have := HST.out.2.1 j e; omega)
        · go_simp
          have hFZ : Fr No W2 (w6.alloc (.cells #[.int .u16 x, .int .u16 y, .int .u16 z, .int .u16 u] 38)) := hF6.alloc _
          refine hK.out _ _ ⟨(hFZ.cell (p := ⟨g, 0, none⟩) (lt_of_cell q0) (fun h => h)).trans q0, (hFZ.cell (p := ⟨g, 1, none⟩) (lt_of_cell q1) (fun h => h)).trans q1, (hFZ.cell (p := ⟨g, 2, none⟩) (lt_of_cell q2) (fun h => h)).trans q2, (hFZ.cell (p := ⟨g, 3, none⟩) (lt_of_cell q3) (fun h => h)).trans q3, (hFZ.cell (p := ⟨g, 4, none⟩) (lt_of_cell q4) (fun h => h)).trans q4, (hFZ.cell (p := ⟨g, 5, none⟩) (lt_of_cell q5) (fun h => h)).trans q5, (hFZ.cell (p := ⟨g, 6, none⟩) (lt_of_cell q6) (fun h => h)).trans q6, (hFZ.cell (p := ⟨g, 7, none⟩) (lt_of_cell q7) (fun h => h)).trans q7, (hFZ.cell (p := ⟨g, 8, none⟩) (lt_of_cell q8) (fun h => h)).trans q8⟩ (fun hHeld => ?_)
          clear hK K
          try simp only [Act.put, List.setIfInBounds_toArray, List.set_cons_zero, List.set_cons_succ]
          have e6 : ∀ o, (w6.alloc o).cell? ⟨g5, 2, none⟩ = some (.slice A1 k c1) := fun o => ((hF6.alloc o).cell (p := ⟨g5, 2, none⟩) (lt_of_cell p2) (fun h => h)).trans p2
          refine one_round (i := 1) (by kernel_rfl) rfl (fun K hK => ?_)
          go_simp
          refine hK.out _ _ hHeld (fun hHeld => ?_)
          clear hK K e6
          try simp only [Act.put, List.setIfInBounds_toArray, List.set_cons_zero, List.set_cons_succ]
          refine one_round (i := 6) (by kernel_rfl) rfl (fun K hK => ?_)
          refine step_app slC4 rfl (.tmp 29) (.tmp 33) rfl rfl (HST.out.1.fr (S := No) hFZ (fun _ _ h => h)) rfl (m := 1) (c := 1) (ys := [.int .u16 x, .int .u16 y, .int .u16 z, .int .u16 u]) rfl (cells_new _ _ _) (by simp [Value.oneCell']) (by omega) (by omega) ?_
          intro A5 c5 wv ob5 hrow5 hfr5 hob5
          have hsA := hFZ.size
          have hgn : ¬ Opt ob1 g := fun e => by have := HYZ.out; have := HST.out.2.1 g e.symm; have := HNN.out.2; omega
          have hg5n : ¬ Opt ob1 g5 := fun e => by have := HYZ.out; have := HST.out.2.1 g5 e.symm; omega
          have hblk5 := (hfr5.block g5 (Nat.lt_of_lt_of_le hl5 hsA) hg5n).trans ((hFZ.block g5 hl5 (fun h => h)).trans HST.out.2.2.2)
          have hS5 : (fun W' => W'.cell? ⟨g, 0, none⟩ = some (.int .i64 W) ∧ W'.cell? ⟨g, 1, none⟩ = some (.int .i64 H) ∧ W'.cell? ⟨g, 2, none⟩ = some (.int .i64 C) ∧ W'.cell? ⟨g, 3, none⟩ = some (.int .i64 D) ∧ W'.cell? ⟨g, 4, none⟩ = some (.bool L) ∧ W'.cell? ⟨g, 5, none⟩ = some (.slice tA nt tc) ∧ W'.cell? ⟨g, 6, none⟩ = some (.slice aA na ac) ∧ W'.cell? ⟨g, 7, none⟩ = some (.slice cA nc cc) ∧ W'.cell? ⟨g, 8, none⟩ = some (.slice sA ns sc)) wv := ⟨(hfr5.cell (p := ⟨g, 0, none⟩) (Nat.lt_of_lt_of_le (lt_of_cell q0) hsA) hgn).trans ((hFZ.cell (p := ⟨g, 0, none⟩) (lt_of_cell q0) (fun h => h)).trans q0), (hfr5.cell (p := ⟨g, 1, none⟩) (Nat.lt_of_lt_of_le (lt_of_cell q1) hsA) hgn).trans ((hFZ.cell (p := ⟨g, 1, none⟩) (lt_of_cell q1) (fun h => h)).trans q1), (hfr5.cell (p := ⟨g, 2, none⟩) (Nat.lt_of_lt_of_le (lt_of_cell q2) hsA) hgn).trans ((hFZ.cell (p := ⟨g, 2, none⟩) (lt_of_cell q2) (fun h => h)).trans q2), (hfr5.cell (p := ⟨g, 3, none⟩) (Nat.lt_of_lt_of_le (lt_of_cell q3) hsA) hgn).trans ((hFZ.cell (p := ⟨g, 3, none⟩) (lt_of_cell q3) (fun h => h)).trans q3), (hfr5.cell (p := ⟨g, 4, none⟩) (Nat.lt_of_lt_of_le (lt_of_cell q4) hsA) hgn).trans ((hFZ.cell (p := ⟨g, 4, none⟩) (lt_of_cell q4) (fun h => h)).trans q4), (hfr5.cell (p := ⟨g, 5, none⟩) (Nat.lt_of_lt_of_le (lt_of_cell q5) hsA) hgn).trans ((hFZ.cell (p := ⟨g, 5, none⟩) (lt_of_cell q5) (fun h => h)).trans q5), (hfr5.cell (p := ⟨g, 6, none⟩) (Nat.lt_of_lt_of_le (lt_of_cell q6) hsA) hgn).trans ((hFZ.cell (p := ⟨g, 6, none⟩) (lt_of_cell q6) (fun h => h)).trans q6), (hfr5.cell (p := ⟨g, 7, none⟩) (Nat.lt_of_lt_of_le (lt_of_cell q7) hsA) hgn).trans ((hFZ.cell (p := ⟨g, 7, none⟩) (lt_of_cell q7) (fun h => h)).trans q7), (hfr5.cell (p := ⟨g, 8, none⟩) (Nat.lt_of_lt_of_le (lt_of_cell q8) hsA) hgn).trans ((hFZ.cell (p := ⟨g, 8, none⟩) (lt_of_cell q8) (fun h => h)).trans q8)⟩
          obtain ⟨⟨e0, e1, e2⟩, e3, e4, e5⟩ := blk3i hblk5
          refine hK.out _ _ hS5 (fun hHeld => ?_)
          clear hK K
          try simp only [Act.put, List.setIfInBounds_toArray, List.set_cons_zero, List.set_cons_succ]
          refine take_round (i := 7) (v := ?_) rfl (by kernel_rfl) (by kernel_rfl) (by kernel_rfl) (by rfl) (fun w' hSw => ?_) (by assumption) ?_
          rotate_left
          · (try dsimp only at hSw)
            go_simp
            try with_reducible rfl
          try simp only [Act.put, List.setIfInBounds_toArray, List.set_cons_zero, List.set_cons_succ]
          refine one_round (i := 8) (by kernel_rfl) rfl (fun K hK => ?_)
          go_simp
          have hgg : ∀ i v, wv.cell? ⟨g, i, none⟩ = some v → ∀ u, (wv.setCell ⟨g5, 2, none⟩ u).cell? ⟨g, i, none⟩ = some v := fun i v hv u => ((Fr.set1 _ _ _ _).cell (S := HK.One g5) (p := ⟨g, i, none⟩) (lt_of_cell hv) (fun e => by have e : g = g5 := e; have := HNN.out.2; omega)).trans hv
          refine hK.out _ _ ⟨hgg _ _ hS5.1 _, hgg _ _ hS5.2.1 _, hgg _ _ hS5.2.2.1 _, hgg _ _ hS5.2.2.2.1 _, hgg _ _ hS5.2.2.2.2.1 _, hgg _ _ hS5.2.2.2.2.2.1 _, hgg _ _ hS5.2.2.2.2.2.2.1 _, hgg _ _ hS5.2.2.2.2.2.2.2.1 _, hgg _ _ hS5.2.2.2.2.2.2.2.2 _⟩ (fun hHeld => ?_)
          clear hK K
          refine wpAnyH_done (by kernel_rfl) ⟨rfl, ?_⟩ _
          gi_wp2
          have hZ : Fr (fun b => b = g5 ∨ ob1 = some b) W2 (wv.setCell ⟨g5, 2, none⟩ (.slice A5 (k + 1) c5)) :=
            ((hFZ.mono (fun _ _ h => h.elim)).trans (hfr5.mono (S' := fun b => b = g5 ∨ ob1 = some b) (fun j _ e => .inr (Eq.symm e))) (fun _ _ h => h)).trans (Fr.set1 _ _ _ _) (fun j _ (e : j = g5) => .inl e)
          have hob5' : ∀ j, ob5 = some j → Y.heap.size ≤ j ∧ (j < gc ∨ gc + 4 ≤ j) := fun j hj => by
            have hYz : Y.heap.size = g5 + 1 := by have hYs := HY.out.2.2.1; rw [HY.out.2.2.2, World.size_alloc, hYs]
            rcases hob5 with h | ⟨i, h, hi⟩
            · exact HST.out.2.1 j (by rw [← h]; exact hj)
            · rw [h] at hj; injection hj with hj; have := HST.out.2.2.1.size; omega
          have hdis : ∀ b, gc ≤ b → b < gc + 4 → ¬ (b = g5 ∨ ob1 = some b) := fun b b1 b2 e => by
            rcases e with e | e
            · have := HL.out.2.1; omega
            · have := HST.out.2.1 b e; omega
          rw [← HO.out.2.1, ← colsC_snoc, ← imgL_succ] at hrow5
          refine ⟨fun b hb => hZ.block b (by omega) (hdis b (by omega) (by omega)), hZ.size, KeepLU.of_fr hZ (by omega) (fun b b1 b2 => hdis b (by omega) (by omega)), A5, c5, ?_, ob5, hrow5.fr (Fr.set1 _ _ _ _) (fun j hj e => by have e : j = g5 := e; have := hob5' j hj; have := HYZ.out; omega), hob5', ?_⟩
          · rw [heap_set _ g5 2 _ _ _ hblk5]; rfl
          · exact HST.out.2.2.1.trans hZ (fun j hj e => by
              rcases e with e | e
              · exact e
              · have := HST.out.2.1 j e; omega)
    case done =>
      rintro W' ⟨A1, c1, ob1, h1, h2, h3, h4⟩ hD
      rw [hsl] at hD
      have hYz : Y.heap.size = g5 + 1 := by have hYs := HY.out.2.2.1; rw [HY.out.2.2.2, World.size_alloc, hYs]
      have hgi : g + 1 < w4.heap.size := (Array.getElem?_eq_some_iff.1 H4.out.1).1
      have hbi : W'.heap[g + 1]? = some (.cells #[.int .i64 0, .int .i64 0, .slice none 0 0] 52 (0, 0)) :=
        (h4.block (g + 1) (by have := HY.out.2.2.1; omega) (fun e => by have e : g + 1 = g5 := e; have := HY.out.2.2.1; omega)).trans ((HY.out.1.block (g + 1) hgi (fun h => h)).trans H4.out.1)
      obtain ⟨⟨p0, p1, p2⟩, -⟩ := blk3i h1
      obtain ⟨⟨z0, z1, z2⟩, f0, f1, f2⟩ := blk3i hbi
      have HZ := hid (And.intro h2 (And.intro h3 (And.intro h4 hbi)))
      clear hYz h1 h2 h3 h4 hbi
      go_wp2_with fail
      obtain ⟨V, hV3⟩ : ∃ V, V = ((W'.setCell ⟨g + 1, 0, none⟩ (.int .i64 W)).setCell ⟨g + 1, 1, none⟩ (.int .i64 H)).setCell ⟨g + 1, 2, none⟩ (.slice A1 N c1) := ⟨_, rfl⟩
      rw [← hV3]
      have hbV : V.heap[g + 1]? = some (.cells #[.int .i64 W, .int .i64 H, .slice A1 N c1] 52 (0, 0)) := by rw [hV3]; exact set3i HZ.out.2.2.2
      have hfV : Fr (HK.One (g + 1)) W' V := by rw [hV3]; exact fr3i _ _ _ (Fr.refl _ _) (fun _ => rfl)
      have h15 : g + 1 < g5 := by have := (Array.getElem?_eq_some_iff.1 H4.out.1).1; have := HY.out.2.2.1; omega
      have h5c := HL.out.2.1
      have hD2 := (hfV.block (gc + 2) (Array.getElem?_eq_some_iff.1 hD).1 (fun e => by have e : gc + 2 = g + 1 := e; omega)).trans hD
      refine ⟨by simp, .inl ⟨_, _, rfl, run_takeDeferred (by rw [hsl]; exact hD2), ?_⟩⟩
      have hP : ∀ o, Fr (HK.One wl.heap.size) V (V.putObj wl.heap.size o) := fun o => Fr.putObj _ _ _
      have hbP : ∀ o, (V.putObj wl.heap.size o).heap[g + 1]? = some (.cells #[.int .i64 W, .int .i64 H, .slice A1 N c1] 52 (0, 0)) := fun o => ((hP o).block (g + 1) (Array.getElem?_eq_some_iff.1 hbV).1 (fun e => by have e : g + 1 = wl.heap.size := e; omega)).trans hbV
      refine ⟨_, results_img rfl (er := .int .i64 0) (hbP _) rfl rfl, ?_⟩
      have hn0 : imgN ro = n := by unfold imgN; rw [HN.out.2.2.2.2.2.1]; rfl
      have hK0 : imgK ro = N := by unfold imgK; rw [hn0, HN.out.2.2.2.2.1, Nat.mul_div_cancel _ (by omega)]
      have h0 : chkS ro = 0 := HE.out.symm
      have hYz : Y.heap.size = g5 + 1 := by have hYs := HY.out.2.2.1; rw [HY.out.2.2.2, World.size_alloc, hYs]
      have hww := (HW.out.2.2.1.then (HX.out.2.2.1.then H4.out.2.1)).size
      have hg5' := HY.out.2.2.1
      have hFw : Fr No w W' := ((HW.out.2.2.1.then (HX.out.2.2.1.then H4.out.2.1)).then HY.out.1).trans HZ.out.2.2.1 (fun q hq e => by have e : q = g5 := e; omega)
      have hgw : w.heap.size ≤ g + 1 := by have := HW.out.2.1; omega
      have hlen : (imgC ro).length = N := by unfold imgC; rw [if_pos h0, hn0, hK0, imgL_length]
      refine ⟨A1, N, c1, ob1, ?_, hlen.symm, ?_, fun q hq => ?_, (hFw.trans hfV (fun q hq e => by have e : q = g + 1 := e; omega)).trans (hP _) (fun q hq e => by have e : q = wl.heap.size := e; omega)⟩
      · unfold imgW imgH; rw [if_pos h0, if_pos h0, h0, HRO.out]
      · have : imgC ro = imgL ro n N := by unfold imgC; rw [if_pos h0, hn0, hK0]
        rw [this]
        exact (HZ.out.1.fr hfV (fun q hq e => by have e : q = g + 1 := e; have := HZ.out.2.1 q hq; omega)).fr (hP _) (fun q hq e => by have e : q = wl.heap.size := e; have := HZ.out.2.1 q hq; omega)
      · have := HZ.out.2.1 q hq
        omega

  · have hb0 : (E != 0) = true := by rw [bne_iff_ne]; exact hE0
    have HF2 := hid (HFIN.out hE0)
    clear hE0
    go_enter Try.func22, Try.ntmps22
    go_wp2_with fail
    rw [← HW.out.1, ← HW.out.2.1, ← HX.out.1, ← HW.out.2.2.2.2.1, HV.out]
    refine (HCK.out _ (HW.out.2.2.1.then HX.out.2.2.1)).mono ?_
    rintro e w4 ⟨rfl, hf4⟩
    have hb4 := (hf4.block (g + 1) (Array.getElem?_eq_some_iff.1 HX.out.2.1).1 (fun h => h)).trans HX.out.2.1
    obtain ⟨⟨z0, z1, z2⟩, f0, f1, f2⟩ := blk3i hb4
    have H4 := hid (And.intro hb4 hf4)
    clear hb4 hf4
    go_wp2_with fail
    refine ret_img rfl (g := g + 1) (set3i H4.out.1) rfl rfl rfl ?_
    exact HF2.out _ _ ((HW.out.2.2.1.then HX.out.2.2.1).then H4.out.2) (by have := HW.out.2.1; omega)
end Go.Proofs.Ytdbbkdlocmafgaa

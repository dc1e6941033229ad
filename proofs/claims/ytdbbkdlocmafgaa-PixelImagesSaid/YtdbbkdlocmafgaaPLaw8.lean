/- PixelImages' walk. -/
import Derived.Test.YtdbbkdlocmafgaaPLaw4
import Derived.Test.YtdbbkdlocmafgaaImg
namespace Go.Proofs.Ytdbbkdlocmafgaa
open Go.RowKit Go.Proofs.HK
set_option linter.unusedVariables false
set_option linter.unusedSimpArgs false
attribute [local go_sem] max2_int min2_int max_two min_two

theorem oneII (xs : List Int) : ∀ u ∈ xs.map II, u.oneCell' = true := by
  intro u hu
  obtain ⟨x, _, rfl⟩ := List.mem_map.1 hu
  rfl
theorem HX8 {w X : World} {A : Option Addr} {n c : Nat} {ob : Option Nat} {cs : List Value} (h : Row w 4 (.slice A n c) ob n cs) (hf : Fr No w X) : Cells X A cs := by
  obtain ⟨A', c', e, _, h2, _⟩ := h.cells
  injection e with e1 _ _
  subst e1
  exact h2.fr hf (fun _ _ h => h)
theorem froz9 {W : World} {g : Nat} {v0 v1 v2 v3 v4 v5 v6 v7 v8 : Value} {t : TypeId} (hb : W.heap[g]? = some (.cells #[v0, v1, v2, v3, v4, v5, v6, v7, v8] t (0, 0))) : W.frozen? ⟨g, 8, none⟩ = false := by
  simp [World.frozen?, hb]
theorem set9 {W : World} {g : Nat} {v0 v1 v2 v3 v4 v5 v6 v7 v8 x : Value} {t : TypeId} (hb : W.heap[g]? = some (.cells #[v0, v1, v2, v3, v4, v5, v6, v7, v8] t (0, 0))) :
    (W.setCell ⟨g, 8, none⟩ x).heap[g]? = some (.cells #[v0, v1, v2, v3, v4, v5, v6, v7, x] t (0, 0)) := by
  rw [heap_set _ g 8 _ t x hb]
  rfl
set_option maxRecDepth 100000 in
set_option maxHeartbeats 3200000 in
theorem pixelImages_w (r : RS) (w : World) (hr : r.rd w) : Calls Try.prog 9 #[r.v] w fun e w' => e = .returned (.bool true) ∧ Fr No w w' := by
  obtain ⟨FB, hFB⟩ : ∃ b, b = fewB r := ⟨_, rfl⟩
  have hok : FB = true → r.ok w := fun h => hr.ok (by rw [← hFB]; exact h)
  have HF := hid hFB
  have HOK := hid hok
  obtain ⟨K, hK⟩ : ∃ K, K = chkS r := ⟨_, rfl⟩
  obtain ⟨IW, hIW⟩ : ∃ K, K = imgW r := ⟨_, rfl⟩
  obtain ⟨IH, hIH⟩ : ∃ K, K = imgH r := ⟨_, rfl⟩
  obtain ⟨IL, hIL⟩ : ∃ K, K = imgC r := ⟨_, rfl⟩
  obtain ⟨nl, hnl⟩ : ∃ K, K = IL.length := ⟨_, rfl⟩
  have hself : (K == K) = true := by simp
  have few_c := fun w => few_calls r w
  rw [← HF.out] at few_c
  have FC := hid few_c
  have img_c : FB = true → ∀ w', Fr No w w' → ∀ A' c', Rd II w' A' r.sa → r.sa.length ≤ c' → Calls Try.prog 22 #[(RS.mk r.W r.H r.C r.D r.L r.tA r.ts r.tc r.aA r.al r.ac r.cA r.cl r.cc A' r.sa c').v] w' fun e w'' => ∃ A c ob, e = .returned (.tuple #[.agg #[.int .i64 IW, .int .i64 IH, .slice A nl c], .int .i64 K]) ∧ Row w'' 4 (.slice A nl c) ob nl (colsC IL) ∧ (∀ k, ob = some k → w'.heap.size ≤ k) ∧ Fr No w' w'' := fun h w' hf A' c' h1 h2 => by
    have h0 := (HOK.out h).fr hf
    refine (image_calls (RS.mk r.W r.H r.C r.D r.L r.tA r.ts r.tc r.aA r.al r.ac r.cA r.cl r.cc A' r.sa c') w' ⟨h0.t, h0.a, h0.c, h1, h0.tcap, h0.acap, h0.ccap, h2, h0.tl, h0.al, h0.cl, h0.sl⟩).mono ?_
    rintro e w'' ⟨A, n, c, ob, e1, e2, e3, e4, e5⟩
    have hn : n = nl := by rw [e2, hnl, hIL]; rfl
    subst hn
    exact ⟨A, c, ob, by rw [e1, hIW, hIH, hK]; rfl, by rw [hIL]; exact e3, e4, e5⟩
  have rimg_c : FB = true → ∀ w', Fr No w w' → Calls Try.prog 23 #[r.v] w' fun e w'' => ∃ A c ob, e = .returned (.tuple #[.agg #[.int .i64 IW, .int .i64 IH, .slice A nl c], .int .i64 K]) ∧ Row w'' 4 (.slice A nl c) ob nl (colsC IL) ∧ (∀ k, ob = some k → w'.heap.size ≤ k) ∧ Fr No w' w'' := fun h w' hf => by
    refine (refImage_calls r w' ((HOK.out h).fr hf)).mono ?_
    rintro e w'' ⟨A, n, c, ob, e1, e2, e3, e4, e5⟩
    have hn : n = nl := by rw [e2, hnl, hIL]
    subst hn
    exact ⟨A, c, ob, by rw [e1, hIW, hIH, hK], by rw [hIL]; exact e3, e4, e5⟩
  have hnle : FB = true → nl ≤ 5000 := fun h => by
    have h0 := (HOK.out h).sl
    rw [hnl, hIL]
    unfold imgC
    split
    · rw [imgL_length]; unfold imgK; exact Nat.le_trans (Nat.div_le_self _ _) h0
    · simp
  have hsr : FB = true → Rd II w r.sA r.sa ∧ r.sa.length ≤ r.sc ∧ r.sa.length ≤ 5000 := fun h => ⟨(HOK.out h).s, (HOK.out h).scap, (HOK.out h).sl⟩
  have HSR := hid hsr
  have CC := hid (And.intro img_c rimg_c)
  have HNL := hid (And.intro hnle hnl.symm)
  clear few_c img_c rimg_c HF HOK hFB hok hr hK hIW hIH hIL hnl hnle hsr
  obtain ⟨W, H, C, D, L, tA, ts, tc, aA, al, ac, cA, cl, cc, sA, sa, sc⟩ := r
  obtain ⟨nt, hnt⟩ : ∃ n, n = ts.length := ⟨_, rfl⟩
  obtain ⟨na, hna⟩ : ∃ n, n = al.length := ⟨_, rfl⟩
  obtain ⟨nc, hnc⟩ : ∃ n, n = cl.length := ⟨_, rfl⟩
  obtain ⟨ns, hns⟩ : ∃ n, n = sa.length := ⟨_, rfl⟩
  obtain ⟨v, hv⟩ : ∃ v, v = (RS.mk W H C D L tA ts tc aA al ac cA cl cc sA sa sc).v := ⟨_, rfl⟩
  have hv2 : v = .agg #[.int .i64 W, .int .i64 H, .int .i64 C, .int .i64 D, .bool L, .slice tA nt tc, .slice aA na ac, .slice cA nc cc, .slice sA ns sc] := by rw [hv, hnt, hna, hnc, hns]; rfl
  rw [← hv]
  have HV := hid (And.intro hv (And.intro hns (And.intro hnt (And.intro hna hnc))))
  rw [← hv] at FC CC
  rw [hv2]
  obtain ⟨w2, hw2⟩ : ∃ w2, w2 = w.alloc (.cells #[.int .i64 W, .int .i64 H, .int .i64 C, .int .i64 D, .bool L, .slice tA nt tc, .slice aA na ac, .slice cA nc cc, .slice sA ns sc] 34) := ⟨_, rfl⟩
  obtain ⟨g, hg⟩ : ∃ g, g = w.heap.size := ⟨_, rfl⟩
  have hf2 : Fr No w w2 := by rw [hw2]; exact (Fr.refl _ _).alloc _
  have hb9 : w2.heap[g]? = some (.cells #[.int .i64 W, .int .i64 H, .int .i64 C, .int .i64 D, .bool L, .slice tA nt tc, .slice aA na ac, .slice cA nc cc, .slice sA ns sc] 34 (0, 0)) := by rw [hw2, hg]; exact heap_new _ _
  have hcell : ∀ X, Fr No w2 X → X.heap[g]? = some (.cells #[.int .i64 W, .int .i64 H, .int .i64 C, .int .i64 D, .bool L, .slice tA nt tc, .slice aA na ac, .slice cA nc cc, .slice sA ns sc] 34 (0, 0)) := fun X hf => (hf.block g (Array.getElem?_eq_some_iff.1 hb9).1 (fun h => h)).trans hb9
  have hgs : g < w2.heap.size := (Array.getElem?_eq_some_iff.1 hb9).1
  have HC := hid hcell
  have HW := hid (And.intro hw2 (And.intro hg (And.intro hf2 hv2)))
  clear hv hv2 hw2 hg hf2 hb9 hcell hnt hna hnc hns
  cases FB with
  | false =>
    go_enter Try.func9, Try.ntmps9
    go_wp2_with fail
    rw [← HW.out.1, ← HW.out.2.1]
    refine (fixed15_calls _).mono ?_
    rintro e w3 ⟨rfl, hf3⟩
    have hw3 := hid (HW.out.2.2.1.then hf3)
    obtain ⟨q0, q1, q2, q3, q4, q5, q6, q7, q8⟩ := blk9 (HC.out w3 hf3)
    have hf3' := hid hf3
    clear hf3
    go_wp2_with fail
    rw [← HW.out.2.2.2]
    refine (FC.out _).mono ?_
    rintro e w6 ⟨rfl, hf6⟩
    have hw6 := hid (hw3.out.then hf6)
    clear q0 q1 q2 q3 q4 q5 q6 q7 q8
    obtain ⟨q0, q1, q2, q3, q4, q5, q6, q7, q8⟩ := blk9 (HC.out w6 (hf3'.out.then hf6))
    have hf6' := hid (hf3'.out.then hf6)
    clear hf6
    go_wp2_with fail
    go_ret
    exact ⟨rfl, hw6.out⟩
  | true =>
    have hnle := HNL.out.1 rfl
    have hs5 := (HSR.out rfl).2.2
    have HS := hid (HSR.out rfl)
    have CC2 := hid (And.intro (CC.out.1 rfl) (CC.out.2 rfl))
    clear CC
    have CC := CC2
    clear CC2
    have hs5' : ns ≤ 5000 := by rw [HV.out.2.1]; exact hs5
    clear hs5 HSR
    go_enter Try.func9, Try.ntmps9
    go_wp2_with fail
    rw [← HW.out.1, ← HW.out.2.1]
    refine (fixed15_calls _).mono ?_
    rintro e w3 ⟨rfl, hf3⟩
    have hw3 := hid (HW.out.2.2.1.then hf3)
    obtain ⟨q0, q1, q2, q3, q4, q5, q6, q7, q8⟩ := blk9 (HC.out w3 hf3)
    have hf3' := hid hf3
    clear hf3
    go_wp2_with fail
    rw [← HW.out.2.2.2]
    refine (FC.out _).mono ?_
    rintro e w6 ⟨rfl, hf6⟩
    have hw6 := hid (hw3.out.then hf6)
    clear q0 q1 q2 q3 q4 q5 q6 q7 q8
    obtain ⟨q0, q1, q2, q3, q4, q5, q6, q7, q8⟩ := blk9 (HC.out w6 (hf3'.out.then hf6))
    have hf6' := hid (hf3'.out.then hf6)
    clear hf6
    have hg6 : g < w6.heap.size := lt_of_cell q0
    have al6 : ∀ (i : Nat) (v : Value), w6.cell? ⟨g, i, none⟩ = some v → ∀ o o', ((w6.alloc o).alloc o').cell? ⟨g, i, none⟩ = some v := fun i v h o o' => ((((Fr.refl No w6).alloc o).alloc o').cell (p := ⟨g, i, none⟩) (lt_of_cell h) (fun h => h)).trans h
    have q8' := al6 _ _ q8
    clear al6
    obtain ⟨h, hh⟩ : ∃ h, h = w6.heap.size := ⟨_, rfl⟩
    have hY0 : (((w6.alloc (.cells #[.int .i64 W, .int .i64 H, .int .i64 C, .int .i64 D, .bool L, .slice tA nt tc, .slice aA na ac, .slice cA nc cc, .slice sA ns sc] 34)).alloc (.cells #[] 3)).heap[h]?) = some (.cells #[.int .i64 W, .int .i64 H, .int .i64 C, .int .i64 D, .bool L, .slice tA nt tc, .slice aA na ac, .slice cA nc cc, .slice sA ns sc] 34 (0, 0)) := by
      rw [hh]; exact (((Fr.refl No (w6.alloc _)).alloc _).block w6.heap.size (by simp) (fun h => h)).trans (heap_new w6 _)
    have hYr : Row ((w6.alloc (.cells #[.int .i64 W, .int .i64 H, .int .i64 C, .int .i64 D, .bool L, .slice tA nt tc, .slice aA na ac, .slice cA nc cc, .slice sA ns sc] 34)).alloc (.cells #[] 3)) 1 (.slice (some ⟨h + 1, 0, none⟩) 0 0) (some (h + 1)) 0 [] := by
      have := Row.new (w6.alloc (.cells #[.int .i64 W, .int .i64 H, .int .i64 C, .int .i64 D, .bool L, .slice tA nt tc, .slice aA na ac, .slice cA nc cc, .slice sA ns sc] 34)) 1 0 [] 3 rfl (by omega)
      rw [World.size_alloc, ← hh] at this; exact this
    have hYf : Fr No w6 ((w6.alloc (.cells #[.int .i64 W, .int .i64 H, .int .i64 C, .int .i64 D, .bool L, .slice tA nt tc, .slice aA na ac, .slice cA nc cc, .slice sA ns sc] 34)).alloc (.cells #[] 3)) := ((Fr.refl No w6).alloc _).alloc _
    obtain ⟨Y, hY⟩ : ∃ Y, Y = (w6.alloc (.cells #[.int .i64 W, .int .i64 H, .int .i64 C, .int .i64 D, .bool L, .slice tA nt tc, .slice aA na ac, .slice cA nc cc, .slice sA ns sc] 34)).alloc (.cells #[] 3) := ⟨_, rfl⟩
    have hYs : Y.heap.size = h + 2 := by rw [hY, World.size_alloc, World.size_alloc, hh]
    rw [← hY] at hY0 hYr hYf
    have HY := hid (And.intro hY0 (And.intro hYr (And.intro hYf (And.intro hYs (And.intro hh hY)))))
    clear hY0 hYr hYf hYs hY hh
    go_wp2_with (at_builtin; rw [← HY.out.2.2.2.2.2, ← HY.out.2.2.2.2.1]; refine wpList_app slII rfl (.tmp 14) (.tmp 16) rfl (v := .slice (some ⟨h + 1, 0, none⟩) 0 0) rfl HY.out.2.1 rfl (by rw [List.length_map, Nat.mul_one]; exact HV.out.2.1.symm) (Rd.cells.1 ((HS.out.1.fr0 hw6.out).fr0 HY.out.2.2.1)) (oneII sa) (by omega) (by omega) ?_; intro A7 c7 w7 ob7 hv7 hf7 hob7; simp only [Nat.zero_add, List.nil_append] at hv7 ⊢; have hb7 := (hf7.block h (by have := HY.out.2.2.2.1; omega) (fun e => by have e := Option.some.inj e; omega)).trans HY.out.1; obtain ⟨o0, o1, o2, o3, o4, o5, o6, o7, o8⟩ := blk9 hb7; have o9 := froz9 hb7; have H7 := hid (And.intro hv7 (And.intro hf7 (And.intro hob7 hb7))); clear hv7 hf7 hob7 hb7; (try clear q8'); (try clear q0 q1 q2 q3 q4 q5 q6 q7 q8))
    obtain ⟨Z, hZ⟩ : ∃ Z, Z = w7.setCell ⟨h, 8, none⟩ (.slice A7 ns c7) := ⟨_, rfl⟩
    rw [← hZ]
    have hbZ : Z.heap[h]? = some (.cells #[.int .i64 W, .int .i64 H, .int .i64 C, .int .i64 D, .bool L, .slice tA nt tc, .slice aA na ac, .slice cA nc cc, .slice A7 ns c7] 34 (0, 0)) := by rw [hZ]; exact set9 H7.out.2.2.2
    have hfZ7 : Fr (HK.One h) w7 Z := by rw [hZ]; exact Fr.set1 _ _ _ _
    have hob7' : ∀ q, ob7 = some q → h < q := fun q hq => by
      have := HY.out.2.2.2.1
      rcases H7.out.2.2.1 with e | ⟨i, e, hi⟩
      · rw [e] at hq; injection hq with hq; omega
      · rw [e] at hq; injection hq with hq; omega
    have hf67 : Fr No w6 w7 := HY.out.2.2.1.fresh H7.out.2.1 (fun k e => by have e := Option.some.inj e; have := HY.out.2.2.2.2.1; omega)
    have hf6Z : Fr No w6 Z := hf67.trans hfZ7 (fun q hq e => by have e : q = h := e; have := HY.out.2.2.2.2.1; omega)
    have hrZ := (H7.out.1.fr hfZ7 (fun q hq e => by have e : q = h := e; have := hob7' q hq; omega))
    have HZ := hid (And.intro hbZ (And.intro hf6Z hrZ))
    clear hZ hbZ hfZ7 hob7' hf67 hf6Z hrZ o0 o1 o2 o3 o4 o5 o6 o7 o8 o9
    have hov : (RS.mk W H C D L tA ts tc aA al ac cA cl cc A7 sa c7).v = .agg #[.int .i64 W, .int .i64 H, .int .i64 C, .int .i64 D, .bool L, .slice tA nt tc, .slice aA na ac, .slice cA nc cc, .slice A7 ns c7] := by rw [HV.out.2.1, HV.out.2.2.1, HV.out.2.2.2.1, HV.out.2.2.2.2]; rfl
    have hcall := CC.out.1 Z (hw6.out.then HZ.out.2.1) A7 c7 HZ.out.2.2.rd.1 (by have := HZ.out.2.2.rd.2; rw [← HV.out.2.1]; omega)
    rw [hov] at hcall
    refine hcall.mono ?_
    clear hcall hov
    rintro e w8 ⟨A8, c8, ob8, rfl, hv8, hk8, hf8⟩
    have hw8 := hid ((hw6.out.then HZ.out.2.1).then hf8)
    have hb8 := (hf8.block h (Array.getElem?_eq_some_iff.1 HZ.out.1).1 (fun h => h)).trans HZ.out.1
    have hg8 : g < w8.heap.size := Nat.lt_of_lt_of_le hgs ((hf6'.out.then HZ.out.2.1).then hf8).size
    have hb8g := HC.out w8 ((hf6'.out.then HZ.out.2.1).then hf8)
    have al8 : ∀ (k i : Nat) (v : Value), w8.cell? ⟨k, i, none⟩ = some v → ∀ o, (w8.alloc o).cell? ⟨k, i, none⟩ = some v := fun k i v h o => (((Fr.refl No w8).alloc o).cell (p := ⟨k, i, none⟩) (lt_of_cell h) (fun h => h)).trans h
    have H8 := hid (And.intro hv8 (And.intro hk8 (And.intro hf8 (And.intro hb8 hb8g))))
    obtain ⟨q0, q1, q2, q3, q4, q5, q6, q7, q8⟩ := blk9 hb8g
    have q0 := al8 _ _ _ q0
    have q1 := al8 _ _ _ q1
    have q2 := al8 _ _ _ q2
    have q3 := al8 _ _ _ q3
    have q4 := al8 _ _ _ q4
    have q5 := al8 _ _ _ q5
    have q6 := al8 _ _ _ q6
    have q7 := al8 _ _ _ q7
    have q8 := al8 _ _ _ q8
    clear al8 hv8 hk8 hf8 hb8 hb8g
    go_wp2_with fail
    rw [← HW.out.2.2.2]
    refine (CC.out.2 _ (hw8.out.alloc _)).mono ?_
    obtain ⟨k4, hk4⟩ : ∃ k, k = w8.heap.size := ⟨_, rfl⟩
    rw [← hk4]
    rintro e w9 ⟨A9, c9, ob9, rfl, hv9, hk9, hf9⟩
    have hf89 : Fr No w8 w9 := ((Fr.refl No w8).alloc _).then hf9
    have hw9 := hid (hw8.out.then hf89)
    have hb9h := (hf89.block h (Array.getElem?_eq_some_iff.1 H8.out.2.2.2.1).1 (fun h => h)).trans H8.out.2.2.2.1
    have hb9g := (hf89.block g (Array.getElem?_eq_some_iff.1 H8.out.2.2.2.2).1 (fun h => h)).trans H8.out.2.2.2.2
    have hb9i : w9.heap[k4]? = some (.cells #[.int .i64 IW, .int .i64 IH, .slice A8 nl c8] 52 (0, 0)) := (hf9.block k4 (by rw [hk4]; simp) (fun h => h)).trans (by rw [hk4]; exact heap_new _ _)
    have hv8' : Row w9 4 (.slice A8 nl c8) ob8 nl (colsC IL) := H8.out.1.fr hf89 (fun _ _ h => h)
    have hX : ∀ X, X = w9.alloc (.cells #[.int .i64 IW, .int .i64 IH, .slice A9 nl c9] 52) → (∀ k o, w9.heap[k]? = some o → X.heap[k]? = some o) := fun X e k o h => by
      rw [e]; exact (((Fr.refl No w9).alloc _).block k (Array.getElem?_eq_some_iff.1 h).1 (fun h => h)).trans h
    have H9 := hid (And.intro hv8' (And.intro hv9 (And.intro hf89 (And.intro hb9h (And.intro hb9g (And.intro hb9i (And.intro hk4 hX)))))))
    clear q0 q1 q2 q3 q4 q5 q6 q7 q8 hf9 hk9 hk4 hv8' hv9 hf89 hb9h hb9g hb9i hX
    have al9 : ∀ (k i : Nat) (v : Value), w9.cell? ⟨k, i, none⟩ = some v → ∀ o, (w9.alloc o).cell? ⟨k, i, none⟩ = some v := fun k i v h o => (((Fr.refl No w9).alloc o).cell (p := ⟨k, i, none⟩) (lt_of_cell h) (fun h => h)).trans h
    obtain ⟨i0, i1, i2⟩ := (blk3i H9.out.2.2.2.2.2.1).1
    have i0 := al9 _ _ _ i0
    have i1 := al9 _ _ _ i1
    have i2 := al9 _ _ _ i2
    clear al9
    go_wp2_with fail
    obtain ⟨X, hX⟩ : ∃ X, X = w9.alloc (.cells #[.int .i64 IW, .int .i64 IH, .slice A9 nl c9] 52) := ⟨_, rfl⟩
    have hXk := H9.out.2.2.2.2.2.2.2 X hX
    have hfX : Fr No w9 X := by rw [hX]; exact (Fr.refl No w9).alloc _
    have HX := hid (And.intro hXk hfX)
    rw [← hX]
    clear hX hXk hfX
    refine (sameImg_calls IW IH IL A8 A9 nl c8 c9 X HNL.out.2 (by omega) (HX8 H9.out.1 HX.out.2) (HX8 H9.out.2.1 HX.out.2)).mono ?_
    rintro e w10 ⟨rfl, hf10⟩
    have hf910 : Fr No w9 w10 := HX.out.2.then hf10
    have hb10h := (hf910.block h (Array.getElem?_eq_some_iff.1 H9.out.2.2.2.1).1 (fun h => h)).trans H9.out.2.2.2.1
    have hb10g := (hf910.block g (Array.getElem?_eq_some_iff.1 H9.out.2.2.2.2.1).1 (fun h => h)).trans H9.out.2.2.2.2.1
    have p8 := (blk9 hb10h).2.2.2.2.2.2.2.2
    have q8 := (blk9 hb10g).2.2.2.2.2.2.2.2
    have hw10 := hid (hw9.out.then hf910)
    have hr10 : Rd II w10 A7 sa := (((HZ.out.2.2.rd.1.fr0 H8.out.2.2.1).fr0 H9.out.2.2.1).fr0 hf910)
    have hs10 : Rd II w10 sA sa := HS.out.1.fr0 hw10.out
    have H10 := hid (And.intro hr10 hs10)
    clear i0 i1 i2 hf10 hf910 hb10h hb10g hr10 hs10
    go_wp2_with fail
    refine (sameInts_calls A7 sA sa sa ns ns c7 sc HV.out.2.1.symm HV.out.2.1.symm w10 H10.out.1 H10.out.2 (by omega)).mono ?_
    rintro e w11 ⟨rfl, q, rfl⟩
    rw [decide_eq_true (rfl : sa = sa)]
    go_wp2_with fail
    go_ret
    exact ⟨rfl, hw10.out.drewN q⟩
theorem pixelImages_walk (v : Value) (x : RasT) (w : World) {base : Nat} (hok : Value.okWide Try.prog w .any base 34 v) (hx : rasD.K w x v.cells.toList) : Calls Try.prog 9 #[v] w fun e w' => e = .returned (.bool true) ∧ Fr No w w' := by
  obtain ⟨r, rfl, hr⟩ := rasD_val hok hx
  exact pixelImages_w r w hr
end Go.Proofs.Ytdbbkdlocmafgaa

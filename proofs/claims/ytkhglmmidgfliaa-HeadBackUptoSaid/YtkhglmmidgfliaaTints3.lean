/- The contract of head.ReadTints. -/
import Derived.Test.YtkhglmmidgfliaaTints2
import Derived.Test.YtkhglmmidgfliaaChunk
import Derived.Test.YtkhglmmidgfliaaRegIn
namespace Go.Proofs.Ytkhglmmidgfliaa
open Go.RowKit Go.Proofs.HK
set_option linter.unusedVariables false
set_option linter.unusedSimpArgs false
attribute [local go_sem] max2_int min2_int max_two min_two
attribute [local go_sem] Oper.semAt_some

section
variable {P : Program} {w : World} {ops : Array Oper} {rest : List Oper} {o : Oper} {a : Act} {Q : Exit → Act → World → Prop}
theorem wpList_mk0 {t e : TypeId} {sz bytes : Nat} (hT : SlT P t e sz bytes) (hgd : o.guard = none) (l c : Operand) (ho : o.op = Op.makeSlice t l c)
    {kl kc : IntKind} {C : Int} {n : Nat} (hl : a.eval l = .int kl 0) (hc : a.eval c = .int kc C) (hC : C = (n : Int)) (hb : bytes * n ≤ 281474976710656) (hn : n ≤ 9223372036854775807)
    (h : ∀ w', Row w' sz (.slice (some ⟨w.heap.size, 0, none⟩) 0 n) (some w.heap.size) 0 [] → Fr No w w' → wpList P ops Q rest (a.put o.dst (.slice (some ⟨w.heap.size, 0, none⟩) 0 n)) w') :
    wpList P ops Q (o :: rest) a w := by
  obtain ⟨i, z, hi, hz, h2, h3, h4⟩ := hT.info
  refine wpList_make_own w hgd l c t ho w.heap.size e i z sz hT.und hi hz h2 kl kc C n hl hc hC (by rw [h3]; exact hb) (by unfold maxLen; omega) (Nat.le_refl _) (fun w' ho hg => ?_)
  exact h w' (Row.of_owns ho) ((Fr.grown hg).mono (fun k _ h => by cases h))
end
section
variable {P : Program} {F : Fence} {nn : Nat} {w : World} {ops : Array Oper} {o : Oper} {a : Act} {K : Act → World → Prop} {Q : Exit → Act → World → Prop}
theorem stepIn_app {t e : TypeId} {sz bytes : Nat} (hT : SlT P t e sz bytes) (s x : Operand)
    (ho : o.op = .call { callee := .builtin .append, args := #[s, x], argTypes := #[t, t] })
    {v : Value} {ob : Option Nat} {n : Nat} {xs : List Value} (hs : a.eval s = v) (hv : Row w sz v ob n xs)
    {A : Option Addr} {m c : Nat} {ys : List Value} (hx : a.eval x = .slice A m c) (hl : ys.length = m * sz) (hc : Cells w A ys) (h1 : ∀ u ∈ ys, u.oneCell' = true)
    (hb : (n + m) * bytes ≤ 140737488355328) (hnm : n + m ≤ 9223372036854775807)
    (h : ∀ A' c' w' ob', Row w' sz (.slice A' (n + m) c') ob' (n + m) (xs ++ ys) → Fr (Opt ob) w w' → (ob' = ob ∨ ∃ k, ob' = some k ∧ w.heap.size ≤ k) → K (a.put o.dst (.slice A' (n + m) c')) w') :
    o.wpIn F nn P a w K Q := by
  obtain ⟨i, z, hi, hz, h2, h3, h4⟩ := hT.info
  obtain ⟨v', w', ob', hr, k1, k2, k3⟩ := run_app (P := P) w t o.type e i z sz bytes hT.und hi hz h2 h3 h4 hT.pos v ob n xs hv A m c ys hl hc h1 hb hnm
  unfold Oper.wpIn
  refine ⟨?_, ?_⟩
  · simp [Oper.about, ho, resolve, Target.leads, Sem.run_pure]
  · rw [Oper.semAt_plain F _ _ (by rw [ho]; intro c hc'; cases hc')]
    simp only [execOp, ho, resolve, invoke, builtin, Sem.run_bind, Sem.run_pure, Result.andThen_ok, List.map_toArray, List.map_cons, List.map_nil, hs, hx, hr]
    obtain ⟨A', c', rfl, _⟩ := k1.cells
    exact h A' c' w' ob' k1 k2 k3
end

set_option maxRecDepth 100000 in
set_option maxHeartbeats 3200000 in
theorem readTints_calls (W H C D : Int) (L : Bool) (A : Option Addr) (bs : List UInt8) (n c : Nat) (hn : bs.length = n) (hnc : n ≤ c) (w : World) (hr : Rd B w A bs) (hl : n ≤ 140737488351232) :
    Calls Try.prog 38 #[headV W H C D L, .slice A n c] w (RtPost W H C D bs w) := by
  have HR := hid (And.intro hn (And.intro hr hnc))
  clear hn hr
  have hC2 : ∀ w1, Fr No (w.alloc (.cells #[.int .i64 W, .int .i64 H, .int .i64 C, .int .i64 D, .bool L] 33)) w1 → w1.cell? ⟨w.heap.size, 2, none⟩ = some (.int .i64 C) ∧ w1.cell? ⟨w.heap.size, 3, none⟩ = some (.int .i64 D) ∧ w.heap.size < w1.heap.size ∧ Fr No w w1 := fun w1 hf1 => by
    obtain ⟨c0, c1, c2, c3, c4, _⟩ := blk5 ((hf1.block w.heap.size (by rw [World.size_alloc]; omega) (fun h => h)).trans (heap_new _ _))
    exact ⟨c2, c3, lt_of_cell c2, ((Fr.refl No w).alloc _).then hf1⟩
  have HC2 := hid hC2
  clear hC2
  obtain ⟨q, hq⟩ : ∃ q, q = n / 3 := ⟨_, rfl⟩
  obtain ⟨r, hr⟩ : ∃ r, r = n % 3 := ⟨_, rfl⟩
  have HQ := hid (And.intro hq (And.intro hr (show n = 3 * q + r by omega)))
  have t1 : (n : Int) / 3 = (q : Int) := by omega
  have t2 : (n : Int) % 3 = (r : Int) := by omega
  have t3 : (n : Int).tdiv 3 = (q : Int) := by rw [Int.tdiv_eq_ediv_of_nonneg (by omega)]; exact t1
  have t4 : (n : Int).tmod 3 = (r : Int) := by rw [Int.tmod_eq_emod_of_nonneg (by omega)]; exact t2
  clear hq hr
  cases hm : mayS W H C D with
  | false =>
    have HS := hid (rt_no (bs := bs) hm)
    unfold headV
    go_enter Try.func38, Try.ntmps38
    go_wp2_with (go_at_call 28; refine (may_calls W H C D L _).mono ?_; rw [hm]; rintro e w1 ⟨rfl, hf1⟩)
    go_ret2
    exact RtPost.bad HS.out rfl (((Fr.refl No w).alloc _).then hf1)
  | true =>
    obtain ⟨_, hD1, hD2⟩ := may_facts hm
    have HM := hid hm
    clear hm
    by_cases h0 : C = 0
    · have HS := hid (rt_bad (bs := bs) HM.out (fun h => h.1 h0))
      subst h0
      unfold headV
      go_enter Try.func38, Try.ntmps38
      go_wp2_with (go_at_call 28; refine (may_calls _ _ _ _ L _).mono ?_; rw [HM.out]; rintro e w1 ⟨rfl, hf1⟩; obtain ⟨c2, c3, hg1, hF⟩ := HC2.out w1 hf1; clear hf1)
      go_ret2
      exact RtPost.bad HS.out rfl hF
    have b0 : (C == 0) = false := by simpa using h0
    by_cases h4 : C = 4
    · have HS := hid (rt_bad (bs := bs) HM.out (fun h => h.2.1 h4))
      subst h4
      clear h0 b0
      unfold headV
      go_enter Try.func38, Try.ntmps38
      go_wp2_with (go_at_call 28; refine (may_calls _ _ _ _ L _).mono ?_; rw [HM.out]; rintro e w1 ⟨rfl, hf1⟩; obtain ⟨c2, c3, hg1, hF⟩ := HC2.out w1 hf1; clear hf1)
      go_ret2
      exact RtPost.bad HS.out rfl hF
    have b4 : (C == 4) = false := by simpa using h4
    by_cases hr0 : r ≠ 0
    · have HS := hid (rt_bad (bs := bs) HM.out (fun h => hr0 (by rw [HQ.out.2.1, ← HR.out.1]; exact h.2.2.1)))
      have br : ((r : Int) != 0) = true := by rw [bne_iff_ne]; omega
      clear h0 h4 hr0
      unfold headV
      go_enter Try.func38, Try.ntmps38
      go_wp2_with (go_at_call 28; refine (may_calls _ _ _ _ L _).mono ?_; rw [HM.out]; rintro e w1 ⟨rfl, hf1⟩; obtain ⟨c2, c3, hg1, hF⟩ := HC2.out w1 hf1; clear hf1)
      go_ret2
      exact RtPost.bad HS.out rfl hF
    obtain rfl : r = 0 := by omega
    clear hr0
    by_cases hq1 : q = 0
    · have HS := hid (rt_bad (bs := bs) HM.out (fun h => by have h := h.2.2.2.1; rw [HR.out.1, ← HQ.out.1] at h; omega))
      subst hq1
      clear h0 h4
      unfold headV
      go_enter Try.func38, Try.ntmps38
      go_wp2_with (go_at_call 28; refine (may_calls _ _ _ _ L _).mono ?_; rw [HM.out]; rintro e w1 ⟨rfl, hf1⟩; obtain ⟨c2, c3, hg1, hF⟩ := HC2.out w1 hf1; clear hf1)
      go_ret2
      exact RtPost.bad HS.out rfl hF
    have bq1 : ((q : Int) == 0) = false := by rw [beq_eq_false_iff_ne]; omega
    by_cases hq2 : q > 256
    · have HS := hid (rt_bad (bs := bs) HM.out (fun h => by have h := h.2.2.2.2.1; rw [HR.out.1, ← HQ.out.1] at h; omega))
      have bq2 : (q : Int) > 256 := by omega
      clear h0 h4 hq1 hq2
      unfold headV
      go_enter Try.func38, Try.ntmps38
      go_wp2_with (go_at_call 28; refine (may_calls _ _ _ _ L _).mono ?_; rw [HM.out]; rintro e w1 ⟨rfl, hf1⟩; obtain ⟨c2, c3, hg1, hF⟩ := HC2.out w1 hf1; clear hf1)
      go_ret2
      exact RtPost.bad HS.out rfl hF
    have bq2 : ¬ ((q : Int) > 256) := by omega
    obtain ⟨d, rfl⟩ : ∃ d : Nat, D = d := ⟨D.toNat, by omega⟩
    have hwd : IntKind.u64.wrap (d : Int) = (d : Int) := by rw [IntKind.wrap_u64]; omega
    have hd0 : (0 : Int) ≤ (d : Int) := by omega
    have hd1 : (d : Int) ≤ 64 := by omega
    obtain ⟨P, hP⟩ : ∃ P : Int, P = 2 ^ d := ⟨_, rfl⟩
    have hsh : wrap64 (2 ^ d) = P := (wrap64_id (Int.pow_pos (by decide)) (pow16 d (by omega))).trans hP.symm
    have hdv : (q : Int) / 2 ^ d > 0 ↔ P ≤ (q : Int) := by
      rw [hP]
      have := Int.le_ediv_iff_mul_le (a := 1) (b := (q : Int)) (show (0 : Int) < 2 ^ d from Int.pow_pos (by decide))
      rw [Int.one_mul] at this
      exact this
    have HP := hid hP
    have HD := hid hdv
    clear hP hdv
    by_cases hbig : C = 3 ∧ (q : Int) > P
    · have HS := hid (rt_bad (bs := bs) HM.out (fun h => h.2.2.2.2.2 ⟨hbig.1, by rw [HR.out.1, ← HQ.out.1, Int.toNat_natCast, ← HP.out]; exact hbig.2⟩))
      have hdv : (q : Int) / 2 ^ d > 0 := HD.out.2 (by omega)
      have hne : ((q : Int) != P) = true := by rw [bne_iff_ne]; omega
      obtain ⟨rfl, hb2⟩ := hbig
      clear h0 h4 b0 b4 hb2
      unfold headV
      go_enter Try.func38, Try.ntmps38
      go_wp2_with (go_at_call 28; refine (may_calls _ _ _ _ L _).mono ?_; rw [HM.out]; rintro e w1 ⟨rfl, hf1⟩; obtain ⟨c2, c3, hg1, hF⟩ := HC2.out w1 hf1; clear hf1)
      go_ret2
      exact RtPost.bad HS.out rfl hF
    have HS := hid (rt_good (bs := bs) HM.out ⟨h0, h4, by rw [HR.out.1, ← HQ.out.2.1], by rw [HR.out.1, ← HQ.out.1]; omega, by rw [HR.out.1, ← HQ.out.1]; omega, by rw [HR.out.1, ← HQ.out.1, Int.toNat_natCast, ← HP.out]; exact hbig⟩)
    have hcase : (C == 3) = false ∨ (C == 3) = true ∧ ¬ ((q : Int) / 2 ^ d > 0) ∨ (C == 3) = true ∧ (q : Int) / 2 ^ d > 0 ∧ ((q : Int) != P) = false := by
      by_cases h3 : C = 3
      · by_cases hle : P ≤ (q : Int)
        · refine .inr (.inr ⟨by simpa using h3, HD.out.2 hle, ?_⟩)
          have : ¬ ((q : Int) > P) := fun h => hbig ⟨h3, h⟩
          rw [show (q : Int) = P by omega]; simp
        · exact .inr (.inl ⟨by simpa using h3, fun h => hle (HD.out.1 h)⟩)
      · exact .inl (by simpa using h3)
    clear h0 h4 hbig hq1
    rcases hcase with hb3 | ⟨hb3, hb3'⟩ | ⟨hb3, hb3', hb3''⟩
    all_goals
      unfold headV
      refine (callsIn_wide (n := 4)).1 (callsIn_of_wp_marks Try.func38 rfl trivial (wpIn_wide.2 ?_) rfl)
      simp only [Try.ntmps38, List.size_toArray, List.length_cons, List.length_nil, Nat.reduceAdd, Nat.reduceSub, Array.replicate_succ, Array.replicate_zero, List.push_toArray, List.append_toArray, List.nil_append, List.cons_append]
      go_wp2_with fail
      refine (may_calls _ _ _ _ L _).mono ?_
      rw [HM.out]
      rintro e w1 ⟨rfl, hf1⟩
      obtain ⟨c2, c3, hg1, hF⟩ := HC2.out w1 hf1
      clear hf1
      go_wp2_with (at_make; refine wpList_mk0 slT3 rfl (.const (.int .i64 0)) (.tmp 52) rfl rfl rfl (n := q) rfl (by omega) (by omega) ?_; intro w2 hrow2 hfr2; have H2 := hid (And.intro hrow2 (And.intro hfr2 hF)); clear hrow2 hfr2 hF)
      refine (chunk_calls A n c 3 _ (by decide)).mono ?_
      rintro e wl ⟨rfl, hwl⟩
      obtain ⟨g8, hg8⟩ : ∃ g8, g8 = w2.heap.size := ⟨_, rfl⟩
      obtain ⟨w3, hw3⟩ : ∃ w3, w3 = w2.alloc (.cells #[.slice (some ⟨w1.heap.size, 0, none⟩) 0 q] 59) := ⟨_, rfl⟩
      have hs3 : w3.heap.size = g8 + 1 := by rw [hw3, World.size_alloc, hg8]
      have hb8 : w3.heap[g8]? = some (.cells #[.slice (some ⟨w1.heap.size, 0, none⟩) 0 q] 59 (0, 0)) := by rw [hw3, hg8]; exact heap_new _ _
      have hf3 : Fr No w2 w3 := by rw [hw3]; exact (Fr.refl _ _).alloc _
      rw [← hw3] at hwl ⊢
      rw [← hg8]
      rw [hs3]
      have hsl : wl.heap.size = g8 + 3 := by rw [hwl, World.size_alloc, World.size_alloc, hs3]
      have hfl : Fr No w3 wl := by rw [hwl]; exact ((Fr.refl _ _).alloc _).alloc _
      have hcL : wl.cell? ⟨g8 + 1, 0, none⟩ = some (.slice A n c) := by
        rw [hwl, ((Fr.refl No (w3.alloc _)).alloc _).cellg (g8 + 1) 0 (by rw [World.size_alloc, hs3]; omega) (fun h => h), ← hs3]; exact cell_new1 _ _ _ 0 _ rfl
      have hcM : wl.cell? ⟨g8 + 1 + 1, 0, none⟩ = some (.int .i64 ((3 : Nat) : Int)) := by
        have := cell_new1 (w3.alloc (.cells #[.slice A n c] 51)) #[.int .i64 ((3 : Nat) : Int)] 3 0 _ rfl
        rw [World.size_alloc, hs3] at this
        rw [hwl]; exact this
      have hg1w : w.heap.size ≤ w1.heap.size := by have := H2.out.2.2.size; omega
      have hw12 : w1.heap.size < g8 := by have := H2.out.1.lt rfl; omega
      have hI0 : ∀ W, Fr No wl W → ∃ (A1 : Option Addr) (c1 : Nat) (ob1 : Option Nat), W.cell? ⟨g8, 0, none⟩ = some (.slice A1 0 c1) ∧ W.frozen? ⟨g8, 0, none⟩ = false ∧ Row W 3 (.slice A1 0 c1) ob1 0 ((bs.take (3 * 0)).map B) ∧ (∀ j, ob1 = some j → w.heap.size ≤ j ∧ j ≠ g8 ∧ (j < g8 ∨ g8 + 5 ≤ j)) ∧ Fr No w W := fun W hf => by
        have hF := hfl.then hf
        refine ⟨_, _, some w1.heap.size, ?_, ?_, ((H2.out.1.fr hf3 (fun _ _ h => h)).fr hF (fun _ _ h => h)), fun j hj => by injection hj with hj; omega, ((H2.out.2.2.then H2.out.2.1).then hf3).then hF⟩
        · rw [hF.cellg g8 0 (by omega) (fun h => h)]; simp [World.cell?, hb8]
        · rw [hF.frozen (p := ⟨g8, 0, none⟩) (by show g8 < _; omega) (fun h => h)]; simp [World.frozen?, hb8]
      have HI0 := hid hI0
      have hNq : ∀ k, k < q ↔ k * 3 < n := fun k => by have := HQ.out.2.2; omega
      have HN := hid hNq
      clear hI0 hNq hwl hw3 hg8 hb8 hf3 hfl hs3
      go_wp2_with fail
      refine wpIn_wide.1 (wpIn_rangeFunc_mem (F := Fence.wide) (n := 4) rfl (by omega) (gf := 72) (lb := #[.pointer (some ⟨g8 + 1, 0, none⟩), .pointer (some ⟨g8 + 1 + 1, 0, none⟩)]) rfl trivial (enters_of Try.func72 (by kernel_rfl) rfl)
        (chunk_seq (4 - 1) (by decide) A n c 3 q (g8 + 1) wl (by decide) HR.out.2.2 HN.out (by omega) (by decide) hcL hcM) (Nat.le_refl _) (KeepLU.refl _ _ _) (by omega)
        (fun k W => ∃ (A1 : Option Addr) (c1 : Nat) (ob1 : Option Nat), W.cell? ⟨g8, 0, none⟩ = some (.slice A1 k c1) ∧ W.frozen? ⟨g8, 0, none⟩ = false ∧ Row W 3 (.slice A1 k c1) ob1 k ((bs.take (3 * k)).map B) ∧ (∀ j, ob1 = some j → w.heap.size ≤ j ∧ j ≠ g8 ∧ (j < g8 ∨ g8 + 5 ≤ j)) ∧ Fr No w W)
        (fun _ _ _ => False) ?hI (fun _ _ _ _ h _ => h) HI0.out ?hOk ?round ?done (fun _ _ _ _ h _ => h.elim))
      case hI =>
        rintro k X Y ⟨A1, c1, ob1, h1, h2, h3, h4, h5⟩ hf
        rw [hsl] at hf
        have hl8 : g8 < X.heap.size := lt_of_cell (a := ⟨g8, 0, none⟩) h1
        have hne : ¬ One (g8 + 3 + 1) g8 := fun e => by have e : g8 = g8 + 3 + 1 := e; omega
        exact ⟨A1, c1, ob1, (hf.cellg g8 0 hl8 hne).trans h1, (hf.frozen (p := ⟨g8, 0, none⟩) hl8 hne).trans h2, h3.fr hf (fun j hj e => by have e : j = g8 + 3 + 1 := e; have := h4 j hj; omega), h4, h5.trans hf (fun j hj e => by have e : j = g8 + 3 + 1 := e; omega)⟩
      case hOk =>
        rintro k args W hk hok
        obtain rfl : args = _ := hok
        exact ⟨rfl, fun _ _ => rfl⟩
      case round =>
        rintro k args W W2 hk ⟨A1, c1, ob1, h1, h2, h3, h4, h5⟩ hsz hok
        obtain rfl : args = _ := hok
        have hnq : n = 3 * q := by have := HQ.out.2.2; omega
        rw [show min 3 (n - k * 3) = 3 by omega]
        obtain ⟨ad, hA, q0, q1, q2⟩ := cells3 (Rd.cells.1 (HR.out.2.1.fr0 h5)) k (by rw [HR.out.1]; omega)
        subst hA
        have hst := congrArg (List.map B) (take3 bs k (by rw [HR.out.1]; omega))
        rw [List.map_append] at hst
        obtain ⟨x0, hx0⟩ : ∃ x : Int, x = ((rdB bs (3 * k)).toNat : Int) := ⟨_, rfl⟩
        obtain ⟨x1, hx1⟩ : ∃ x : Int, x = ((rdB bs (3 * k + 1)).toNat : Int) := ⟨_, rfl⟩
        obtain ⟨x2, hx2⟩ : ∃ x : Int, x = ((rdB bs (3 * k + 2)).toNat : Int) := ⟨_, rfl⟩
        have hys : [rdB bs (3 * k), rdB bs (3 * k + 1), rdB bs (3 * k + 2)].map B = [.int .u8 x0, .int .u8 x1, .int .u8 x2] := by rw [hx0, hx1, hx2]; rfl
        rw [hys] at hst
        rw [← hx0] at q0
        rw [← hx1] at q1
        rw [← hx2] at q2
        have HST := hid (And.intro hst (And.intro h4 (And.intro h5 h3)))
        have hl8 : g8 < W2.heap.size := by omega
        have hmx : Try.prog.follows .mixedOrders = true := by kernel_rfl
        have hkq : k + 1 ≤ 256 := by omega
        clear hst hys hx0 hx1 hx2 h4 h5 h3 t1 t2 t3 t4 hcL hcM hnq hwd hd0 hd1 hsh b0 b4 bq1 bq2
        gi_wp2
        refine ⟨trivial, ?_⟩
        gi_wp2
        refine wpIn_region_round (S := fun w' => w'.cell? (ad.add (k * 3)) = some (.int .u8 x0) ∧ w'.cell? ⟨(ad.add (k * 3)).block, (ad.add (k * 3)).off + 1, none⟩ = some (.int .u8 x1) ∧ w'.cell? ⟨(ad.add (k * 3)).block, (ad.add (k * 3)).off + 2, none⟩ = some (.int .u8 x2)) (by kernel_rfl) (by kernel_rfl) ⟨q0, q1, q2⟩ (fun hHeld => ?_)
        refine take_round (i := 1) (v := ?_) rfl (by kernel_rfl) (by kernel_rfl) (by kernel_rfl) (by rfl) (fun w' hSw => ?_) hHeld ?_
        rotate_left
        · obtain ⟨p0, p1, p2⟩ := hSw
          go_simp
          try with_reducible rfl
        (try simp only [Act.put, List.setIfInBounds_toArray, List.set_cons_zero, List.set_cons_succ])
        refine take_round (i := 2) (v := ?_) rfl (by kernel_rfl) (by kernel_rfl) (by kernel_rfl) (by rfl) (fun w' hSw => ?_) hHeld ?_
        rotate_left
        · obtain ⟨p0, p1, p2⟩ := hSw
          go_simp
          try with_reducible rfl
        (try simp only [Act.put, List.setIfInBounds_toArray, List.set_cons_zero, List.set_cons_succ])
        refine take_round (i := 4) (v := ?_) rfl (by kernel_rfl) (by kernel_rfl) (by kernel_rfl) (by rfl) (fun w' hSw => ?_) hHeld ?_
        rotate_left
        · obtain ⟨p0, p1, p2⟩ := hSw
          go_simp
          try with_reducible rfl
        (try simp only [Act.put, List.setIfInBounds_toArray, List.set_cons_zero, List.set_cons_succ])
        refine take_round (i := 5) (v := ?_) rfl (by kernel_rfl) (by kernel_rfl) (by kernel_rfl) (by rfl) (fun w' hSw => ?_) hHeld ?_
        rotate_left
        · obtain ⟨p0, p1, p2⟩ := hSw
          go_simp
          try with_reducible rfl
        (try simp only [Act.put, List.setIfInBounds_toArray, List.set_cons_zero, List.set_cons_succ])
        refine take_round (i := 7) (v := ?_) rfl (by kernel_rfl) (by kernel_rfl) (by kernel_rfl) (by rfl) (fun w' hSw => ?_) hHeld ?_
        rotate_left
        · obtain ⟨p0, p1, p2⟩ := hSw
          go_simp
          try with_reducible rfl
        (try simp only [Act.put, List.setIfInBounds_toArray, List.set_cons_zero, List.set_cons_succ])
        refine take_round (i := 8) (v := ?_) rfl (by kernel_rfl) (by kernel_rfl) (by kernel_rfl) (by rfl) (fun w' hSw => ?_) hHeld ?_
        rotate_left
        · obtain ⟨p0, p1, p2⟩ := hSw
          go_simp
          try with_reducible rfl
        (try simp only [Act.put, List.setIfInBounds_toArray, List.set_cons_zero, List.set_cons_succ])
        refine take_round (i := 3) (v := ?_) rfl (by kernel_rfl) (by kernel_rfl) (by kernel_rfl) (by rfl) (fun w' hSw => ?_) hHeld ?_
        rotate_left
        · obtain ⟨p0, p1, p2⟩ := hSw
          go_simp
          try with_reducible rfl
        (try simp only [Act.put, List.setIfInBounds_toArray, List.set_cons_zero, List.set_cons_succ])
        refine take_round (i := 6) (v := ?_) rfl (by kernel_rfl) (by kernel_rfl) (by kernel_rfl) (by rfl) (fun w' hSw => ?_) hHeld ?_
        rotate_left
        · obtain ⟨p0, p1, p2⟩ := hSw
          go_simp
          try with_reducible rfl
        (try simp only [Act.put, List.setIfInBounds_toArray, List.set_cons_zero, List.set_cons_succ])
        refine take_round (i := 9) (v := ?_) rfl (by kernel_rfl) (by kernel_rfl) (by kernel_rfl) (by rfl) (fun w' hSw => ?_) hHeld ?_
        rotate_left
        · obtain ⟨p0, p1, p2⟩ := hSw
          go_simp
          try with_reducible rfl
        (try simp only [Act.put, List.setIfInBounds_toArray, List.set_cons_zero, List.set_cons_succ])
        refine take_round (i := 10) (v := ?_) rfl (by kernel_rfl) (by kernel_rfl) (by kernel_rfl) (by rfl) (fun w' hSw => ?_) hHeld ?_
        rotate_left
        · obtain ⟨p0, p1, p2⟩ := hSw
          go_simp
          try with_reducible rfl
        (try simp only [Act.put, List.setIfInBounds_toArray, List.set_cons_zero, List.set_cons_succ])
        have hbl : (ad.add (k * 3)).block < w.heap.size := by rw [add_block]; exact HR.out.2.1.lt (by rw [HR.out.1]; have := HQ.out.2.2; omega)
        have hbs : w.heap.size ≤ W2.heap.size := HST.out.2.2.1.size
        have hbo : ¬ Opt ob1 (ad.add (k * 3)).block := fun e => by have := (HST.out.2.1 _ e.symm).1; omega
        have hb8 : ¬ One g8 (ad.add (k * 3)).block := fun e => by have e : (ad.add (k * 3)).block = g8 := e; omega
        have HB := hid (And.intro hbl (And.intro hbs (And.intro hbo (And.intro hb8 hHeld))))
        clear hbl hbs hbo hb8
        refine wpAnyH_ready (rs := [0, 11]) (by kernel_rfl) (by simp) (AllReadyH.cons rfl (fun K hK => ?_) (AllReadyH.cons rfl (fun K hK => ?_) AllReadyH.nil))
        · go_simp
          refine hK.out _ _ HB.out.2.2.2.2 (fun hHeld => ?_)
          (try simp only [Act.put, List.setIfInBounds_toArray, List.set_cons_zero, List.set_cons_succ])
          refine one_round (i := 11) (by kernel_rfl) rfl (fun K hK => ?_)
          go_simp
          refine hK.out _ _ (keepB (S := No) (((Fr.refl No W2).alloc _).drew) (Nat.lt_of_lt_of_le HB.out.1 HB.out.2.1) (fun h => h) HB.out.2.2.2.2) (fun hHeld => ?_)
          (try simp only [Act.put, List.setIfInBounds_toArray, List.set_cons_zero, List.set_cons_succ])
          refine one_round (i := 12) (by kernel_rfl) rfl (fun K hK => ?_)
          refine step_app slT3 rfl (.tmp 57) (.tmp 68) rfl rfl ((HST.out.2.2.2.fr (S := No) ((Fr.refl _ _).alloc _) (fun _ _ h => h)).drew) rfl (m := 1) (c := 1) (ys := [.int .u8 x0, .int .u8 x1, .int .u8 x2]) rfl (cells_new _ _ _) (by simp [Value.oneCell']) (by omega) (by omega) ?_
          intro A5 c5 w5 ob5 hrow5 hfr5 hob5
          have hs5 := hfr5.size
          rw [World.size_drew, World.size_alloc] at hs5 hob5
          have hg8n : ¬ Opt ob1 g8 := fun e => (HST.out.2.1 g8 e.symm).2.1 rfl
          have hAl : Fr No W2 ((W2.alloc (.cells #[.int .u8 x0, .int .u8 x1, .int .u8 x2] 94)).drew) := ((Fr.refl No W2).alloc _).drew
          have hsA := hAl.size
          have e8 := (hfr5.cellg g8 0 (Nat.lt_of_lt_of_le hl8 hsA) hg8n).trans ((hAl.cellg g8 0 hl8 (fun h => h)).trans h1)
          have f8 := (hfr5.frozen (p := ⟨g8, 0, none⟩) (Nat.lt_of_lt_of_le hl8 hsA) hg8n).trans ((hAl.frozen (p := ⟨g8, 0, none⟩) hl8 (fun h => h)).trans h2)
          have hS5 := keepB hfr5 (Nat.lt_of_lt_of_le HB.out.1 (Nat.le_trans HB.out.2.1 hsA)) HB.out.2.2.1 (keepB (S := No) hAl (Nat.lt_of_lt_of_le HB.out.1 HB.out.2.1) (fun h => h) HB.out.2.2.2.2)
          refine hK.out _ _ hS5 (fun hHeld => ?_)
          (try simp only [Act.put, List.setIfInBounds_toArray, List.set_cons_zero, List.set_cons_succ])
          refine one_round (i := 13) (by kernel_rfl) rfl (fun K hK => ?_)
          go_simp
          refine hK.out _ _ (keepB (Fr.set1 _ _ _ _) (Nat.lt_of_lt_of_le HB.out.1 (by have := HB.out.2.1; omega)) HB.out.2.2.2.1 hS5) (fun hHeld => ?_)
          refine wpAnyH_done (by kernel_rfl) ⟨rfl, ?_⟩ _
          gi_wp2
          have hZ : Fr (fun b => b = g8 ∨ ob1 = some b) W2 (w5.setCell ⟨g8, 0, none⟩ (.slice A5 (k + 1) c5)) :=
            ((hAl.mono (fun _ _ h => h.elim)).trans (hfr5.mono (S' := fun b => b = g8 ∨ ob1 = some b) (fun j _ e => .inr (Eq.symm e))) (fun _ _ h => h)).trans (Fr.set1 _ _ _ _) (fun j _ (e : j = g8) => .inl e)
          have hob5' : ∀ j, ob5 = some j → w.heap.size ≤ j ∧ j ≠ g8 ∧ (j < g8 ∨ g8 + 5 ≤ j) := fun j hj => by
            rcases hob5 with h | ⟨i, h, hi⟩
            · exact HST.out.2.1 j (by rw [← h]; exact hj)
            · rw [h] at hj; injection hj with hj; have := HB.out.2.1; omega
          have hdis : ∀ b, g8 < b → b < g8 + 5 → ¬ (b = g8 ∨ ob1 = some b) := fun b b1 b2 e => by
            rcases e with e | e
            · omega
            · have := HST.out.2.1 b e; omega
          rw [← HST.out.1] at hrow5
          refine ⟨fun b hb => hZ.block b (by omega) (hdis b (by omega) (by omega)), hZ.size, KeepLU.of_fr hZ (by omega) (fun b b1 b2 => hdis b (by omega) (by omega)), A5, c5, ob5, World.cell?_setCell_same' _ _ _ (by rw [e8]; rfl), by rw [World.frozen?_setCell]; exact f8, hrow5.fr (Fr.set1 _ _ _ _) (fun j hj e => (hob5' j hj).2.1 e), hob5', ?_⟩
          exact HST.out.2.2.1.trans hZ (fun j hj e => by
            rcases e with e | e
            · omega
            · have := HST.out.2.1 j e; omega)
        · go_simp
          refine hK.out _ _ (keepB (S := No) (((Fr.refl No W2).alloc _).drew) (Nat.lt_of_lt_of_le HB.out.1 HB.out.2.1) (fun h => h) HB.out.2.2.2.2) (fun hHeld => ?_)
          (try simp only [Act.put, List.setIfInBounds_toArray, List.set_cons_zero, List.set_cons_succ])
          have e80 : ∀ o, (W2.alloc o).cell? ⟨g8, 0, none⟩ = some (.slice A1 k c1) := fun o => (((Fr.refl No W2).alloc o).cellg g8 0 hl8 (fun h => h)).trans h1
          refine one_round (i := 0) (by kernel_rfl) rfl (fun K hK => ?_)
          go_simp
          refine hK.out _ _ (keepB (S := No) (((Fr.refl No W2).alloc _).drew) (Nat.lt_of_lt_of_le HB.out.1 HB.out.2.1) (fun h => h) HB.out.2.2.2.2) (fun hHeld => ?_)
          (try simp only [Act.put, List.setIfInBounds_toArray, List.set_cons_zero, List.set_cons_succ])
          clear e80
          refine one_round (i := 12) (by kernel_rfl) rfl (fun K hK => ?_)
          refine step_app slT3 rfl (.tmp 57) (.tmp 68) rfl rfl ((HST.out.2.2.2.fr (S := No) ((Fr.refl _ _).alloc _) (fun _ _ h => h)).drew) rfl (m := 1) (c := 1) (ys := [.int .u8 x0, .int .u8 x1, .int .u8 x2]) rfl (cells_new _ _ _) (by simp [Value.oneCell']) (by omega) (by omega) ?_
          intro A5 c5 w5 ob5 hrow5 hfr5 hob5
          have hs5 := hfr5.size
          rw [World.size_drew, World.size_alloc] at hs5 hob5
          have hg8n : ¬ Opt ob1 g8 := fun e => (HST.out.2.1 g8 e.symm).2.1 rfl
          have hAl : Fr No W2 ((W2.alloc (.cells #[.int .u8 x0, .int .u8 x1, .int .u8 x2] 94)).drew) := ((Fr.refl No W2).alloc _).drew
          have hsA := hAl.size
          have e8 := (hfr5.cellg g8 0 (Nat.lt_of_lt_of_le hl8 hsA) hg8n).trans ((hAl.cellg g8 0 hl8 (fun h => h)).trans h1)
          have f8 := (hfr5.frozen (p := ⟨g8, 0, none⟩) (Nat.lt_of_lt_of_le hl8 hsA) hg8n).trans ((hAl.frozen (p := ⟨g8, 0, none⟩) hl8 (fun h => h)).trans h2)
          have hS5 := keepB hfr5 (Nat.lt_of_lt_of_le HB.out.1 (Nat.le_trans HB.out.2.1 hsA)) HB.out.2.2.1 (keepB (S := No) hAl (Nat.lt_of_lt_of_le HB.out.1 HB.out.2.1) (fun h => h) HB.out.2.2.2.2)
          refine hK.out _ _ hS5 (fun hHeld => ?_)
          (try simp only [Act.put, List.setIfInBounds_toArray, List.set_cons_zero, List.set_cons_succ])
          refine one_round (i := 13) (by kernel_rfl) rfl (fun K hK => ?_)
          go_simp
          refine hK.out _ _ (keepB (Fr.set1 _ _ _ _) (Nat.lt_of_lt_of_le HB.out.1 (by have := HB.out.2.1; omega)) HB.out.2.2.2.1 hS5) (fun hHeld => ?_)
          refine wpAnyH_done (by kernel_rfl) ⟨rfl, ?_⟩ _
          gi_wp2
          have hZ : Fr (fun b => b = g8 ∨ ob1 = some b) W2 (w5.setCell ⟨g8, 0, none⟩ (.slice A5 (k + 1) c5)) :=
            ((hAl.mono (fun _ _ h => h.elim)).trans (hfr5.mono (S' := fun b => b = g8 ∨ ob1 = some b) (fun j _ e => .inr (Eq.symm e))) (fun _ _ h => h)).trans (Fr.set1 _ _ _ _) (fun j _ (e : j = g8) => .inl e)
          have hob5' : ∀ j, ob5 = some j → w.heap.size ≤ j ∧ j ≠ g8 ∧ (j < g8 ∨ g8 + 5 ≤ j) := fun j hj => by
            rcases hob5 with h | ⟨i, h, hi⟩
            · exact HST.out.2.1 j (by rw [← h]; exact hj)
            · rw [h] at hj; injection hj with hj; have := HB.out.2.1; omega
          have hdis : ∀ b, g8 < b → b < g8 + 5 → ¬ (b = g8 ∨ ob1 = some b) := fun b b1 b2 e => by
            rcases e with e | e
            · omega
            · have := HST.out.2.1 b e; omega
          rw [← HST.out.1] at hrow5
          refine ⟨fun b hb => hZ.block b (by omega) (hdis b (by omega) (by omega)), hZ.size, KeepLU.of_fr hZ (by omega) (fun b b1 b2 => hdis b (by omega) (by omega)), A5, c5, ob5, World.cell?_setCell_same' _ _ _ (by rw [e8]; rfl), by rw [World.frozen?_setCell]; exact f8, hrow5.fr (Fr.set1 _ _ _ _) (fun j hj e => (hob5' j hj).2.1 e), hob5', ?_⟩
          exact HST.out.2.2.1.trans hZ (fun j hj e => by
            rcases e with e | e
            · omega
            · have := HST.out.2.1 j e; omega)
      case done =>
        rintro W ⟨A1, c1, ob1, h1, h2, h3, h4, h5⟩ hD
        rw [hsl] at hD
        have HZ := hid (And.intro h3 (And.intro h4 h5))
        clear h3 h4 h5 h2
        go_wp2_with fail
        refine ⟨by simp, .inl ⟨_, _, rfl, run_takeDeferred (by rw [hsl]; exact hD), ?_⟩⟩
        refine ⟨_, results_tmp2 rfl _ _ _, ?_⟩
        have hP : ∀ o, Fr (One (wl.heap.size)) W (W.putObj wl.heap.size o) := fun o => Fr.putObj _ _ _
        have h3 := HZ.out.1
        rw [List.take_of_length_le (by rw [HR.out.1, HQ.out.2.2]; omega)] at h3
        unfold RtPost
        rw [HS.out.1, HS.out.2]
        refine ⟨_, rfl, ⟨_, _, _, _, rfl, by rw [HR.out.1, HQ.out.2.2]; rfl, h3.fr (hP _) (fun j hj (e : j = wl.heap.size) => by have := HZ.out.2.1 j hj; omega), fun j hj => (HZ.out.2.1 j hj).1⟩, HZ.out.2.2.trans (hP _) (fun j hj (e : j = wl.heap.size) => by omega)⟩
end Go.Proofs.Ytkhglmmidgfliaa

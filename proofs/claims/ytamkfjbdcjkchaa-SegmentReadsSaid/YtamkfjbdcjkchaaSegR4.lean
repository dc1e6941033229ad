/- How an answer's parts are read: its ranges, one behind the other. -/
import Derived.Test.YtamkfjbdcjkchaaSegR
import Derived.Deep.RegionLaw
namespace Go.Proofs.Ytamkfjbdcjkchaa
open Go.RowKit Go.Proofs.HK
set_option linter.unusedVariables false
set_option linter.unusedSimpArgs false
attribute [local go_sem] max2_int min2_int max_two min_two

theorem slRg : SlT Try.prog 23 53 2 16 := SlT.of (z := .agg #[.int .i64 0, .int .i64 0]) Try.underlying23 (by kernel_rfl) rfl (by decide)
theorem set10 {W : World} {g : Nat} {v0 v1 v2 v3 v4 v5 v6 v7 v8 v9 v10 v11 : Value} {t : TypeId} (hb : W.heap[g]? = some (.cells #[v0, v1, v2, v3, v4, v5, v6, v7, v8, v9, v10, v11] t (0, 0))) (x : Value) :
    (W.setCell ⟨g, 10, none⟩ x).heap[g]? = some (.cells #[v0, v1, v2, v3, v4, v5, v6, v7, v8, v9, x, v11] t (0, 0)) := by rw [heap_set _ g 10 _ t x hb]; rfl
set_option maxRecDepth 100000 in
set_option maxHeartbeats 3200000 in
theorem rd4_calls {L T : Nat} (w : World) (g h : Nat) (o : List UInt8) (s : CS) (K : Int) (U : Nat) (hc : Cur L T w g o s.p s.e) (hb : w.heap[h]? = some (.cells #[.int .i64 K, .int .u32 (U : Int), .int .i64 0, .int .u32 0, .int .i64 0, .int .i64 0, .int .i64 0, .int .i64 0, .int .i64 0, .int .i64 0, .slice none 0 0, .slice none 0 0] 26 (0, 0))) (hh : h < L ∨ T ≤ h) (hT : T ≤ w.heap.size) (hK : K = 4) :
    Calls Try.prog 47 #[.pointer (some ⟨g, 0, none⟩), .pointer (some ⟨h, 0, none⟩)] w (RetR L T w g h o (rdS o K s) (rdMs o K U s)) := by
  obtain ⟨s1, hs1⟩ : ∃ x, x = nx o s 4 := ⟨_, rfl⟩
  obtain ⟨s2, hs2⟩ : ∃ x, x = nx o s1 1 := ⟨_, rfl⟩
  obtain ⟨v1, hv1⟩ : ∃ x, x = nb o s 4 := ⟨_, rfl⟩
  obtain ⟨n, hn⟩ : ∃ n, n = (nb o s1 1).toNat := ⟨_, rfl⟩
  have hnb : nb o s1 1 = (n : Int) := by have := nb1_bd o s1; omega
  have hnl : n < 256 := by have := nb1_bd o s1; omega
  have HS := hid (show rdS o K s = rgS o s2 n ∧ rdMs o K U s = ⟨K, U, 0, 0, 0, 0, 0, v1, 0, 0, rgR o s2 n, []⟩ by
    unfold rdS rdMs
    rw [if_neg (show ¬ K = 1 by omega), if_neg (show ¬ K = 1 by omega), if_neg (show ¬ K = 2 by omega), if_neg (show ¬ K = 2 by omega), if_neg (show ¬ K = 3 by omega), if_neg (show ¬ K = 3 by omega), if_pos hK, if_pos hK, hn, hv1, hs2, hs1]
    exact ⟨rfl, rfl⟩)
  have c1_calls : ∀ W, Cur L T W g o s.p s.e → Calls Try.prog 29 #[.pointer (some ⟨g, 0, none⟩), .int .i64 4] W fun e w' => e = .returned (.int .i64 v1) ∧ Cur L T w' g o s1.p s1.e ∧ Fr (One g) W w' := fun W h => by rw [hv1, hs1]; exact cb_calls W g o s 4 h
  have c2_calls : ∀ W, Cur L T W g o s1.p s1.e → Calls Try.prog 29 #[.pointer (some ⟨g, 0, none⟩), .int .i64 1] W fun e w' => e = .returned (.int .i64 (n : Int)) ∧ Cur L T w' g o s2.p s2.e ∧ Fr (One g) W w' := fun W h => by rw [← hnb, hs2]; exact cb_calls W g o s1 1 h
  have hne : h ≠ g := by have := hc.gl; have := hc.gu; omega
  have hlt : h < w.heap.size := (Array.getElem?_eq_some_iff.1 hb).1
  have HC := hid hc
  have HB := hid hb
  have C1 := hid c1_calls
  have C2 := hid c2_calls
  clear hs1 hs2 hv1 hn hnb hK hc hb c1_calls c2_calls
  go_enter Try.func47, Try.ntmps47
  go_wp2_with fail
  refine (C1.out _ HC.out).mono ?_
  rintro e w1 ⟨rfl, hc1, hf1⟩
  have hb1 := (hf1.block h hlt (fun e => hne e)).trans HB.out
  have m7 := (blk12 hb1).2.2.2.2.2.2.2.1
  have z7 := free12 hb1 7
  have H1 := hid (And.intro hc1 (And.intro hf1 hb1))
  clear hc1 hf1 hb1
  go_wp2_with fail
  obtain ⟨W, hW⟩ : ∃ W, W = w1.setCell ⟨h, 7, none⟩ (.int .i64 v1) := ⟨_, rfl⟩
  have hbW := heap_set _ h 7 _ _ (.int .i64 v1) H1.out.2.2
  rw [← hW] at hbW ⊢
  have hfW : Fr (One h) w1 W := by rw [hW]; exact Fr.set1 _ _ _ _
  have hcW := H1.out.1.fr hfW (fun k h1 h2 e => by have e : k = h := e; omega)
  have hFW : Fr (Two g h) w W := H1.out.2.1.two.then (hfW.mono (fun k _ e => .inr e))
  have HW := hid (And.intro hbW (And.intro hcW hFW))
  clear hbW hfW hcW hFW hW m7 z7
  (try go_wp2_with fail)
  refine (C2.out _ HW.out.2.1).mono ?_
  rintro e w2 ⟨rfl, hc2, hf2⟩
  have H2 := hid (And.intro hc2 (And.intro ((hf2.block h (Nat.lt_of_lt_of_le hlt HW.out.2.2.size) (fun e => hne e)).trans HW.out.1) (HW.out.2.2.then hf2.two)))
  clear hc2 hf2
  go_wp2_with fail
  go_loopw [11] (fun i wr => ∃ (k : Nat) (A : Option Addr) (c : Nat) (ob : Option Nat), k ≤ n ∧ i = .int .i64 k ∧
      Hid (Cur L T wr g o (rgS o s2 k).p (rgS o s2 k).e ∧ wr.heap[h]? = some (.cells #[.int .i64 K, .int .u32 (U : Int), .int .i64 0, .int .u32 0, .int .i64 0, .int .i64 0, .int .i64 0, .int .i64 v1, .int .i64 0, .int .i64 0, .slice A k c, .slice none 0 0] 26 (0, 0)) ∧ Row wr 2 (.slice A k c) ob k (rngC (rgR o s2 k)) ∧ (∀ q, ob = some q → w.heap.size ≤ q) ∧ Fr (Two g h) w wr)) (fun i _ => n - (intOf i).toNat)
  case atStart => exact ⟨0, none, 0, none, by omega, rfl, H2.out.1, H2.out.2.1, Row.nil _ _, (fun _ h => by cases h), H2.out.2.2⟩
  case round =>
    obtain ⟨k, A, c, ob, hk, rfl, HR⟩ := hrel
    by_cases hkn : k < n
    · obtain ⟨t1, ht1⟩ : ∃ t, t = nx o (rgS o s2 k) 4 := ⟨_, rfl⟩
      obtain ⟨a, ha⟩ : ∃ x, x = nb o (rgS o s2 k) 4 := ⟨_, rfl⟩
      obtain ⟨b, hb⟩ : ∃ x, x = nb o t1 4 := ⟨_, rfl⟩
      have hS1 : rgS o s2 (k + 1) = nx o t1 4 := by rw [ht1]; rfl
      have hR1 : rgR o s2 (k + 1) = rgR o s2 k ++ [(a, b)] := by rw [ha, hb, ht1]; rfl
      have d1_calls : ∀ W, Cur L T W g o (rgS o s2 k).p (rgS o s2 k).e → Calls Try.prog 29 #[.pointer (some ⟨g, 0, none⟩), .int .i64 4] W fun e w' => e = .returned (.int .i64 a) ∧ Cur L T w' g o t1.p t1.e ∧ Fr (One g) W w' := fun W h => by rw [ha, ht1]; exact cb_calls W g o _ 4 h
      have d2_calls : ∀ W, Cur L T W g o t1.p t1.e → Calls Try.prog 29 #[.pointer (some ⟨g, 0, none⟩), .int .i64 4] W fun e w' => e = .returned (.int .i64 b) ∧ Cur L T w' g o (rgS o s2 (k + 1)).p (rgS o s2 (k + 1)).e ∧ Fr (One g) W w' := fun W h => by rw [hb, hS1]; exact cb_calls W g o _ 4 h
      have D1 := hid d1_calls
      have D2 := hid d2_calls
      have HR1 := hid hR1
      have hltr : h < wr.heap.size := (Array.getElem?_eq_some_iff.1 HR.out.2.1).1
      have n10 := (blk12 HR.out.2.1).2.2.2.2.2.2.2.2.2.2.1
      have y10 := free12 HR.out.2.1 10
      have hobg : ∀ q, ob = some q → ¬ One g q := fun q hq e => by
        have e : q = g := e
        have h1 := HR.out.2.2.2.1 q hq
        have h2 := HC.out.gu
        omega
      have hobh : ob ≠ some h := fun e => by have := HR.out.2.2.2.1 h e; omega
      clear ht1 ha hb hS1 hR1 d1_calls d2_calls
      go_wp2_with fail
      go_region_law ((first
          | (go_simp; go_at_call 29; refine (D2.out _ hq1).mono ?_; rintro e w4 ⟨rfl, hq2, hp2⟩; have hlt4 : h < w4.heap.size := Nat.lt_of_lt_of_le hlt3 hp2.size; have hrow4 : Row w4 2 (.slice A k c) ob k (rngC (rgR o s2 k)) := (by first | exact hrow3.fr hp2 hobg | exact hrow3.drew.fr hp2 hobg); have n10'' := (hp2.cellg h 10 hlt3 (fun e => hne e)).trans n10'; have y10'' := (hp2.frozen (p := ⟨h, 10, none⟩) hlt3 (fun e => hne e)).trans y10')
          | (go_simp; go_at_call 29; refine (D1.out _ (HR.out.1.drewN 1)).mono ?_; rintro e w3 ⟨rfl, hq1, hp1⟩; have hlt3 : h < w3.heap.size := Nat.lt_of_lt_of_le hltr hp1.size; have hrow3 : Row w3 2 (.slice A k c) ob k (rngC (rgR o s2 k)) := (by first | exact HR.out.2.2.1.fr hp1 hobg | exact HR.out.2.2.1.drew.fr hp1 hobg); have n10' := (hp1.cellg h 10 (by simpa using hltr) (fun e => hne e)).trans n10; have y10' := (hp1.frozen (p := ⟨h, 10, none⟩) (by simpa using hltr) (fun e => hne e)).trans y10)
          | (refine step_app slRg rfl (.tmp 17) (.tmp 23) rfl rfl (hrow4.fr (S := No) ((Fr.refl No w4).alloc _) (fun _ _ h => h)) rfl (show ([.int .i64 a, .int .i64 b] : List Value).length = 1 * 2 from rfl) (cells_new w4 [.int .i64 a, .int .i64 b] 53) (by intro u hu; simp only [List.mem_cons, List.not_mem_nil, or_false] at hu; rcases hu with rfl | rfl <;> rfl) (by omega) (by omega) ?_; intro A5 c5 w5 ob5 hv5 hf5 hob5; have n10t := (hf5.cellg h 10 (by simp; omega) (fun e => hobh e.symm)).trans (((((Fr.refl No w4).alloc _).cellg h 10 hlt4 (fun h => h))).trans n10''); have y10t := (hf5.frozen (p := ⟨h, 10, none⟩) (by simp; omega) (fun e => hobh e.symm)).trans (((((Fr.refl No w4).alloc _).frozen (p := ⟨h, 10, none⟩) hlt4 (fun h => h))).trans y10''))))
      all_goals
        have s1 := HR.out.2.2.2.2.size
        have sd : (wr.drewN 1).heap.size = wr.heap.size := rfl
        have s3 := hp1.size
        have s4 := hp2.size
        have s5 := hf5.size
        (try simp only [World.size_alloc, World.size_drew] at s3 s4 s5 hob5)
        obtain ⟨X, hX⟩ : ∃ X, X = w5.setCell ⟨h, 10, none⟩ (.slice A5 (k + 1) c5) := ⟨_, rfl⟩
        have hob5h : ∀ q, ob5 = some q → w.heap.size ≤ q := fun q hq => by
          rcases hob5 with h' | ⟨j, h', hj⟩
          · exact HR.out.2.2.2.1 q (by rw [← h']; exact hq)
          · rw [h'] at hq; injection hq with hq; omega
        have hfX : Fr (One h) w5 X := by rw [hX]; exact Fr.set1 _ _ _ _
        have hF3 : Fr (Two g h) wr w3 := (by first | exact hp1.two | exact ((Fr.refl (Two g h) wr).drew).then hp1.two)
        have hF4 : Fr (Two g h) wr w4 := (by first | exact hF3.then hp2.two | exact (hF3.drew).then hp2.two)
        have hF4a : Fr (Two g h) w w4 := HR.out.2.2.2.2.then hF4
        have hF5 : Fr (Two g h) w w5 := (hF4a.alloc (.cells #[.int .i64 a, .int .i64 b] 53)).fresh hf5 HR.out.2.2.2.1
        have hFX : Fr (Two g h) w X := hF5.then (hfX.mono (fun k _ e => .inr e))
        have hcX : Cur L T X g o (rgS o s2 (k + 1)).p (rgS o s2 (k + 1)).e := ((hq2.fr (S := No) ((Fr.refl No w4).alloc _) (fun _ _ _ h => h)).fr hf5 (fun q h1 h2 e => by have := HR.out.2.2.2.1 q e.symm; omega)).fr hfX (fun k h1 h2 e => by have e : k = h := e; omega)
        have hb4 : w4.heap[h]? = wr.heap[h]? := by
          have e1 : w3.heap[h]? = wr.heap[h]? := hp1.block h (by simpa using hltr) (fun e => hne e)
          have e2 : w4.heap[h]? = w3.heap[h]? := hp2.block h (by simpa using hlt3) (fun e => hne e)
          rw [e2, e1]
        have hb5 : w5.heap[h]? = some (.cells #[.int .i64 K, .int .u32 (U : Int), .int .i64 0, .int .u32 0, .int .i64 0, .int .i64 0, .int .i64 0, .int .i64 v1, .int .i64 0, .int .i64 0, .slice A k c, .slice none 0 0] 26 (0, 0)) := (hf5.block h (by simp; omega) (fun e => hobh e.symm)).trans ((((Fr.refl No w4).alloc _).block h hlt4 (fun h => h)).trans (hb4.trans HR.out.2.1))
        have hbX := set10 hb5 (.slice A5 (k + 1) c5)
        rw [← hX] at hbX
        have hrX : Row X 2 (.slice A5 (k + 1) c5) ob5 (k + 1) (rngC (rgR o s2 (k + 1))) := by
          rw [HR1.out, rngC_append]
          exact hv5.fr hfX (fun q hq e => by have e : q = h := e; have := hob5h q hq; omega)
        have HX := hid (And.intro hcX (And.intro hbX (And.intro hrX (And.intro hob5h hFX))))
        (try rw [← hX])
        clear hX hob5h hfX hF3 hF4 hF4a hF5 hFX hcX hb4 hb5 hbX hrX s1 sd s3 s4 s5 hob5 hf5 hv5 hp1 hp2 hq1 hq2 n10 n10' n10'' n10t y10 y10' y10'' y10t
        go_wp2_with fail
        go_roundw
        case rel => exact ⟨k + 1, A5, c5, ob5, by omega, by go_num, HX⟩
        case measure => simp [intOf] <;> omega
    · obtain rfl : k = n := by omega
      go_wp2_with fail
      go_end0
      obtain ⟨A', c', e1, e2, e3, e4⟩ := HR.out.2.2.1.cells
      injection e1 with q1 q2 q3
      subst q1
      subst q3
      rw [HS.out.1, HS.out.2]
      have hl : (rngC (rgR o s2 k)).length = k * 2 := HR.out.2.2.1.1
      rw [rngC_length] at hl
      exact ⟨rfl, HR.out.1, HR.out.2.2.2.2, A, k, c, none, 0, 0, HR.out.2.1, (by show (rgR o s2 k).length = k; omega), rfl, e3, Rd.nil, e2, Nat.le_refl _, fun ad e => HR.out.2.2.2.1 _ (e4 ad e), (fun _ h => by cases h)⟩
end Go.Proofs.Ytamkfjbdcjkchaa

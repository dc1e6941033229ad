/- The contract of screen.Write. -/
import Derived.Test.YtamkfjbdcjkchaaDoorSOnes
import Derived.Test.YtamkfjbdcjkchaaDoorSRd
import Derived.Test.YtamkfjbdcjkchaaDoorCat
import Derived.Lib.SlBytesConst
namespace Go.Proofs.YtamkfjbdcjkchaaDoor
open Go.RowKit Go.Proofs.HK
set_option linter.unusedVariables false
set_option linter.unusedSimpArgs false
attribute [local go_sem] max2_int min2_int max_two min_two
set_option maxRecDepth 100000 in
theorem sized_any (W H : Int) (w : World) : Calls Tryd.prog 17 #[.int .i64 W, .int .i64 H] w fun e w' => e = .returned (.bool (sizB W H)) ∧ w' = w := by
  obtain ⟨a, ha⟩ : ∃ a, a = mn W H := ⟨_, rfl⟩
  obtain ⟨b, hb⟩ : ∃ b, b = mx W H := ⟨_, rfl⟩
  have hab : (0 < a ↔ 0 < W ∧ 0 < H) ∧ (b ≤ 2048 ↔ W ≤ 2048 ∧ H ≤ 2048) := by
    rw [ha, hb]; unfold mn mx
    constructor
    · split <;> omega
    · split <;> omega
  have e1 : mn W H = a := ha.symm
  have e2 : mx W H = b := hb.symm
  clear ha hb
  by_cases ca : 0 < a
  · by_cases cb : b ≤ 2048
    · obtain ⟨c1, c2⟩ := hab.1.1 ca
      obtain ⟨c3, c4⟩ := hab.2.1 cb
      exact sized_calls W H w (by omega) (by omega)
    · have hS := hid (show sizB W H = false from decide_eq_false (fun h => cb (hab.2.2 ⟨h.2.2.1, h.2.2.2.1⟩)))
      clear hab
      go_enter Tryd.func17, Tryd.ntmps17
      go_wp2_with fail
      go_ret
      rw [hS.out]
      exact ⟨rfl, rfl⟩
  · have hS := hid (show sizB W H = false from decide_eq_false (fun h => ca (hab.1.2 ⟨h.1, h.2.1⟩)))
    clear hab
    go_enter Tryd.func17, Tryd.ntmps17
    go_wp2_with fail
    go_ret
    rw [hS.out]
    exact ⟨rfl, rfl⟩
def wrE (s : ScrS) : Int := if sizB s.W s.H = false then 11 else if ¬ (s.T.length / 3 ∈ p2L) then 12 else if s.C < -1 ∨ 255 < s.C ∨ s.K < 2 ∨ 8 < s.K then 1 else 0
def aheadB (s : ScrS) : Int := ((if s.L then 112 else 240) + (tzN (s.T.length / 3) - 1) : Nat)
def behindB (s : ScrS) : Int := ((if s.L then 128 else 0) + (if s.I then 64 else 0) + (tzN (s.T.length / 3) - 1) : Nat)
def sidesB (s : ScrS) : List UInt8 := putLE 2 s.W ++ putLE 2 s.H
def clearB (s : ScrS) : List UInt8 := if 0 ≤ s.C then [33, 249, 4, 1, 0, 0, HK.byteOf s.C, 0] else []
def wrP (s : ScrS) : List (List UInt8) := [magic, sidesB s, [HK.byteOf (aheadB s), 0, 0], if s.L then [] else s.T, clearB s, [44, 0, 0, 0, 0], sidesB s, [HK.byteOf (behindB s)], if s.L then s.T else [], [HK.byteOf s.K]]
def wrB (s : ScrS) : List UInt8 := if wrE s = 0 then (wrP s).flatten else []
theorem rd_mark (w : World) (xs : List UInt8) (e : TypeId) (l : Array Value) (h : l = (xs.map B).toArray) (m : Nat × Nat) : Rd B (w.alloc (.cells l e m)) (some ⟨w.heap.size, 0, none⟩) xs := by
  subst h
  have hb := heap_new w (.cells (xs.map B).toArray e m)
  intro _
  refine ⟨_, rfl, fun j hj => ?_⟩
  rw [add_lit, Nat.zero_add]
  unfold World.cell?
  rw [hb]
  simp [hj]
theorem rd_new (w : World) (l : List UInt8) (cs : List Value) (e : TypeId) (h : cs = l.map B) : Rd B (w.alloc (.cells cs.toArray e)) (some ⟨w.heap.size, 0, none⟩) l := by
  subst h
  exact Rd.cells.2 (cells_new w _ e)
theorem rdS_all {W : World} {e : TypeId} (vs : List Value) (xss : List (List UInt8)) (hl : xss.length = vs.length) (h : ∀ i (h1 : i < vs.length) (h2 : i < xss.length), ∃ A n c, vs[i] = .slice A n c ∧ xss[i].length = n ∧ Rd B W A xss[i]) :
    RdS (W.alloc (.cells vs.toArray e)) (some ⟨W.heap.size, 0, none⟩) vs xss :=
  ⟨hl, fun h0 => ⟨_, rfl, fun j hj => World.news_of_block (heap_alloc_new W _) j _ (by simp [List.getElem?_eq_getElem hj])⟩, fun i h1 h2 => by obtain ⟨A, n, c, e1, e2, e3⟩ := h i h1 h2; exact ⟨A, n, c, e1, e2, e3.alloc _⟩⟩
theorem or112 : ∀ k : Fin 8, bits .or .u8 ((k.val : Nat) : Int) 112 = ((112 + k.val : Nat) : Int) := by decide +kernel
theorem or128a : ∀ k : Fin 8, bits .or .u8 ((112 + k.val : Nat) : Int) 128 = ((240 + k.val : Nat) : Int) := by decide +kernel
theorem or128 : ∀ k : Fin 8, bits .or .u8 ((k.val : Nat) : Int) 128 = ((128 + k.val : Nat) : Int) := by decide +kernel
theorem or64 : ∀ k : Fin 8, bits .or .u8 ((k.val : Nat) : Int) 64 = ((64 + k.val : Nat) : Int) := by decide +kernel
theorem or64a : ∀ k : Fin 8, bits .or .u8 ((128 + k.val : Nat) : Int) 64 = ((192 + k.val : Nat) : Int) := by decide +kernel
theorem tz_bd {n : Nat} (h : n ∈ p2L) : 1 ≤ tzN n ∧ tzN n ≤ 8 := by
  unfold p2L at h
  simp only [List.mem_cons, List.not_mem_nil, or_false] at h
  rcases h with rfl | rfl | rfl | rfl | rfl | rfl | rfl | rfl <;> decide +kernel
theorem byte_cell (v : Int) : B (HK.byteOf v) = .int .u8 (IntKind.u8.wrap v) := by rw [B_byteOf, ← wrapu8]
set_option maxRecDepth 100000 in
set_option maxHeartbeats 6400000 in
theorem scwrite_calls (W H : Int) (T : List UInt8) (tA : Option Addr) (tn tc : Nat) (L : Bool) (C : Int) (I : Bool) (K : Int) (w : World) (hT : T.length = 3 * tn) (hr : Cells w tA (T.map B)) (hl : tn ≤ 46912496117077) (hw : TabW w) (hWb : -9223372036854775808 ≤ W ∧ W ≤ 9223372036854775807) (hHb : -9223372036854775808 ≤ H ∧ H ≤ 9223372036854775807) :
    Calls Tryd.prog 12 #[.agg #[.int .i64 W, .int .i64 H, .slice tA tn tc, .bool L, .int .i64 C, .bool I, .int .i64 K]] w fun e w' => ∃ v, e = .returned (.tuple #[v, .int .i64 (wrE (⟨W, H, T, L, C, I, K⟩ : ScrS))]) ∧ New B w w' v (wrB (⟨W, H, T, L, C, I, K⟩ : ScrS)) := by
  have HN := hid (And.intro hT (And.intro hr hw))
  have htn : T.length / 3 = tn := by omega
  have HTN := hid htn
  clear hT hr hw htn
  obtain ⟨g, hg⟩ : ∃ q, q = w.heap.size := ⟨_, rfl⟩
  obtain ⟨w1, hw1⟩ : ∃ X, X = w.alloc (.cells #[.int .i64 W, .int .i64 H, .slice tA tn tc, .bool L, .int .i64 C, .bool I, .int .i64 K] 26) := ⟨_, rfl⟩
  have hb1 : w1.heap[g]? = some (.cells #[.int .i64 W, .int .i64 H, .slice tA tn tc, .bool L, .int .i64 C, .bool I, .int .i64 K] 26 (0, 0)) := by rw [hw1, hg]; exact heap_new _ _
  have hf1 : Fr No w w1 := by rw [hw1]; exact (Fr.refl _ _).alloc _
  have HW1 := hid (And.intro hw1 hg)
  have HF1 := hid hf1
  have hX : ∀ Y, Fr No w1 Y → Y.heap[g]? = some (.cells #[.int .i64 W, .int .i64 H, .slice tA tn tc, .bool L, .int .i64 C, .bool I, .int .i64 K] 26 (0, 0)) := fun Y h => (h.block g (Array.getElem?_eq_some_iff.1 hb1).1 (fun h => h)).trans hb1
  have HX := hid hX
  obtain ⟨x0, x1, x2, x3, x4, x5, x6, xf⟩ := blk7 hb1
  clear hw1 hg hf1 hX hb1
  cases hsz : sizB W H with
  | false =>
    have HSZ := hid hsz
    have HE := hid (show wrE (⟨W, H, T, L, C, I, K⟩ : ScrS) = 11 ∧ wrB (⟨W, H, T, L, C, I, K⟩ : ScrS) = [] from by
      have h : wrE (⟨W, H, T, L, C, I, K⟩ : ScrS) = 11 := by unfold wrE; rw [if_pos hsz]
      exact ⟨h, by unfold wrB; rw [h]; rfl⟩)
    clear hsz
    go_enter Tryd.func12, Tryd.ntmps12
    go_wp2_with fail
    rw [← HW1.out.1, ← HW1.out.2]
    refine (sized_any W H w1).mono ?_
    rw [HSZ.out]
    rintro e wx ⟨rfl, hwx⟩
    rw [hwx]
    clear hwx wx
    go_wp2_with fail
    go_ret2
    rw [HE.out.1, HE.out.2]
    exact ⟨_, rfl, NewR.nil, HF1.out⟩
  | true =>
    have HSZ := hid hsz
    by_cases hp : tn ∈ p2L
    · have hpl := p2_le hp
      have hp2 : 2 ≤ tn := by
        unfold p2L at hp
        simp only [List.mem_cons, List.not_mem_nil, or_false] at hp
        omega
      have hoc : ((ocI (tn : Int)) != 1) = false := by
        have h := oc_p2 ⟨tn, by omega⟩ hp2
        simp only at h
        rw [decide_eq_true hp] at h
        have h := of_decide_eq_true h
        rw [h]; rfl
      have hwu : IntKind.u64.wrap (tn : Int) = (tn : Int) := by rw [IntKind.wrap_u64]; omega
      have htz := tz_bd hp
      have HP := hid hp
      have b1 : ¬ ((tn : Int) < 2) := by omega
      have b2 : ¬ ((tn : Int) > 256) := by omega
      have hsz2 : ¬ (sizB W H = false) := by rw [hsz]; simp
      have hpn : ¬ ¬ (T.length / 3 ∈ p2L) := by rw [HTN.out]; exact fun h => h hp
      have HSP := hid (And.intro hsz2 hpn)
      clear hsz hp hsz2 hpn
      by_cases hbad : C < -1 ∨ 255 < C ∨ K < 2 ∨ 8 < K
      · have HE := hid (show wrE (⟨W, H, T, L, C, I, K⟩ : ScrS) = 1 ∧ wrB (⟨W, H, T, L, C, I, K⟩ : ScrS) = [] from by
          have h : wrE (⟨W, H, T, L, C, I, K⟩ : ScrS) = 1 := by unfold wrE; rw [if_neg HSP.out.1, if_neg HSP.out.2, if_pos hbad]
          exact ⟨h, by unfold wrB; rw [h]; rfl⟩)
        have hcs : (C < -1) ∨ (¬ C < -1 ∧ 255 < C) ∨ (¬ C < -1 ∧ ¬ 255 < C ∧ K < 2) ∨ (¬ C < -1 ∧ ¬ 255 < C ∧ ¬ K < 2 ∧ 8 < K) := by omega
        clear hbad
        rcases hcs with h1 | ⟨h1, h2⟩ | ⟨h1, h2, h3⟩ | ⟨h1, h2, h3, h4⟩
        all_goals
          go_enter Tryd.func12, Tryd.ntmps12
          go_wp2_with fail
          rw [← HW1.out.1, ← HW1.out.2]
          refine (sized_any W H w1).mono ?_
          rw [HSZ.out]
          rintro e wx ⟨rfl, hwx⟩
          rw [hwx]
          clear hwx wx
          go_wp2_with fail
          refine (ones_calls tn hpl w1).mono ?_
          rintro e wx ⟨rfl, hwx⟩
          rw [hwx]
          clear hwx wx
          go_wp2_with fail
          go_ret2
          rw [HE.out.1, HE.out.2]
          exact ⟨_, rfl, NewR.nil, HF1.out⟩
      · have HE := hid (show wrE (⟨W, H, T, L, C, I, K⟩ : ScrS) = 0 ∧ wrB (⟨W, H, T, L, C, I, K⟩ : ScrS) = (wrP (⟨W, H, T, L, C, I, K⟩ : ScrS)).flatten from by
          have h : wrE (⟨W, H, T, L, C, I, K⟩ : ScrS) = 0 := by unfold wrE; rw [if_neg HSP.out.1, if_neg HSP.out.2, if_neg hbad]
          exact ⟨h, by unfold wrB; rw [if_pos h]⟩)
        have h1 : ¬ C < -1 := by omega
        have h2 : ¬ 255 < C := by omega
        have h3 : ¬ K < 2 := by omega
        have h4 : ¬ 8 < K := by omega
        clear hbad
        go_enter Tryd.func12, Tryd.ntmps12
        go_wp2_with fail
        rw [← HW1.out.1, ← HW1.out.2]
        refine (sized_any W H w1).mono ?_
        rw [HSZ.out]
        rintro e wx ⟨rfl, hwx⟩
        rw [hwx]
        clear hwx wx
        go_wp2_with fail
        refine (ones_calls tn hpl w1).mono ?_
        rintro e wx ⟨rfl, hwx⟩
        rw [hwx]
        clear hwx wx
        go_wp2_with fail
        clear x0 x1 x2 x3 x4 x5 x6 xf
        go_loopw [5, 60] (fun v i wr => ∃ (k j : Nat) (A1 : Option Addr) (c1 : Nat), k ≤ tn ∧ i = .int .i64 k ∧ v = .slice A1 j c1 ∧ j = 3 * k ∧ Hid ((∃ ob1, Row wr 1 (.slice A1 j c1) ob1 j ((T.take (3 * k)).map B) ∧ (∀ q, ob1 = some q → w1.heap.size ≤ q)) ∧ Fr No w1 wr)) (fun _ i _ => tn - (intOf i).toNat)
        case atStart => exact ⟨0, 0, none, 0, by omega, rfl, rfl, rfl, hid ⟨⟨none, Row.nil _ _, fun _ h => by cases h⟩, Fr.refl _ _⟩⟩
        case round =>
          obtain ⟨k, j, A1, c1, hk, rfl, rfl, hj, HR⟩ := hrel
          have HJ := hid hj
          have hjb : j + 3 ≤ 1000 := by omega
          have hjb2 : j ≤ 3 * k := by omega
          have hjb3 : 3 * k ≤ j := by omega
          clear hj
          by_cases hlt : k < tn
          · skip
            obtain ⟨⟨ob1, hrow1, hob1⟩, hfr1⟩ := HR.out
            obtain ⟨ad, rfl, q0, q1, q2⟩ := cells3 (HN.out.2.1.fr (HF1.out.then hfr1) (fun _ _ h => h)) k (by rw [HN.out.1]; omega)
            have hst := congrArg (List.map B) (take3 T k (by rw [HN.out.1]; omega))
            rw [List.map_append] at hst
            obtain ⟨y0, hy0⟩ : ∃ x : Int, x = ((rdB T (3 * k)).toNat : Int) := ⟨_, rfl⟩
            obtain ⟨y1, hy1⟩ : ∃ x : Int, x = ((rdB T (3 * k + 1)).toNat : Int) := ⟨_, rfl⟩
            obtain ⟨y2, hy2⟩ : ∃ x : Int, x = ((rdB T (3 * k + 2)).toNat : Int) := ⟨_, rfl⟩
            have hys : [rdB T (3 * k), rdB T (3 * k + 1), rdB T (3 * k + 2)].map B = [.int .u8 y0, .int .u8 y1, .int .u8 y2] := by rw [hy0, hy1, hy2]; rfl
            rw [hys] at hst
            rw [← hy0] at q0
            rw [← hy1] at q1
            rw [← hy2] at q2
            have HS := hid hst
            have HO := hid (And.intro hrow1 (And.intro hob1 hfr1))
            clear hst hys hy0 hy1 hy2 hrow1 hob1 hfr1
            go_wp2_with (at_builtin; refine wpList_app slU8 rfl (.tmp 64) (.tmp 71) rfl rfl (HO.out.1.fr (((Fr.refl No wr).alloc _).alloc _) (fun _ _ h => h)) rfl (m := 3) (c := 3) (ys := [.int .u8 y0, .int .u8 y1, .int .u8 y2]) rfl (by have := cells_new (wr.alloc (.cells #[.int .u8 y0, .int .u8 y1, .int .u8 y2] 58)) [.int .u8 y0, .int .u8 y1, .int .u8 y2] 5; rw [World.size_alloc] at this; exact this) (by simp [Value.oneCell']) (by omega) (by omega) ?_; intro A2 c2 w2 ob2 hrow2 hfr2 hob2)
            go_roundw
            case rel =>
              rw [← HS.out] at hrow2
              have := HO.out.2.2.size
              have hj := HJ.out
              refine ⟨k + 1, j + 3, A2, c2, by omega, by go_num, rfl, by omega, hid ⟨⟨ob2, hrow2, fun q hq => ?_⟩, ((HO.out.2.2.alloc _).alloc _).fresh hfr2 HO.out.2.1⟩⟩
              rcases hob2 with h | ⟨i, h, hi⟩
              · exact HO.out.2.1 q (by rw [← h]; exact hq)
              · rw [World.size_alloc, World.size_alloc] at hi
                rw [h] at hq; injection hq with hq; omega
            case measure => simp [intOf] <;> omega
          · skip
            have hkt : tn = k := by omega
            subst hkt
            have hTT : T.take (3 * tn) = T := List.take_of_length_le (by rw [HN.out.1]; exact Nat.le_refl _)
            have HTR := hid (show (∃ ob1, Row wr 1 (.slice A1 j c1) ob1 j (T.map B) ∧ (∀ q, ob1 = some q → w1.heap.size ≤ q)) ∧ Fr No w1 wr from by have h := HR.out; rw [hTT] at h; exact h)
            have HTL := hid (show T.length = j from by rw [HN.out.1, HJ.out])
            have HTRD := hid (show Rd B wr A1 T from by obtain ⟨ob, h, _⟩ := HTR.out.1; exact h.rd.1)
            clear hTT hlt
            obtain ⟨k8, hk8⟩ : ∃ q, q = tzN tn - 1 := ⟨_, rfl⟩
            have hk8b : k8 < 8 := by omega
            have htzk : ((tzN tn : Nat) : Int) - 1 = (k8 : Int) := by omega
            have hw8 : IntKind.u8.wrap (k8 : Int) = (k8 : Int) := by rw [IntKind.wrap_u8]; omega
            have HK8 := hid hk8
            have o1 := or112 ⟨k8, hk8b⟩
            have o2 := or128a ⟨k8, hk8b⟩
            have o3 := or128 ⟨k8, hk8b⟩
            have o4 := or64 ⟨k8, hk8b⟩
            have o5 := or64a ⟨k8, hk8b⟩
            simp only at o1 o2 o3 o4 o5
            obtain ⟨c112, hc112⟩ : ∃ q, q = 112 + k8 := ⟨_, rfl⟩
            obtain ⟨c128, hc128⟩ : ∃ q, q = 128 + k8 := ⟨_, rfl⟩
            obtain ⟨c240, hc240⟩ : ∃ q, q = 240 + k8 := ⟨_, rfl⟩
            obtain ⟨c64, hc64⟩ : ∃ q, q = 64 + k8 := ⟨_, rfl⟩
            obtain ⟨c192, hc192⟩ : ∃ q, q = 192 + k8 := ⟨_, rfl⟩
            rw [← hc112] at o1 o2
            rw [← hc240] at o2
            rw [← hc128] at o3 o5
            rw [← hc64] at o4
            rw [← hc192] at o5
            have HCC := hid (And.intro hc112 (And.intro hc128 (And.intro hc240 (And.intro hc64 hc192))))
            clear hk8 hc112 hc128 hc240 hc64 hc192
            obtain ⟨x0, x1, x2, x3, x4, x5, x6, xf⟩ := blk7 (HX.out wr HTR.out.2)
            go_wp2_with fail
            refine (trail_calls tn HP.out wr (HN.out.2.2.fr (HF1.out.then HTR.out.2))).mono ?_
            rintro e wx ⟨rfl, hwx⟩
            rw [hwx]
            clear hwx wx
            go_upto_if 85 with fail
            obtain ⟨av, bv, gA, gn, gc, lA, ln, lc, hcase⟩ : ∃ (av bv : Nat) (gA : Option Addr) (gn gc : Nat) (lA : Option Addr) (ln lc : Nat), (L = true ∧ av = c112 ∧ bv = c128 ∧ gA = none ∧ gn = 0 ∧ gc = 0 ∧ lA = A1 ∧ ln = j ∧ lc = c1) ∨ (L = false ∧ av = c240 ∧ bv = k8 ∧ gA = A1 ∧ gn = j ∧ gc = c1 ∧ lA = none ∧ ln = 0 ∧ lc = 0) := by
              cases L
              · exact ⟨c240, k8, A1, j, c1, none, 0, 0, .inr ⟨rfl, rfl, rfl, rfl, rfl, rfl, rfl, rfl, rfl⟩⟩
              · exact ⟨c112, c128, none, 0, 0, A1, j, c1, .inl ⟨rfl, rfl, rfl, rfl, rfl, rfl, rfl, rfl, rfl⟩⟩
            have HCASE := hid hcase
            have HAV := hid (show (av : Int) = aheadB (⟨W, H, T, L, C, I, K⟩ : ScrS) from by
              unfold aheadB
              rw [HTN.out]
              rcases hcase with h | h
              · rw [h.1, h.2.1]; have := HCC.out.1; have := HK8.out; simp; omega
              · rw [h.1, h.2.1]; have := HCC.out.2.2.1; have := HK8.out; simp; omega)
            have HGL := hid (show (if L then ([] : List UInt8) else T).length = gn ∧ Rd B wr gA (if L then [] else T) ∧ (if L then T else ([] : List UInt8)).length = ln ∧ Rd B wr lA (if L then T else []) from by
              rcases hcase with ⟨h0, _, _, h3, h4, _, h6, h7, _⟩ | ⟨h0, _, _, h3, h4, _, h6, h7, _⟩
              · subst h0; subst h3; subst h4; subst h6; subst h7; exact ⟨rfl, Rd.nil, HTL.out, HTRD.out⟩
              · subst h0; subst h3; subst h4; subst h6; subst h7; exact ⟨HTL.out, HTRD.out, rfl, Rd.nil⟩)
            obtain ⟨cv, hcv⟩ : ∃ cv : Nat, (I = true ∧ bits .or .u8 (bv : Int) 64 = (cv : Int)) ∨ (I = false ∧ cv = bv) := by
              cases I
              · exact ⟨bv, .inr ⟨rfl, rfl⟩⟩
              · rcases hcase with h | h
                · exact ⟨c192, .inl ⟨rfl, by rw [h.2.2.1]; exact o5⟩⟩
                · exact ⟨c64, .inl ⟨rfl, by rw [h.2.2.1]; exact o4⟩⟩
            have HCV := hid (show (cv : Int) = behindB (⟨W, H, T, L, C, I, K⟩ : ScrS) from by
              unfold behindB
              rw [HTN.out]
              have e1 := HCC.out
              have e2 := HK8.out
              rcases hcase with ⟨h0, _, h2, _⟩ | ⟨h0, _, h2, _⟩
              · rcases hcv with ⟨i0, i1⟩ | ⟨i0, i1⟩
                · rw [h2, o5] at i1; rw [h0, i0]; simp; omega
                · rw [h0, i0]; simp; omega
              · rcases hcv with ⟨i0, i1⟩ | ⟨i0, i1⟩
                · rw [h2, o4] at i1; rw [h0, i0]; simp; omega
                · rw [h0, i0]; simp; omega)
            have HCVC := hid hcv
            clear hcv hcase
            go_cut [9, 10, 11, 12] (fun s9 s10 s11 s12 wx => s9 = .int .u8 (av : Int) ∧ s10 = .int .u8 (bv : Int) ∧ s11 = .slice gA gn gc ∧ s12 = .slice lA ln lc ∧ wx = wr)
            case first =>
              rcases HCASE.out with ⟨h0, rfl, rfl, rfl, rfl, rfl, rfl, rfl, rfl⟩ | ⟨h0, rfl, rfl, rfl, rfl, rfl, rfl, rfl, rfl⟩
              all_goals
                subst h0
                go_wp2_with fail
                go_meet
                exact ⟨rfl, rfl, rfl, rfl, rfl⟩
            case rest =>
              obtain ⟨rfl, rfl, rfl, rfl, rfl⟩ := hcut
              clear o1 o2 o3 o4 o5
              go_upto_if 92 with fail
              go_cut [10] (fun s10 wx => s10 = .int .u8 (cv : Int) ∧ wx = wc)
              case first =>
                rcases HCVC.out with ⟨rfl, i1⟩ | ⟨rfl, rfl⟩
                · skip
                  go_wp2_with fail
                  go_meet
                  exact ⟨rfl, rfl⟩
                · skip
                  go_wp2_with fail
                  go_meet
                  exact ⟨rfl, rfl⟩
              case rest =>
                obtain ⟨rfl, hwq⟩ := hcut
                obtain ⟨w4, hw4⟩ : ∃ x : World, x = wc := ⟨_, rfl⟩
                rw [← hw4]
                have HF4 := hid (show Fr No w1 w4 from by rw [hw4, hwq]; exact HTR.out.2)
                have HGL4 := hid (show (if L then ([] : List UInt8) else T).length = gn ∧ Rd B w4 gA (if L then [] else T) ∧ (if L then T else ([] : List UInt8)).length = ln ∧ Rd B w4 lA (if L then T else []) from by rw [hw4, hwq]; exact HGL.out)
                clear hw4 hwq x0 x1 x2 x3 x4 x5 x6 xf
                go_upto_region 22 with fail
                refine wp_region_held_drew (S := (fun Y => Y.heap[g]? = some (.cells #[.int .i64 W, .int .i64 H, .slice tA tn tc, .bool L, .int .i64 C, .bool I, .int .i64 K] 26 (0, 0)))) (by kernel_rfl) (HX.out _ HF4.out.drew) (fun hHeld => ?_)
                refine takeD (i := 0) (d := some 95) (v := .pointer (some ⟨g, 0, none⟩)) rfl rfl (by kernel_rfl) (by kernel_rfl) (by kernel_rfl) (fun _ _ _ h => h) (by rfl) ?_ (by assumption) ?_
                · intro w' hSw
                  obtain ⟨y0, y1, y2, y3, y4, y5, y6, yf⟩ := blk7 (show w'.heap[g]? = some (.cells #[.int .i64 W, .int .i64 H, .slice tA tn tc, .bool L, .int .i64 C, .bool I, .int .i64 K] 26 (0, 0)) from hSw)
                  clear hSw hHeld
                  go_simp
                  first | done | rfl
                (try simp only [Act.put, List.setIfInBounds_toArray, List.set_cons_zero, List.set_cons_succ])
                refine takeD (i := 1) (d := some 96) (v := .int .i64 W) rfl rfl (by kernel_rfl) (by kernel_rfl) (by kernel_rfl) (fun _ _ _ h => h) (by rfl) ?_ (by assumption) ?_
                · intro w' hSw
                  obtain ⟨y0, y1, y2, y3, y4, y5, y6, yf⟩ := blk7 (show w'.heap[g]? = some (.cells #[.int .i64 W, .int .i64 H, .slice tA tn tc, .bool L, .int .i64 C, .bool I, .int .i64 K] 26 (0, 0)) from hSw)
                  clear hSw hHeld
                  go_simp
                  first | done | rfl
                (try simp only [Act.put, List.setIfInBounds_toArray, List.set_cons_zero, List.set_cons_succ])
                refine takeD (i := 3) (d := some 98) (v := .pointer (some ⟨g, 1, none⟩)) rfl rfl (by kernel_rfl) (by kernel_rfl) (by kernel_rfl) (fun _ _ _ h => h) (by rfl) ?_ (by assumption) ?_
                · intro w' hSw
                  obtain ⟨y0, y1, y2, y3, y4, y5, y6, yf⟩ := blk7 (show w'.heap[g]? = some (.cells #[.int .i64 W, .int .i64 H, .slice tA tn tc, .bool L, .int .i64 C, .bool I, .int .i64 K] 26 (0, 0)) from hSw)
                  clear hSw hHeld
                  go_simp
                  first | done | rfl
                (try simp only [Act.put, List.setIfInBounds_toArray, List.set_cons_zero, List.set_cons_succ])
                refine takeD (i := 4) (d := some 99) (v := .int .i64 H) rfl rfl (by kernel_rfl) (by kernel_rfl) (by kernel_rfl) (fun _ _ _ h => h) (by rfl) ?_ (by assumption) ?_
                · intro w' hSw
                  obtain ⟨y0, y1, y2, y3, y4, y5, y6, yf⟩ := blk7 (show w'.heap[g]? = some (.cells #[.int .i64 W, .int .i64 H, .slice tA tn tc, .bool L, .int .i64 C, .bool I, .int .i64 K] 26 (0, 0)) from hSw)
                  clear hSw hHeld
                  go_simp
                  first | done | rfl
                (try simp only [Act.put, List.setIfInBounds_toArray, List.set_cons_zero, List.set_cons_succ])
                refine oneD (i := 2) (by kernel_rfl) rfl (fun KK hK => ?_)
                go_simp
                go_at_call 29
                refine (putLittle_calls 2 W _ (by omega)).mono ?_
                rw [show cut8 2 = 2 from by decide]
                rintro e p1 ⟨v, rfl, hnew⟩
                obtain ⟨pA1, pn1, pc1, rfl, PN1⟩ := hnew.use
                clear hnew
                obtain rfl : pn1 = 2 := by rw [← PN1.out.1, putLE_length]
                have HPF1 := hid (HF4.out.drew.then PN1.out.2.2.2.1)
                refine hK.out _ _ (HX.out _ HPF1.out) (fun hHeld => ?_)
                clear hK KK
                (try simp only [Act.put, List.setIfInBounds_toArray, List.set_cons_zero, List.set_cons_succ])
                refine oneD (i := 5) (by kernel_rfl) rfl (fun KK hK => ?_)
                go_simp
                go_at_call 29
                refine (putLittle_calls 2 H _ (by omega)).mono ?_
                rw [show cut8 2 = 2 from by decide]
                rintro e p2 ⟨v, rfl, hnew⟩
                obtain ⟨pA2, pn2, pc2, rfl, PN2⟩ := hnew.use
                clear hnew
                obtain rfl : pn2 = 2 := by rw [← PN2.out.1, putLE_length]
                have HPF2 := hid (HPF1.out.then PN2.out.2.2.2.1)
                refine hK.out _ _ (HX.out _ HPF2.out) (fun hHeld => ?_)
                clear hK KK
                (try simp only [Act.put, List.setIfInBounds_toArray, List.set_cons_zero, List.set_cons_succ])
                refine oneD (i := 6) (by kernel_rfl) rfl (fun KK hK => ?_)
                go_simp
                refine hK.out _ _ (HX.out _ (HPF2.out.alloc _)) (fun hHeld => ?_)
                clear hK KK
                (try simp only [Act.put, List.setIfInBounds_toArray, List.set_cons_zero, List.set_cons_succ])
                refine oneD (i := 7) (by kernel_rfl) rfl (fun KK hK => ?_)
                go_simp
                go_at_call 28
                refine (concat_calls (some ⟨p2.heap.size, 0, none⟩) 2 2 [.slice pA1 2 pc1, .slice pA2 2 pc2] [putLE 2 W, putLE 2 H] rfl _ (rdS_all [.slice pA1 2 pc1, .slice pA2 2 pc2] [putLE 2 W, putLE 2 H] rfl (fun i h1 h2 => ?_)) (by simp [putLE_length]) (by decide)).mono ?_
                · match i, h1 with
                  | 0, _ => exact ⟨pA1, 2, pc1, rfl, PN1.out.1, PN1.out.2.1.fr0 PN2.out.2.2.2.1⟩
                  | 1, _ => exact ⟨pA2, 2, pc2, rfl, PN2.out.1, PN2.out.2.1⟩
                rw [show [putLE 2 W, putLE 2 H].flatten = sidesB (⟨W, H, T, L, C, I, K⟩ : ScrS) from by simp [sidesB]]
                rintro e w5 ⟨v, rfl, hnew⟩
                obtain ⟨sA, sn, sc, rfl, SN⟩ := hnew.use
                clear hnew
                have HF5 := hid ((HPF2.out.alloc _).then SN.out.2.2.2.1)
                have HF45 := hid (((((Fr.refl No w4).drew).then PN1.out.2.2.2.1).then PN2.out.2.2.2.1).alloc _ |>.then SN.out.2.2.2.1)
                refine hK.out _ _ (HX.out _ HF5.out) (fun hHeld => ?_)
                clear hK KK
                (try simp only [Act.put, List.setIfInBounds_toArray, List.set_cons_zero, List.set_cons_succ])
                refine takeD (i := 8) (d := some 13) (v := .slice sA sn sc) rfl rfl (by kernel_rfl) (by kernel_rfl) (by kernel_rfl) (fun _ _ _ h => h) (by rfl) ?_ (by assumption) ?_
                · intro w' hSw
                  obtain ⟨y0, y1, y2, y3, y4, y5, y6, yf⟩ := blk7 (show w'.heap[g]? = some (.cells #[.int .i64 W, .int .i64 H, .slice tA tn tc, .bool L, .int .i64 C, .bool I, .int .i64 K] 26 (0, 0)) from hSw)
                  clear hSw hHeld
                  go_simp
                  first | done | rfl
                (try simp only [Act.put, List.setIfInBounds_toArray, List.set_cons_zero, List.set_cons_succ])
                refine wpAnyH_done (by kernel_rfl) ?_ _
                clear hHeld
                obtain ⟨x0, x1, x2, x3, x4, x5, x6, xf⟩ := blk7 (HX.out _ HF5.out)
                go_upto_if 105 with fail
                go_cut [14] (fun s14 wx => ∃ cA cn cc, s14 = .slice cA cn cc ∧ (clearB (⟨W, H, T, L, C, I, K⟩ : ScrS)).length = cn ∧ Rd B wx cA (clearB (⟨W, H, T, L, C, I, K⟩ : ScrS)) ∧ Fr No w5 wx)
                case first =>
                  by_cases hC : 0 ≤ C
                  · skip
                    have hcb : clearB (⟨W, H, T, L, C, I, K⟩ : ScrS) = [33, 249, 4, 1, 0, 0, HK.byteOf C, 0] := by unfold clearB; rw [if_pos hC]
                    have HCB := hid hcb
                    have hwc : IntKind.u8.wrap C = C := by rw [IntKind.wrap_u8]; omega
                    clear hcb
                    go_wp2_with fail
                    go_meet
                    refine ⟨_, 8, 8, rfl, by rw [HCB.out]; rfl, ?_, (Fr.refl No w5).alloc _⟩
                    rw [HCB.out]
                    exact rd_new w5 _ [.int .u8 33, .int .u8 249, .int .u8 4, .int .u8 1, .int .u8 0, .int .u8 0, .int .u8 C, .int .u8 0] 5 (by simp only [List.map_cons, List.map_nil, byte_cell, hwc]; rfl)
                  · skip
                    have HCB := hid (show clearB (⟨W, H, T, L, C, I, K⟩ : ScrS) = [] from by unfold clearB; rw [if_neg hC])
                    go_wp2_with fail
                    go_meet
                    exact ⟨none, 0, 0, rfl, by rw [HCB.out]; rfl, by rw [HCB.out]; exact Rd.nil, Fr.refl _ _⟩
                case rest =>
                  obtain ⟨cA, cn, cc, rfl, hcl, hcr, hcf⟩ := hcut
                  obtain ⟨w6, rfl⟩ : ∃ x : World, x = wc := ⟨_, rfl⟩
                  have HC6 := hid (And.intro hcl (And.intro hcr hcf))
                  have hwK : IntKind.u8.wrap K = K := by rw [IntKind.wrap_u8]; omega
                  clear hcl hcr hcf x0 x1 x2 x3 x4 x5 x6 xf
                  have m6 : ∀ Y, Fr No w6 Y → Y.cell? ⟨g, 6, none⟩ = some (.int .i64 K) := fun Y h => (blk7 (HX.out Y ((HF5.out.then HC6.out.2.2).then h))).2.2.2.2.2.2.1
                  have m6a : ∀ o1 o2 o3 o4, ((((w6.alloc o1).alloc o2).alloc o3).alloc o4).cell? ⟨g, 6, none⟩ = some (.int .i64 K) := fun o1 o2 o3 o4 => m6 _ (((((Fr.refl No w6).alloc o1).alloc o2).alloc o3).alloc o4)
                  clear m6
                  have hcv : (Go.convert 22 22 (.slice (some ⟨w6.heap.size, 0, none⟩) 6 6)).run Tryd.prog (w6.alloc (.cells #[.int .u8 71, .int .u8 73, .int .u8 70, .int .u8 56, .int .u8 57, .int .u8 97] 5)) = .ok (.slice (some ⟨w6.heap.size, 0, none⟩) 6 6) (w6.alloc (.cells #[.int .u8 71, .int .u8 73, .int .u8 70, .int .u8 56, .int .u8 57, .int .u8 97] 5 (6, 7))) := Lib.run_convert_bytes_const w6 22 5 #[.int .u8 71, .int .u8 73, .int .u8 70, .int .u8 56, .int .u8 57, .int .u8 97] 6 6 slU8.und u8U
                  go_wp2_with fail
                  have hav : av < 256 ∧ cv < 256 := by
                    have e1 := HCC.out
                    constructor
                    · rcases HCASE.out with h | h
                      · have := h.2.1; omega
                      · have := h.2.1; omega
                    · have hbv : bv ≤ 135 := by
                        rcases HCASE.out with h | h
                        · have := h.2.2.1; omega
                        · have := h.2.2.1; omega
                      rcases HCVC.out with ⟨i0, i1⟩ | ⟨i0, i1⟩
                      · rcases HCASE.out with h | h
                        · rw [h.2.2.1] at i1; have h5 := or64a ⟨k8, hk8b⟩; simp only at h5; rw [← e1.2.1] at h5; rw [h5] at i1; omega
                        · rw [h.2.2.1] at i1; have h5 := or64 ⟨k8, hk8b⟩; simp only at h5; rw [h5] at i1; omega
                      · omega
                  have hfa : Fr No w6 (((((w6.alloc (.cells #[.int .u8 71, .int .u8 73, .int .u8 70, .int .u8 56, .int .u8 57, .int .u8 97] 5 (6, 7))).alloc (.cells #[.int .u8 (av : Int), .int .u8 0, .int .u8 0] 5)).alloc (.cells #[.int .u8 44, .int .u8 0, .int .u8 0, .int .u8 0, .int .u8 0] 5)).alloc (.cells #[.int .u8 (cv : Int)] 5)).alloc (.cells #[.int .u8 K] 5)) := (((((Fr.refl No w6).alloc _).alloc _).alloc _).alloc _).alloc _
                  have r0 : Rd B (((((w6.alloc (.cells #[.int .u8 71, .int .u8 73, .int .u8 70, .int .u8 56, .int .u8 57, .int .u8 97] 5 (6, 7))).alloc (.cells #[.int .u8 (av : Int), .int .u8 0, .int .u8 0] 5)).alloc (.cells #[.int .u8 44, .int .u8 0, .int .u8 0, .int .u8 0, .int .u8 0] 5)).alloc (.cells #[.int .u8 (cv : Int)] 5)).alloc (.cells #[.int .u8 K] 5)) (some ⟨w6.heap.size, 0, none⟩) magic := ((((rd_mark w6 magic 5 _ rfl (6, 7)).alloc _).alloc _).alloc _).alloc _
                  have r3 : Rd B (((((w6.alloc (.cells #[.int .u8 71, .int .u8 73, .int .u8 70, .int .u8 56, .int .u8 57, .int .u8 97] 5 (6, 7))).alloc (.cells #[.int .u8 (av : Int), .int .u8 0, .int .u8 0] 5)).alloc (.cells #[.int .u8 44, .int .u8 0, .int .u8 0, .int .u8 0, .int .u8 0] 5)).alloc (.cells #[.int .u8 (cv : Int)] 5)).alloc (.cells #[.int .u8 K] 5)) (some ⟨w6.heap.size + 1, 0, none⟩) [HK.byteOf (aheadB (⟨W, H, T, L, C, I, K⟩ : ScrS)), 0, 0] := by
                    have h := rd_new (w6.alloc (.cells #[.int .u8 71, .int .u8 73, .int .u8 70, .int .u8 56, .int .u8 57, .int .u8 97] 5 (6, 7))) [HK.byteOf (aheadB (⟨W, H, T, L, C, I, K⟩ : ScrS)), 0, 0] [.int .u8 (av : Int), .int .u8 0, .int .u8 0] 5 (by rw [← HAV.out]; simp only [List.map_cons, List.map_nil, byte_cell, IntKind.wrap_u8]; rw [Int.emod_eq_of_lt (by omega) (by omega)]; rfl)
                    rw [World.size_alloc] at h
                    exact (((h.alloc _).alloc _).alloc _)
                  have r5 : Rd B (((((w6.alloc (.cells #[.int .u8 71, .int .u8 73, .int .u8 70, .int .u8 56, .int .u8 57, .int .u8 97] 5 (6, 7))).alloc (.cells #[.int .u8 (av : Int), .int .u8 0, .int .u8 0] 5)).alloc (.cells #[.int .u8 44, .int .u8 0, .int .u8 0, .int .u8 0, .int .u8 0] 5)).alloc (.cells #[.int .u8 (cv : Int)] 5)).alloc (.cells #[.int .u8 K] 5)) (some ⟨w6.heap.size + 1 + 1, 0, none⟩) [44, 0, 0, 0, 0] := by
                    have h := rd_new ((w6.alloc (.cells #[.int .u8 71, .int .u8 73, .int .u8 70, .int .u8 56, .int .u8 57, .int .u8 97] 5 (6, 7))).alloc (.cells #[.int .u8 (av : Int), .int .u8 0, .int .u8 0] 5)) [44, 0, 0, 0, 0] [.int .u8 44, .int .u8 0, .int .u8 0, .int .u8 0, .int .u8 0] 5 rfl
                    rw [World.size_alloc, World.size_alloc] at h
                    exact ((h.alloc _).alloc _)
                  have r7 : Rd B (((((w6.alloc (.cells #[.int .u8 71, .int .u8 73, .int .u8 70, .int .u8 56, .int .u8 57, .int .u8 97] 5 (6, 7))).alloc (.cells #[.int .u8 (av : Int), .int .u8 0, .int .u8 0] 5)).alloc (.cells #[.int .u8 44, .int .u8 0, .int .u8 0, .int .u8 0, .int .u8 0] 5)).alloc (.cells #[.int .u8 (cv : Int)] 5)).alloc (.cells #[.int .u8 K] 5)) (some ⟨w6.heap.size + 1 + 1 + 1, 0, none⟩) [HK.byteOf (behindB (⟨W, H, T, L, C, I, K⟩ : ScrS))] := by
                    have h := rd_new (((w6.alloc (.cells #[.int .u8 71, .int .u8 73, .int .u8 70, .int .u8 56, .int .u8 57, .int .u8 97] 5 (6, 7))).alloc (.cells #[.int .u8 (av : Int), .int .u8 0, .int .u8 0] 5)).alloc (.cells #[.int .u8 44, .int .u8 0, .int .u8 0, .int .u8 0, .int .u8 0] 5)) [HK.byteOf (behindB (⟨W, H, T, L, C, I, K⟩ : ScrS))] [.int .u8 (cv : Int)] 5 (by rw [← HCV.out]; simp only [List.map_cons, List.map_nil, byte_cell, IntKind.wrap_u8]; rw [Int.emod_eq_of_lt (by omega) (by omega)])
                    rw [World.size_alloc, World.size_alloc, World.size_alloc] at h
                    exact (h.alloc _)
                  have r9 : Rd B (((((w6.alloc (.cells #[.int .u8 71, .int .u8 73, .int .u8 70, .int .u8 56, .int .u8 57, .int .u8 97] 5 (6, 7))).alloc (.cells #[.int .u8 (av : Int), .int .u8 0, .int .u8 0] 5)).alloc (.cells #[.int .u8 44, .int .u8 0, .int .u8 0, .int .u8 0, .int .u8 0] 5)).alloc (.cells #[.int .u8 (cv : Int)] 5)).alloc (.cells #[.int .u8 K] 5)) (some ⟨w6.heap.size + 1 + 1 + 1 + 1, 0, none⟩) [HK.byteOf K] := by
                    have h := rd_new ((((w6.alloc (.cells #[.int .u8 71, .int .u8 73, .int .u8 70, .int .u8 56, .int .u8 57, .int .u8 97] 5 (6, 7))).alloc (.cells #[.int .u8 (av : Int), .int .u8 0, .int .u8 0] 5)).alloc (.cells #[.int .u8 44, .int .u8 0, .int .u8 0, .int .u8 0, .int .u8 0] 5)).alloc (.cells #[.int .u8 (cv : Int)] 5)) [HK.byteOf K] [.int .u8 K] 5 (by simp only [List.map_cons, List.map_nil, byte_cell, IntKind.wrap_u8]; rw [Int.emod_eq_of_lt (by omega) (by omega)])
                    rw [World.size_alloc, World.size_alloc, World.size_alloc, World.size_alloc] at h
                    exact h
                  have hl1 : (if L then ([] : List UInt8) else T).length ≤ 768 := by split <;> first | (simp) | (have := HN.out.1; omega)
                  have hl2 : (if L then T else ([] : List UInt8)).length ≤ 768 := by split <;> first | (have := HN.out.1; omega) | (simp)
                  have hl3 : (clearB (⟨W, H, T, L, C, I, K⟩ : ScrS)).length ≤ 8 := by unfold clearB; split <;> simp
                  have hcf : Fr No w5 (((((w6.alloc (.cells #[.int .u8 71, .int .u8 73, .int .u8 70, .int .u8 56, .int .u8 57, .int .u8 97] 5 (6, 7))).alloc (.cells #[.int .u8 (av : Int), .int .u8 0, .int .u8 0] 5)).alloc (.cells #[.int .u8 44, .int .u8 0, .int .u8 0, .int .u8 0, .int .u8 0] 5)).alloc (.cells #[.int .u8 (cv : Int)] 5)).alloc (.cells #[.int .u8 K] 5)) := HC6.out.2.2.then hfa
                  refine (concat_calls (some ⟨w6.heap.size + 1 + 1 + 1 + 1 + 1, 0, none⟩) 10 10 [.slice (some ⟨w6.heap.size, 0, none⟩) 6 6, .slice sA sn sc, .slice (some ⟨w6.heap.size + 1, 0, none⟩) 3 3, .slice gA gn gc, .slice cA cn cc, .slice (some ⟨w6.heap.size + 1 + 1, 0, none⟩) 5 5, .slice sA sn sc, .slice (some ⟨w6.heap.size + 1 + 1 + 1, 0, none⟩) 1 1, .slice lA ln lc, .slice (some ⟨w6.heap.size + 1 + 1 + 1 + 1, 0, none⟩) 1 1] (wrP (⟨W, H, T, L, C, I, K⟩ : ScrS)) rfl _ (by
                    have h := rdS_all (W := (((((w6.alloc (.cells #[.int .u8 71, .int .u8 73, .int .u8 70, .int .u8 56, .int .u8 57, .int .u8 97] 5 (6, 7))).alloc (.cells #[.int .u8 (av : Int), .int .u8 0, .int .u8 0] 5)).alloc (.cells #[.int .u8 44, .int .u8 0, .int .u8 0, .int .u8 0, .int .u8 0] 5)).alloc (.cells #[.int .u8 (cv : Int)] 5)).alloc (.cells #[.int .u8 K] 5))) (e := 22) [.slice (some ⟨w6.heap.size, 0, none⟩) 6 6, .slice sA sn sc, .slice (some ⟨w6.heap.size + 1, 0, none⟩) 3 3, .slice gA gn gc, .slice cA cn cc, .slice (some ⟨w6.heap.size + 1 + 1, 0, none⟩) 5 5, .slice sA sn sc, .slice (some ⟨w6.heap.size + 1 + 1 + 1, 0, none⟩) 1 1, .slice lA ln lc, .slice (some ⟨w6.heap.size + 1 + 1 + 1 + 1, 0, none⟩) 1 1] (wrP (⟨W, H, T, L, C, I, K⟩ : ScrS)) rfl (fun i h1 h2 => ?_)
                    · rw [show ((((((w6.alloc (.cells #[.int .u8 71, .int .u8 73, .int .u8 70, .int .u8 56, .int .u8 57, .int .u8 97] 5 (6, 7))).alloc (.cells #[.int .u8 (av : Int), .int .u8 0, .int .u8 0] 5)).alloc (.cells #[.int .u8 44, .int .u8 0, .int .u8 0, .int .u8 0, .int .u8 0] 5)).alloc (.cells #[.int .u8 (cv : Int)] 5)).alloc (.cells #[.int .u8 K] 5))).heap.size = w6.heap.size + 1 + 1 + 1 + 1 + 1 from by simp only [World.size_alloc]] at h
                      exact h
                    · match i, h1 with
                      | 0, _ => exact ⟨_, _, _, rfl, rfl, r0⟩
                      | 1, _ => exact ⟨_, _, _, rfl, SN.out.1, SN.out.2.1.fr0 hcf⟩
                      | 2, _ => exact ⟨_, _, _, rfl, rfl, r3⟩
                      | 3, _ => exact ⟨_, _, _, rfl, HGL4.out.1, HGL4.out.2.1.fr0 (HF45.out.then hcf)⟩
                      | 4, _ => exact ⟨_, _, _, rfl, HC6.out.1, HC6.out.2.1.fr0 hfa⟩
                      | 5, _ => exact ⟨_, _, _, rfl, rfl, r5⟩
                      | 6, _ => exact ⟨_, _, _, rfl, SN.out.1, SN.out.2.1.fr0 hcf⟩
                      | 7, _ => exact ⟨_, _, _, rfl, rfl, r7⟩
                      | 8, _ => exact ⟨_, _, _, rfl, HGL4.out.2.2.1, HGL4.out.2.2.2.fr0 (HF45.out.then hcf)⟩
                      | 9, _ => exact ⟨_, _, _, rfl, rfl, r9⟩) (by
                    simp only [wrP, List.flatten_cons, List.flatten_nil, List.length_append, List.length_cons, List.length_nil, sidesB, putLE_length, magic]
                    omega) (by decide)).mono ?_
                  rintro e w7 ⟨v, rfl, hnew⟩
                  have HN7 := hid hnew
                  clear hnew r0 r3 r5 r7 r9 hcv m6a
                  have HF6 := hid ((HF1.out.then (HF5.out.then hcf)).alloc (.cells [.slice (some ⟨w6.heap.size, 0, none⟩) 6 6, .slice sA sn sc, .slice (some ⟨w6.heap.size + 1, 0, none⟩) 3 3, .slice gA gn gc, .slice cA cn cc, .slice (some ⟨w6.heap.size + 1 + 1, 0, none⟩) 5 5, .slice sA sn sc, .slice (some ⟨w6.heap.size + 1 + 1 + 1, 0, none⟩) 1 1, .slice lA ln lc, .slice (some ⟨w6.heap.size + 1 + 1 + 1 + 1, 0, none⟩) 1 1].toArray 22))
                  clear hcf hfa
                  go_wp2_with fail
                  go_ret2
                  rw [HE.out.1, HE.out.2]
                  obtain ⟨⟨A, n, c, ob, q1, q2, q3, q4⟩, q5⟩ := HN7.out
                  exact ⟨_, rfl, ⟨A, n, c, ob, q1, q2, q3, fun k hk => Nat.le_trans HF6.out.size (q4 k hk)⟩, HF6.out.then q5⟩
    · have HE := hid (show wrE (⟨W, H, T, L, C, I, K⟩ : ScrS) = 12 ∧ wrB (⟨W, H, T, L, C, I, K⟩ : ScrS) = [] from by
        have h : wrE (⟨W, H, T, L, C, I, K⟩ : ScrS) = 12 := by unfold wrE; rw [if_neg (by rw [hsz]; simp), if_pos (by rw [HTN.out]; exact hp)]
        exact ⟨h, by unfold wrB; rw [h]; rfl⟩)
      have hcs : ((tn : Int) < 2) ∨ (¬ ((tn : Int) < 2) ∧ (tn : Int) > 256) ∨ (¬ ((tn : Int) < 2) ∧ ¬ ((tn : Int) > 256) ∧ tn ≤ 256 ∧ ((ocI (tn : Int)) != 1) = true) := by
        by_cases c1 : tn < 2
        · exact .inl (by omega)
        · by_cases c2 : 256 < tn
          · exact .inr (.inl ⟨by omega, by omega⟩)
          · refine .inr (.inr ⟨by omega, by omega, by omega, ?_⟩)
            have h := oc_p2 ⟨tn, by omega⟩ (by show 2 ≤ tn; omega)
            simp only at h
            rw [decide_eq_false hp] at h
            have h := of_decide_eq_false h
            rw [bne_iff_ne]; exact h
      clear hsz hp
      rcases hcs with b1 | ⟨b1, b2⟩ | ⟨b1, b2, b3, b4⟩
      · skip
        go_enter Tryd.func12, Tryd.ntmps12
        go_wp2_with fail
        rw [← HW1.out.1, ← HW1.out.2]
        refine (sized_any W H w1).mono ?_
        rw [HSZ.out]
        rintro e wx ⟨rfl, hwx⟩
        rw [hwx]
        clear hwx wx
        go_wp2_with fail
        go_ret2
        rw [HE.out.1, HE.out.2]
        exact ⟨_, rfl, NewR.nil, HF1.out⟩
      · skip
        go_enter Tryd.func12, Tryd.ntmps12
        go_wp2_with fail
        rw [← HW1.out.1, ← HW1.out.2]
        refine (sized_any W H w1).mono ?_
        rw [HSZ.out]
        rintro e wx ⟨rfl, hwx⟩
        rw [hwx]
        clear hwx wx
        go_wp2_with fail
        go_ret2
        rw [HE.out.1, HE.out.2]
        exact ⟨_, rfl, NewR.nil, HF1.out⟩
      · skip
        have hwu : IntKind.u64.wrap (tn : Int) = (tn : Int) := by rw [IntKind.wrap_u64]; omega
        go_enter Tryd.func12, Tryd.ntmps12
        go_wp2_with fail
        rw [← HW1.out.1, ← HW1.out.2]
        refine (sized_any W H w1).mono ?_
        rw [HSZ.out]
        rintro e wx ⟨rfl, hwx⟩
        rw [hwx]
        clear hwx wx
        go_wp2_with fail
        refine (ones_calls tn b3 w1).mono ?_
        rintro e wx ⟨rfl, hwx⟩
        rw [hwx]
        clear hwx wx
        go_wp2_with fail
        go_ret2
        rw [HE.out.1, HE.out.2]
        exact ⟨_, rfl, NewR.nil, HF1.out⟩
end Go.Proofs.YtamkfjbdcjkchaaDoor

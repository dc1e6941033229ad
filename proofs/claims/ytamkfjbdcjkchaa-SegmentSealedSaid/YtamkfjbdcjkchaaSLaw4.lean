/- SegmentReads' walk. -/
import Derived.Test.YtamkfjbdcjkchaaSLaw1
import Derived.Test.YtamkfjbdcjkchaaSegDr
namespace Go.Proofs.Ytamkfjbdcjkchaa
open Go.RowKit Go.WideShapes Go.Proofs.HK
set_option linter.unusedVariables false
set_option linter.unusedSimpArgs false
attribute [local go_sem] max2_int min2_int max_two min_two
/-- A message's cells, in a box. -/
def msgC (M : MsgS) (rA : Option Addr) (rn rc : Nat) (dA : Option Addr) (dn dc : Nat) : Array Value := #[.int .i64 M.K, .int .u32 (M.U : Int), .int .i64 M.F, .int .u32 (M.S : Int), .int .i64 M.Z, .int .i64 M.P, .int .i64 M.Y, .int .i64 M.X, .int .i64 M.Q, .int .i64 M.C, .slice rA rn rc, .slice dA dn dc]
theorem box_m (w : World) (M : MsgS) (rA : Option Addr) (rn rc : Nat) (dA : Option Addr) (dn dc : Nat) : ∃ (g : Nat) (X : World), X = w.alloc (.cells (msgC M rA rn rc dA dn dc) 26) ∧ g = w.heap.size ∧ Fr No w X ∧ X.heap[g]? = some (.cells (msgC M rA rn rc dA dn dc) 26 (0, 0)) :=
  ⟨_, _, rfl, rfl, (Fr.refl No w).alloc _, heap_new _ _⟩
theorem heapk {W W' : World} {g : Nat} {cs : Array Value} {t : TypeId} (hf : Fr No W W') (h : W.heap[g]? = some (.cells cs t (0, 0))) : W'.heap[g]? = some (.cells cs t (0, 0)) := (hf.block g (Array.getElem?_eq_some_iff.1 h).1 (fun h => h)).trans h
/-- Equal messages, wherever they lie. -/
theorem sameM {M : MsgS} {b b' : Nat} {W : World} {rA dA rA' dA' : Option Addr} {rn rc dn dc rn' rc' dn' dc' : Nat} (h : RM b W M rA rn rc dA dn dc) (h' : RM b' W M rA' rn' rc' dA' dn' dc') (hl : M.R.length ≤ 140737488355328) :
    Calls Try.prog 12 #[.agg (msgC M rA rn rc dA dn dc), .agg (msgC M rA' rn' rc' dA' dn' dc')] W fun e w' => e = .returned (.bool true) ∧ Fr No W w' := by
  obtain rfl : rn' = rn := by rw [← h.rl, ← h'.rl]
  obtain rfl : dn' = dn := by rw [← h.dl, ← h'.dl]
  exact refSameEq_calls M.K M.U M.F M.S M.Z M.P M.Y M.X M.Q M.C M.R M.D rA dA rA' dA' rn' rc dn' dc rc' dc' W h.rl h.dl h.rd h.dd h'.rd h'.dd (by rw [← h.rl]; exact hl)
theorem srdM_len (bs : List UInt8) (h : bs.length ≤ 2097152) : (srdM bs).R.length ≤ 140737488355328 ∧ (srdM bs).D.length ≤ 140737488355328 := by
  unfold srdM
  split
  · have := mO_len (bs.take (bs.length - 4)) (by rw [List.length_take]; omega)
    omega
  · exact ⟨Nat.zero_le _, Nat.zero_le _⟩
set_option maxRecDepth 100000 in
set_option maxHeartbeats 3200000 in
theorem segmentReads_walk (A : Option Addr) (xs : List UInt8) (n c : Nat) (w : World) (s0 : SlIn B 1 w A xs n c) :
    Calls Try.prog 4 #[.slice A n c] w fun e w' => e = .returned (.bool true) ∧ Fr No w w' := by
  have HN := hid (And.intro s0.len (And.intro s0.rd s0.cap))
  clear s0
  by_cases hbig : (3000 : Int) < (n : Int)
  · go_enter Try.func4, Try.ntmps4
    go_wp2_with fail
    refine (fixed22_calls _).mono ?_
    rintro e w3 ⟨rfl, hf3⟩
    go_wp2_with fail
    go_ret
    exact ⟨rfl, hf3⟩
  · have hnl : n ≤ 3000 := by omega
    obtain ⟨E, hE⟩ : ∃ E, E = srdE xs := ⟨_, rfl⟩
    obtain ⟨M, hM⟩ : ∃ M, M = srdM xs := ⟨_, rfl⟩
    have HE := hid (And.intro hE hM)
    have HLM := hid (show M.R.length ≤ 140737488355328 from by rw [hM]; exact (srdM_len xs (by rw [HN.out.1]; omega)).1)
    have hself : (E == E) = true := by simp
    clear hE hM
    go_enter Try.func4, Try.ntmps4
    go_wp2_with fail
    refine (fixed22_calls _).mono ?_
    rintro e w3 ⟨rfl, hf3⟩
    have H3 := hid hf3
    clear hf3
    go_wp2_with (at_builtin; refine wpList_app slU8 rfl (.tmp 14) (.tmp 15) rfl rfl (Row.new w3 1 0 [] _ rfl (by omega)) rfl (by rw [List.length_map, HN.out.1]; omega) ((Rd.cells.1 HN.out.2.1).fr (S := No) (H3.out.alloc _) (fun _ _ h => h)) (oneB xs) (by omega) (by omega) ?_; intro A4 c4 w4 ob4 hv4 hf4 hob4; simp only [Nat.zero_add, List.nil_append] at hv4 ⊢)
    have hk4 := some_le (m := w3.heap.size) (hob4.imp id (fun ⟨k, a, b⟩ => ⟨k, a, by simp at b; omega⟩)) (Nat.le_refl _)
    have hF4 : Fr No w3 w4 := ((Fr.refl No w3).alloc _).fresh hf4 (fun k e => by injection e with e; omega)
    have HR4 := hid (And.intro hv4 (And.intro hk4 (And.intro hF4 hv4.rd)))
    have hlt4 : ∀ k, ob4 = some k → k < w4.heap.size := fun k hk => hv4.lt hk
    have HLT := hid hlt4
    clear hv4 hf4 hob4 hk4 hF4 hlt4
    refine (sread_calls A4 xs n c4 w4 HN.out.1 HR4.out.2.2.2.1 HR4.out.2.2.2.2.1 (by omega)).mono ?_
    rw [← HE.out.1, ← HE.out.2]
    rintro e w5 ⟨rA5, rn5, rc5, dA5, dn5, dc5, rfl, hrm5, hfr5⟩
    rw [show mC M (.slice rA5 rn5 rc5) (.slice dA5 dn5 dc5) = msgC M rA5 rn5 rc5 dA5 dn5 dc5 from rfl]
    obtain ⟨g5, X5, hX5, hg5, hx5, hb5⟩ := box_m w5 M rA5 rn5 rc5 dA5 dn5 dc5
    have HX5 := hid (And.intro hX5 hg5)
    have HB5 := hid (And.intro hx5 hb5)
    have HRM5 := hid (And.intro hrm5 hfr5)
    have HF5 := hid (hfr5.then hx5)
    clear hX5 hg5 hx5 hb5 hrm5 hfr5
    unfold msgC
    go_upto_region 7 with fail
    rw [show (#[.int .i64 M.K, .int .u32 (M.U : Int), .int .i64 M.F, .int .u32 (M.S : Int), .int .i64 M.Z, .int .i64 M.P, .int .i64 M.Y, .int .i64 M.X, .int .i64 M.Q, .int .i64 M.C, .slice rA5 rn5 rc5, .slice dA5 dn5 dc5] : Array Value) = msgC M rA5 rn5 rc5 dA5 dn5 dc5 from rfl]
    rw [← HX5.out.1, ← HX5.out.2]
    go_wp2_with fail
    refine (refRead_calls A xs n c X5 HN.out.1 (HN.out.2.1.fr0 ((H3.out.then HR4.out.2.2.1).then HF5.out)) HN.out.2.2 (by omega)).mono ?_
    rw [← HE.out.1, ← HE.out.2]
    rintro e w6 ⟨rA6, rn6, rc6, dA6, dn6, dc6, rfl, hrm6, hfr6⟩
    rw [show mC M (.slice rA6 rn6 rc6) (.slice dA6 dn6 dc6) = msgC M rA6 rn6 rc6 dA6 dn6 dc6 from rfl]
    obtain ⟨g6, X6, hX6, hg6, hx6, hb6⟩ := box_m w6 M rA6 rn6 rc6 dA6 dn6 dc6
    have HX6 := hid (And.intro hX6 hg6)
    have HB6 := hid (And.intro hx6 hb6)
    have HRM6 := hid (And.intro hrm6 hfr6)
    have HF6 := hid (hfr6.then hx6)
    clear hX6 hg6 hx6 hb6 hrm6 hfr6
    unfold msgC
    go_upto_region 8 with fail
    rw [show (#[.int .i64 M.K, .int .u32 (M.U : Int), .int .i64 M.F, .int .u32 (M.S : Int), .int .i64 M.Z, .int .i64 M.P, .int .i64 M.Y, .int .i64 M.X, .int .i64 M.Q, .int .i64 M.C, .slice rA6 rn6 rc6, .slice dA6 dn6 dc6] : Array Value) = msgC M rA6 rn6 rc6 dA6 dn6 dc6 from rfl]
    rw [← HX6.out.1, ← HX6.out.2]
    go_wp2_with fail
    have H46 := hid (HF5.out.then HF6.out)
    refine (same_calls A4 A xs xs n n c4 c HN.out.1 HN.out.1 X6 (HR4.out.2.2.2.1.fr0 H46.out) (HN.out.2.1.fr0 ((H3.out.then HR4.out.2.2.1).then H46.out))).mono ?_
    rw [decide_eq_true (show xs = xs from rfl)]
    rintro e w7 ⟨rfl, hw7⟩
    rw [hw7]
    clear hw7 w7
    have hrow6 : Row X6 1 (.slice A4 n c4) ob4 n (xs.map B) := HR4.out.1.fr H46.out (fun _ _ h => h)
    have HROW := hid hrow6
    clear hrow6
    go_wp2_with fail
    go_loopw [8, 33] (fun _ i wr => ∃ (k : Nat) (ys : List UInt8), k ≤ n ∧ i = .int .i64 k ∧ ys.length = n ∧ Row wr 1 (.slice A4 n c4) ob4 n (ys.map B) ∧ Fr (Opt ob4) X6 wr) (fun _ i _ => n - (intOf i).toNat)
    case atStart => exact ⟨0, xs, by omega, rfl, HN.out.1, HROW.out, Fr.refl _ _⟩
    case round =>
      obtain ⟨k, ys, hk, rfl, hyl, h1, h2⟩ := hrel
      have HREL := hid (And.intro h1 h2)
      clear h1 h2
      by_cases hlt : k < n
      · obtain ⟨o, go, old, e1, e2, hc, hf, hr⟩ := HREL.out.1.set k hlt (.int .u8 ((((rdB ys k).toNat : Int) + 1) % 256))
        subst e1
        obtain ⟨ad, e3, hc2⟩ := HREL.out.1.rd.1.atN k (by omega)
        injection e3 with e3
        subst e3
        simp only [add_lit] at hc2
        clear hc
        have hbz := B_lt (rdB ys k)
        have HS := hid hr
        have HO := hid e2
        have HY := hid hyl
        clear hr e2 hyl
        go_wp2
        go_roundw
        case rel =>
          refine ⟨k + 1, ys.set k (HK.byteOf (((rdB ys k).toNat : Int) + 1)), by omega, by go_num, by rw [List.length_set]; exact HY.out, ?_, ?_⟩
          · rw [← map_set_B]; exact HS.out
          · exact HREL.out.2.trans (Fr.set1 _ _ _ _) (fun q h1 (e : q = o) => by rw [e]; exact HO.out.symm)
        case measure => simp [intOf] <;> omega
      · have hkn : n ≤ k := by omega
        have HFW := hid HREL.out.2
        have hob4' : ∀ q, ob4 = some q → q < w4.heap.size := HLT.out
        have hs5 : w4.heap.size ≤ X5.heap.size := HF5.out.size
        have hs4 : w4.heap.size ≤ w5.heap.size := HRM5.out.2.size
        have hs6 : X5.heap.size ≤ w6.heap.size := HRM6.out.2.size
        have k5 : wr.heap[g5]? = some (.cells (msgC M rA5 rn5 rc5 dA5 dn5 dc5) 26 (0, 0)) := (HFW.out.block g5 (Array.getElem?_eq_some_iff.1 (heapk HF6.out HB5.out.2)).1 (fun e => by have := hob4' g5 e.symm; have := HX5.out.2; omega)).trans (heapk HF6.out HB5.out.2)
        have k6 : wr.heap[g6]? = some (.cells (msgC M rA6 rn6 rc6 dA6 dn6 dc6) 26 (0, 0)) := (HFW.out.block g6 (Array.getElem?_eq_some_iff.1 HB6.out.2).1 (fun e => by have := hob4' g6 e.symm; have := HX6.out.2; omega)).trans HB6.out.2
        have r5 : RM w4.heap.size wr M rA5 rn5 rc5 dA5 dn5 dc5 := by
          have h := HRM5.out.1.fr0 (HB5.out.1.then HF6.out)
          exact ⟨h.rl, h.dl, h.rd.fr HFW.out (fun ad e e' => by have := hob4' _ e'.symm; have := h.rf ad e; omega), h.dd.fr HFW.out (fun ad e e' => by have := hob4' _ e'.symm; have := h.df ad e; omega), h.rcap, h.dcap, h.rf, h.df⟩
        have r6 : RM X5.heap.size wr M rA6 rn6 rc6 dA6 dn6 dc6 := by
          have h := HRM6.out.1.fr0 HB6.out.1
          exact ⟨h.rl, h.dl, h.rd.fr HFW.out (fun ad e e' => by have := hob4' _ e'.symm; have := h.rf ad e; omega), h.dd.fr HFW.out (fun ad e e' => by have := hob4' _ e'.symm; have := h.df ad e; omega), h.rcap, h.dcap, h.rf, h.df⟩
        have HR5 := hid r5
        have HR6 := hid r6
        have HWR := hid (show Fr No w wr from ((H3.out.then HR4.out.2.2.1).then H46.out).trans HFW.out (fun q hq e => by have := HR4.out.2.1 q e.symm; have := H3.out.size; omega))
        obtain ⟨m0, m1, m2, m3, m4, m5, m6, m7, m8, m9, m10, m11⟩ := blk12 k5
        obtain ⟨x0, x1, x2, x3, x4, x5, x6, x7, x8, x9, x10, x11⟩ := blk12 k6
        clear k5 k6 r5 r6 hob4' hyl
        go_wp2_with fail
        refine (sameM HR5.out HR6.out HLM.out).mono ?_
        rintro e w9 ⟨rfl, hf9⟩
        have H9 := hid hf9
        clear hf9
        go_wp2_with fail
        go_ret
        exact ⟨rfl, HWR.out.then H9.out⟩
end Go.Proofs.Ytamkfjbdcjkchaa

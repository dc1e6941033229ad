/- The document's Write of messages. -/
import Derived.Test.YtamkfjbdcjkchaaSegMay
import Derived.Test.YtamkfjbdcjkchaaTokW2
import Derived.Test.YtamkfjbdcjkchaaSegP3
namespace Go.Proofs.Ytamkfjbdcjkchaa
open Go.RowKit Go.Proofs.HK
set_option linter.unusedVariables false
set_option linter.unusedSimpArgs false
attribute [local go_sem] max2_int min2_int max_two min_two
/-- A new row of bytes, which grows: nothing that stood in w1 has turned. -/
def OutP (w1 W : World) (A : Option Addr) (n c : Nat) (o : List UInt8) : Prop := ∃ ob, Row W 1 (.slice A n c) ob n (o.map B) ∧ (∀ k, ob = some k → w1.heap.size ≤ k) ∧ Fr No w1 W
section
variable {w1 W W' : World} {A : Option Addr} {n c : Nat} {o : List UInt8}
theorem OutP.fr (h : OutP w1 W A n c o) : Fr No w1 W := h.choose_spec.2.2
theorem OutP.keep (h : OutP w1 W A n c o) (hf : Fr No W W') : OutP w1 W' A n c o := by
  obtain ⟨ob, h1, h2, h3⟩ := h
  exact ⟨ob, h1.fr hf (fun _ _ h => h), h2, h3.then hf⟩
theorem OutP.drew (h : OutP w1 W A n c o) : OutP w1 W.drew A n c o := h.keep ((Fr.refl No W).drew)
theorem OutP.len (h : OutP w1 W A n c o) : o.length = n := by
  obtain ⟨ob, h1, h2, h3⟩ := h
  exact h1.rd.2.2.2
theorem OutP.rd (h : OutP w1 W A n c o) : Rd B W A o := by
  obtain ⟨ob, h1, h2, h3⟩ := h
  exact h1.rd.1
theorem putBE1 (v : Int) : putBE 1 v = [HK.byteOf v] := by
  apply List.ext_getElem?
  intro i
  cases i with
  | zero => rw [putBE_get 1 0 v (by omega)]; simp
  | succ i => rw [List.getElem?_eq_none (by rw [putBE_length]; omega)]; simp
theorem blk2c {W : World} {g : Nat} {v0 v1 : Value} {t : TypeId} (hb : W.heap[g]? = some (.cells #[v0, v1] t (0, 0))) : W.cell? ⟨g, 0, none⟩ = some v0 ∧ W.cell? ⟨g, 1, none⟩ = some v1 := by
  simp [World.cell?, hb]
theorem cells_byte (v : Int) : [Value.int .u8 (IntKind.u8.wrap v)] = (putBE 1 v).map B := by rw [putBE1, List.map_cons, B_byteOf, ← wrapu8]; rfl
theorem out_byte (v : Int) (hf : Fr No w1 W) : OutP w1 (W.alloc (.cells #[.int .u8 (IntKind.u8.wrap v)] 5)) (some ⟨W.heap.size, 0, none⟩) 1 1 (putBE 1 v) := by
  refine ⟨some W.heap.size, ?_, fun k hk => ?_, hf.alloc _⟩
  · have := Row.new W 1 1 [.int .u8 (IntKind.u8.wrap v)] 5 rfl (by omega)
    exact (congrArg (Row _ 1 _ _ 1) (cells_byte v)).mp this
  · injection hk with hk
    have := hf.size
    omega
theorem rd_byte (v : Int) (W : World) : Rd B (W.alloc (.cells #[.int .u8 (IntKind.u8.wrap v)] 5)) (some ⟨W.heap.size, 0, none⟩) (putBE 1 v) := by
  have := Row.new W 1 1 [.int .u8 (IntKind.u8.wrap v)] 5 rfl (by omega)
  exact ((congrArg (Row _ 1 _ _ 1) (cells_byte v)).mp this).rd.1
theorem step_out {a : Act} {K : Act → World → Prop} {Q : Exit → Act → World → Prop} {E : Prop} {ops : Array Oper} {o1 : Oper} (d : Nat) (hd1 : o1.dst = some d) (hgd : o1.guard = none) (s x : Operand)
    (ho : o1.op = .call { callee := .builtin .append, args := #[s, x], argTypes := #[24, 24] }) (hs : a.eval s = .slice A n c) (hv : OutP w1 W A n c o)
    {X : Option Addr} {m cx : Nat} {ys : List UInt8} (hx : a.eval x = .slice X m cx) (hl : ys.length = m) (hc : Rd B W X ys) (hb : n + m ≤ 1000000)
    (h : ∀ A' c' w', OutP w1 w' A' (n + m) c' (o ++ ys) → K (a.put (some d) (.slice A' (n + m) c')) w') :
    if Region.wanted o1 (yielded ops a.tmps) = true then Oper.wp Try.prog o1 a W K Q else E := by
  obtain ⟨ob, h1, h2, h3⟩ := hv
  refine step_app slU8 hgd s x ho hs h1 hx (by rw [List.length_map, hl]; omega) (Rd.cells.1 hc) (oneB _) (by omega) (by omega) ?_
  rw [hd1]
  intro A' c' w' ob' k1 k2 k3
  refine h A' c' w' ⟨ob', by rw [List.map_append]; exact k1, fun k hk => ?_, h3.fresh k2 h2⟩
  rcases k3 with e | ⟨q, e, hq⟩
  · exact h2 k (by rw [← e]; exact hk)
  · rw [e] at hk
    injection hk with hk
    have := h3.size
    omega
end
/-- .. and the block p is another one. -/
def OutQ (p : Nat) (w1 W : World) (A : Option Addr) (n c : Nat) (o : List UInt8) : Prop := ∃ ob, Row W 1 (.slice A n c) ob n (o.map B) ∧ (∀ k, ob = some k → w1.heap.size ≤ k) ∧ Fr No w1 W ∧ (∀ k, ob = some k → k ≠ p) ∧ p < W.heap.size
section
variable {w1 W W' : World} {A : Option Addr} {n c p : Nat} {o : List UInt8}
theorem OutQ.toP (h : OutQ p w1 W A n c o) : OutP w1 W A n c o := by
  obtain ⟨ob, h1, h2, h3, _⟩ := h
  exact ⟨ob, h1, h2, h3⟩
theorem OutQ.lt (h : OutQ p w1 W A n c o) : p < W.heap.size := h.choose_spec.2.2.2.2
theorem OutQ.keep (h : OutQ p w1 W A n c o) (hf : Fr No W W') : OutQ p w1 W' A n c o := by
  obtain ⟨ob, h1, h2, h3, h4, h5⟩ := h
  exact ⟨ob, h1.fr hf (fun _ _ h => h), h2, h3.then hf, h4, Nat.lt_of_lt_of_le h5 hf.size⟩
theorem OutP.toQ (h : OutP w1 W A n c o) (x : Obj) : OutQ W.heap.size w1 (W.alloc x) A n c o := by
  obtain ⟨ob, h1, h2, h3⟩ := h
  refine ⟨ob, h1.fr ((Fr.refl No W).alloc x) (fun _ _ h => h), h2, h3.alloc x, fun k hk e => ?_, by rw [World.size_alloc]; omega⟩
  have := h1.lt hk
  omega
theorem step_outq {a : Act} {K : Act → World → Prop} {Q : Exit → Act → World → Prop} {E : Prop} {ops : Array Oper} {o1 : Oper} (d : Nat) (hd1 : o1.dst = some d) (hgd : o1.guard = none) (s x : Operand)
    (ho : o1.op = .call { callee := .builtin .append, args := #[s, x], argTypes := #[24, 24] }) (hs : a.eval s = .slice A n c) (hv : OutQ p w1 W A n c o)
    {X : Option Addr} {m cx : Nat} {ys : List UInt8} (hx : a.eval x = .slice X m cx) (hl : ys.length = m) (hc : Rd B W X ys) (hb : n + m ≤ 1000000)
    (h : ∀ A' c' w', OutQ p w1 w' A' (n + m) c' (o ++ ys) → w'.heap[p]? = W.heap[p]? → K (a.put (some d) (.slice A' (n + m) c')) w') :
    if Region.wanted o1 (yielded ops a.tmps) = true then Oper.wp Try.prog o1 a W K Q else E := by
  obtain ⟨ob, h1, h2, h3, h4, h5⟩ := hv
  refine step_app slU8 hgd s x ho hs h1 hx (by rw [List.length_map, hl]; omega) (Rd.cells.1 hc) (oneB _) (by omega) (by omega) ?_
  rw [hd1]
  intro A' c' w' ob' k1 k2 k3
  refine h A' c' w' ⟨ob', by rw [List.map_append]; exact k1, fun k hk => ?_, h3.fresh k2 h2, fun k hk e => ?_, Nat.lt_of_lt_of_le h5 k2.size⟩ (k2.block p h5 (fun e => h4 p e.symm rfl))
  · rcases k3 with e | ⟨q, e, hq⟩
    · exact h2 k (by rw [← e]; exact hk)
    · rw [e] at hk
      injection hk with hk
      have := h3.size
      omega
  · rcases k3 with e' | ⟨q, e', hq⟩
    · exact h4 k (by rw [← e']; exact hk) e
    · rw [e'] at hk
      injection hk with hk
      omega
end
set_option maxRecDepth 100000 in
theorem four_calls (v : Int) (w : World) (hv : -9223372036854775808 ≤ v ∧ v ≤ 9223372036854775807) :
    Calls Try.prog 25 #[.int .i64 v] w fun e w' => ∃ x, e = .returned x ∧ New B w w' x (putBE 4 v) := by
  go_enter Try.func25, Try.ntmps25
  go_wp2_with fail
  refine (refPutBig_calls 4 v _ hv).mono ?_
  rw [cut8_4]
  rintro e w2 ⟨x, rfl, hn⟩
  go_wp2_with fail
  go_ret
  exact ⟨_, rfl, hn⟩
theorem may_facts {m : MsgS} (h : mayB m = true) : (1 ≤ m.K ∧ m.K ≤ 5) ∧ (0 ≤ m.F ∧ m.F ≤ 15) ∧ (0 ≤ m.P ∧ m.P ≤ 1048576) ∧ (0 ≤ m.X ∧ m.X ≤ 2147483647) ∧ (0 ≤ m.Q ∧ m.Q ≤ 8) ∧ (0 ≤ m.C ∧ m.C ≤ 255) ∧ m.R.length ≤ 4 ∧ m.D.length ≤ 1024 ∧ (m.K = 2 → (1 ≤ m.Z ∧ m.Z ≤ 1048576) ∧ (1 ≤ m.Y ∧ m.Y ≤ 1024)) ∧ (∀ r ∈ m.R, 0 ≤ r.1 ∧ r.1 < 4294967296 ∧ 0 ≤ r.2 ∧ r.2 < 4294967296) := by
  unfold mayB rangedB at h
  simp only [Bool.and_eq_true] at h
  obtain ⟨⟨hk, _⟩, ⟨h0, h1⟩, h2⟩ := h
  unfold kindB at hk
  unfold base0 at h0
  have hk := of_decide_eq_true hk
  have h0 := of_decide_eq_true h0
  refine ⟨hk, by omega, by omega, by omega, by omega, by omega, by omega, by omega, fun k2 => ?_, chain_bd m.R m.X (by omega) h2⟩
  unfold base1 at h1
  rw [if_pos k2] at h1
  have h1 := of_decide_eq_true h1
  omega
set_option maxRecDepth 100000 in
set_option maxHeartbeats 12800000 in
theorem refWrite_calls (K : Int) (U : Nat) (F : Int) (S : Nat) (Z P Y X Q C : Int) (R : List (Int × Int)) (D : List UInt8) (rA dA : Option Addr) (rn rc dn dc : Nat) (w : World) (hU : U < 4294967296) (hS : S < 4294967296) (hR : R.length = rn) (hD : D.length = dn) (hr : Cells w rA (rngC R)) (hd : Rd B w dA D) (hl : rn ≤ 140737488355328) (hl2 : dn ≤ 140737488355328) :
    Calls Try.prog 10 #[.agg #[.int .i64 K, .int .u32 (U : Int), .int .i64 F, .int .u32 (S : Int), .int .i64 Z, .int .i64 P, .int .i64 Y, .int .i64 X, .int .i64 Q, .int .i64 C, .slice rA rn rc, .slice dA dn dc]] w fun e w' => ∃ v, e = .returned (.tuple #[v, .int .i64 (swrE (⟨K, U, F, S, Z, P, Y, X, Q, C, R, D⟩ : MsgS))]) ∧ New B w w' v (swrB (⟨K, U, F, S, Z, P, Y, X, Q, C, R, D⟩ : MsgS)) := by
  have hM : ∀ W, Fr No w W → Calls Try.prog 24 #[.agg #[.int .i64 K, .int .u32 (U : Int), .int .i64 F, .int .u32 (S : Int), .int .i64 Z, .int .i64 P, .int .i64 Y, .int .i64 X, .int .i64 Q, .int .i64 C, .slice rA rn rc, .slice dA dn dc]] W fun e w' => e = .returned (.bool (mayB (⟨K, U, F, S, Z, P, Y, X, Q, C, R, D⟩ : MsgS))) ∧ Fr No W w' := fun W hf => refMay_calls K U F S Z P Y X Q C R D rA dA rn rc dn dc W hR hD (hr.fr hf (fun _ _ h => h)) (hd.fr0 hf) hl hl2
  have hsw := swrE_eq (⟨K, U, F, S, Z, P, Y, X, Q, C, R, D⟩ : MsgS) hU hS
  have HN := hid (And.intro hR (And.intro hD (And.intro hr hd)))
  cases hE : mayB (⟨K, U, F, S, Z, P, Y, X, Q, C, R, D⟩ : MsgS) with
  | false =>
    have HE := hid (show swrE (⟨K, U, F, S, Z, P, Y, X, Q, C, R, D⟩ : MsgS) = 1 ∧ swrB (⟨K, U, F, S, Z, P, Y, X, Q, C, R, D⟩ : MsgS) = [] from by
      have h1 : swrE (⟨K, U, F, S, Z, P, Y, X, Q, C, R, D⟩ : MsgS) = 1 := by rw [hsw, hE]; rfl
      exact ⟨h1, by unfold swrB; rw [h1]; rfl⟩)
    rw [hE] at hM
    have HM := hid hM
    clear hM hE hsw hR hD hr hd hU hS
    go_enter Try.func10, Try.ntmps10
    go_wp2_with fail
    refine (HM.out _ ((Fr.refl No w).alloc _)).mono ?_
    rintro e w1 ⟨rfl, hf1⟩
    go_wp2_with fail
    go_ret2
    rw [HE.out.1, HE.out.2]
    exact ⟨_, rfl, NewR.nil, ((Fr.refl No w).alloc _).then hf1⟩
  | true =>
    have HE := hid (show swrE (⟨K, U, F, S, Z, P, Y, X, Q, C, R, D⟩ : MsgS) = 0 ∧ swrB (⟨K, U, F, S, Z, P, Y, X, Q, C, R, D⟩ : MsgS) = sealB (segO (⟨K, U, F, S, Z, P, Y, X, Q, C, R, D⟩ : MsgS)) from by
      have h1 : swrE (⟨K, U, F, S, Z, P, Y, X, Q, C, R, D⟩ : MsgS) = 0 := by rw [hsw, hE]; rfl
      exact ⟨h1, by unfold swrB; rw [h1]; rfl⟩)
    obtain ⟨mK, mF, mP, mX, mQ, mC, mR, mD, mZ, mB⟩ := may_facts hE
    simp only at mK mF mP mX mQ mC mR mD mZ mB
    have HBD := hid mB
    rw [hE] at hM
    have HM := hid hM
    have hwS : IntKind.i64.wrap (S : Int) = (S : Int) := w64 _ (by omega) (by omega)
    have hwU : IntKind.i64.wrap (U : Int) = (U : Int) := w64 _ (by omega) (by omega)
    rw [hR] at mR
    rw [hD] at mD
    clear hM hE hsw hR hD hr hd mB
    obtain ⟨g, hgg⟩ : ∃ g, g = w.heap.size := ⟨_, rfl⟩
    have HG := hid hgg
    clear hgg
    go_enter Try.func10, Try.ntmps10
    go_wp2_with fail
    refine (HM.out _ ((Fr.refl No w).alloc _)).mono ?_
    rintro e w1 ⟨rfl, hf1⟩
    have hb1 : w1.heap[g]? = some (.cells #[.int .i64 K, .int .u32 (U : Int), .int .i64 F, .int .u32 (S : Int), .int .i64 Z, .int .i64 P, .int .i64 Y, .int .i64 X, .int .i64 Q, .int .i64 C, .slice rA rn rc, .slice dA dn dc] 26 (0, 0)) := (hf1.block g (by rw [HG.out, World.size_alloc]; omega) (fun h => h)).trans (by rw [HG.out]; exact heap_new _ _)
    have hbk : ∀ W, Fr No w1 W → W.heap[g]? = some (.cells #[.int .i64 K, .int .u32 (U : Int), .int .i64 F, .int .u32 (S : Int), .int .i64 Z, .int .i64 P, .int .i64 Y, .int .i64 X, .int .i64 Q, .int .i64 C, .slice rA rn rc, .slice dA dn dc] 26 (0, 0)) := fun W hf => (hf.block g (Array.getElem?_eq_some_iff.1 hb1).1 (fun h => h)).trans hb1
    have HB := hid hbk
    have HW1 := hid (((Fr.refl No w).alloc _).then hf1)
    clear hbk hb1 hf1 HM
    rw [← HG.out]
    go_upto_region 3 with fail
    go_cut [4] (fun s4 wx => ∃ A c, s4 = .slice A 5 c ∧ OutP w1 wx A 5 c (putBE 1 K ++ putBE 4 (U : Int)))
    case first =>
      refine wp_region_held_drew (S := (fun W => W.heap[g]? = some (.cells #[.int .i64 K, .int .u32 (U : Int), .int .i64 F, .int .u32 (S : Int), .int .i64 Z, .int .i64 P, .int .i64 Y, .int .i64 X, .int .i64 Q, .int .i64 C, .slice rA rn rc, .slice dA dn dc] 26 (0, 0)))) (by kernel_rfl) (HB.out _ ((Fr.refl No w1).drew)) (fun hHeld => ?_)
      refine takeD (i := 0) (d := some 10) (v := ?_) rfl rfl (by kernel_rfl) (by kernel_rfl) (by kernel_rfl) (fun _ _ _ h => h) (by rfl) ?_ (by assumption) ?_
      rotate_left
      · intro w' hSw
        (try dsimp only at hSw)
        obtain ⟨c0, c1, c2, c3, c4, c5, c6, c7, c8, c9, c10, c11⟩ := blk12 hSw
        clear hSw
        go_simp
        try with_reducible rfl
      try simp only [Act.put, List.setIfInBounds_toArray, List.set_cons_zero, List.set_cons_succ]
      refine takeD (i := 1) (d := some 11) (v := ?_) rfl rfl (by kernel_rfl) (by kernel_rfl) (by kernel_rfl) (fun _ _ _ h => h) (by rfl) ?_ (by assumption) ?_
      rotate_left
      · intro w' hSw
        (try dsimp only at hSw)
        obtain ⟨c0, c1, c2, c3, c4, c5, c6, c7, c8, c9, c10, c11⟩ := blk12 hSw
        clear hSw
        go_simp
        try with_reducible rfl
      try simp only [Act.put, List.setIfInBounds_toArray, List.set_cons_zero, List.set_cons_succ]
      refine takeD (i := 2) (d := some 12) (v := ?_) rfl rfl (by kernel_rfl) (by kernel_rfl) (by kernel_rfl) (fun _ _ _ h => h) (by rfl) ?_ (by assumption) ?_
      rotate_left
      · intro w' hSw
        (try dsimp only at hSw)
        obtain ⟨c0, c1, c2, c3, c4, c5, c6, c7, c8, c9, c10, c11⟩ := blk12 hSw
        clear hSw
        go_simp
        try with_reducible rfl
      try simp only [Act.put, List.setIfInBounds_toArray, List.set_cons_zero, List.set_cons_succ]
      refine takeD (i := 4) (d := some 14) (v := ?_) rfl rfl (by kernel_rfl) (by kernel_rfl) (by kernel_rfl) (fun _ _ _ h => h) (by rfl) ?_ (by assumption) ?_
      rotate_left
      · intro w' hSw
        (try dsimp only at hSw)
        obtain ⟨c0, c1, c2, c3, c4, c5, c6, c7, c8, c9, c10, c11⟩ := blk12 hSw
        clear hSw
        go_simp
        try with_reducible rfl
      try simp only [Act.put, List.setIfInBounds_toArray, List.set_cons_zero, List.set_cons_succ]
      refine takeD (i := 5) (d := some 15) (v := ?_) rfl rfl (by kernel_rfl) (by kernel_rfl) (by kernel_rfl) (fun _ _ _ h => h) (by rfl) ?_ (by assumption) ?_
      rotate_left
      · intro w' hSw
        (try dsimp only at hSw)
        obtain ⟨c0, c1, c2, c3, c4, c5, c6, c7, c8, c9, c10, c11⟩ := blk12 hSw
        clear hSw
        go_simp
        try with_reducible rfl
      try simp only [Act.put, List.setIfInBounds_toArray, List.set_cons_zero, List.set_cons_succ]
      refine takeD (i := 6) (d := some 16) (v := ?_) rfl rfl (by kernel_rfl) (by kernel_rfl) (by kernel_rfl) (fun _ _ _ h => h) (by rfl) ?_ (by assumption) ?_
      rotate_left
      · intro w' hSw
        (try dsimp only at hSw)
        obtain ⟨c0, c1, c2, c3, c4, c5, c6, c7, c8, c9, c10, c11⟩ := blk12 hSw
        clear hSw
        go_simp
        try with_reducible rfl
      try simp only [Act.put, List.setIfInBounds_toArray, List.set_cons_zero, List.set_cons_succ]
      refine wpAnyH_ready (rs := [3, 7]) (by kernel_rfl) (by simp) (AllReadyH.cons rfl (fun KK hK => ?_) (AllReadyH.cons rfl (fun KK hK => ?_) AllReadyH.nil))
      · -- the byte first
        go_simp
        have HO129 := hid (out_byte (K) ((Fr.refl No w1).drew))
        refine hK.out _ _ (HB.out _ HO129.out.fr) (fun hHeld => ?_)
        clear hK KK
        try simp only [Act.put, List.setIfInBounds_toArray, List.set_cons_zero, List.set_cons_succ]
        refine oneD (i := 7) (by kernel_rfl) rfl (fun KK hK => ?_)
        go_simp
        go_at_call 25
        refine (four_calls (U : Int) _ (by omega)).mono ?_
        rintro e x130 ⟨v130, rfl, hnew⟩
        obtain ⟨A130, n130, c130, rfl, N130⟩ := hnew.use
        clear hnew
        obtain rfl : n130 = 4 := by rw [← N130.out.1, putBE_length]
        have HO130 := hid (HO129.out.keep N130.out.2.2.2.1)
        have HV130 := hid N130.out.2.1
        refine hK.out _ _ (HB.out _ HO130.out.fr) (fun hHeld => ?_)
        clear hK KK
        try simp only [Act.put, List.setIfInBounds_toArray, List.set_cons_zero, List.set_cons_succ]
        refine oneD (i := 8) (by kernel_rfl) rfl (fun KK hK => ?_)
        refine step_out 18 rfl rfl (.tmp 13) (.tmp 17) rfl rfl HO130.out rfl (putBE_length _ _) HV130.out (by omega) ?_
        intro A131 c131 x131 ho131
        have HO131 := hid ho131
        clear ho131
        refine hK.out _ _ (HB.out _ HO131.out.fr) (fun hHeld => ?_)
        clear hK KK
        try simp only [Act.put, List.setIfInBounds_toArray, List.set_cons_zero, List.set_cons_succ]
        refine takeD (i := 9) (d := some 4) (v := ?_) rfl rfl (by kernel_rfl) (by kernel_rfl) (by kernel_rfl) (fun _ _ _ h => h) (by rfl) ?_ (by assumption) ?_
        rotate_left
        · intro w' hSw
          (try dsimp only at hSw)
          obtain ⟨c0, c1, c2, c3, c4, c5, c6, c7, c8, c9, c10, c11⟩ := blk12 hSw
          clear hSw
          go_simp
          try with_reducible rfl
        try simp only [Act.put, List.setIfInBounds_toArray, List.set_cons_zero, List.set_cons_succ]
        refine wpAnyH_done (by kernel_rfl) ?_ _
        clear hHeld
        go_wp2_with fail
        go_meet
        exact ⟨_, _, rfl, HO131.out⟩
      · -- the call first
        go_simp
        go_at_call 25
        refine (four_calls (U : Int) _ (by omega)).mono ?_
        rintro e x132 ⟨v132, rfl, hnew⟩
        obtain ⟨A132, n132, c132, rfl, N132⟩ := hnew.use
        clear hnew
        obtain rfl : n132 = 4 := by rw [← N132.out.1, putBE_length]
        have HF132 := hid (((Fr.refl No w1).drew).then N132.out.2.2.2.1)
        have HV132 := hid N132.out.2.1
        refine hK.out _ _ (HB.out _ HF132.out) (fun hHeld => ?_)
        clear hK KK
        try simp only [Act.put, List.setIfInBounds_toArray, List.set_cons_zero, List.set_cons_succ]
        refine oneD (i := 3) (by kernel_rfl) rfl (fun KK hK => ?_)
        go_simp
        have HO133 := hid (out_byte (K) HF132.out)
        have HV133 := hid (HV132.out.alloc (.cells #[.int .u8 (IntKind.u8.wrap (K))] 5))
        refine hK.out _ _ (HB.out _ HO133.out.fr) (fun hHeld => ?_)
        clear hK KK
        try simp only [Act.put, List.setIfInBounds_toArray, List.set_cons_zero, List.set_cons_succ]
        refine oneD (i := 8) (by kernel_rfl) rfl (fun KK hK => ?_)
        refine step_out 18 rfl rfl (.tmp 13) (.tmp 17) rfl rfl HO133.out rfl (putBE_length _ _) HV133.out (by omega) ?_
        intro A134 c134 x134 ho134
        have HO134 := hid ho134
        clear ho134
        refine hK.out _ _ (HB.out _ HO134.out.fr) (fun hHeld => ?_)
        clear hK KK
        try simp only [Act.put, List.setIfInBounds_toArray, List.set_cons_zero, List.set_cons_succ]
        refine takeD (i := 9) (d := some 4) (v := ?_) rfl rfl (by kernel_rfl) (by kernel_rfl) (by kernel_rfl) (fun _ _ _ h => h) (by rfl) ?_ (by assumption) ?_
        rotate_left
        · intro w' hSw
          (try dsimp only at hSw)
          obtain ⟨c0, c1, c2, c3, c4, c5, c6, c7, c8, c9, c10, c11⟩ := blk12 hSw
          clear hSw
          go_simp
          try with_reducible rfl
        try simp only [Act.put, List.setIfInBounds_toArray, List.set_cons_zero, List.set_cons_succ]
        refine wpAnyH_done (by kernel_rfl) ?_ _
        clear hHeld
        go_wp2_with fail
        go_meet
        exact ⟨_, _, rfl, HO134.out⟩
    case rest =>
      obtain ⟨A5, c5, rfl, hO5⟩ := hcut
      obtain ⟨w5, rfl⟩ : ∃ x : World, x = wc := ⟨_, rfl⟩
      have HO5 := hid hO5
      obtain ⟨d0, d1, d2, d3, d4, d5, d6, d7, d8, d9, d10, d11⟩ := blk12 (HB.out _ hO5.fr)
      clear hO5
      go_upto_block 0 with fail
      go_cut [4] (fun s4 wx => ∃ A n c, s4 = .slice A n c ∧ OutP w1 wx A n c (segO (⟨K, U, F, S, Z, P, Y, X, Q, C, R, D⟩ : MsgS)) ∧ n ≤ 2000)
      case first =>
        have hk : (K = 1 ∧ (K == 1) = true) ∨ (K = 2 ∧ (K == 1) = false ∧ (K == 2) = true) ∨ (K = 3 ∧ (K == 1) = false ∧ (K == 2) = false ∧ (K == 3) = true) ∨ (K = 4 ∧ (K == 1) = false ∧ (K == 2) = false ∧ (K == 3) = false ∧ (K == 4) = true) ∨ (K = 5 ∧ (K == 1) = false ∧ (K == 2) = false ∧ (K == 3) = false ∧ (K == 4) = false ∧ (K == 5) = true) := by
          have : K = 1 ∨ K = 2 ∨ K = 3 ∨ K = 4 ∨ K = 5 := by omega
          rcases this with h | h | h | h | h
          · subst h; exact .inl ⟨rfl, rfl⟩
          · subst h; exact .inr (.inl ⟨rfl, rfl, rfl⟩)
          · subst h; exact .inr (.inr (.inl ⟨rfl, rfl, rfl, rfl⟩))
          · subst h; exact .inr (.inr (.inr (.inl ⟨rfl, rfl, rfl, rfl, rfl⟩)))
          · subst h; exact .inr (.inr (.inr (.inr ⟨rfl, rfl, rfl, rfl, rfl, rfl⟩)))
        rcases hk with ⟨hk, e1⟩ | ⟨hk, e1, e2⟩ | ⟨hk, e1, e2, e3⟩ | ⟨hk, e1, e2, e3, e4⟩ | ⟨hk, e1, e2, e3, e4, e5⟩
        · -- 1
          have hseg : ∀ (W : World) A n c, OutP w1 W A n c (putBE 1 K ++ putBE 4 (U : Int) ++ putBE 1 F ++ putBE 4 (S : Int) ++ putBE 4 P) → OutP w1 W A n c (segO (⟨K, U, F, S, Z, P, Y, X, Q, C, R, D⟩ : MsgS)) ∧ n ≤ 2000 := fun W A n c h =>
            ⟨by have e : segO (⟨K, U, F, S, Z, P, Y, X, Q, C, R, D⟩ : MsgS) = putBE 1 K ++ putBE 4 (U : Int) ++ putBE 1 F ++ putBE 4 (S : Int) ++ putBE 4 P := by rw [segO_eq]; simp [segParts, hk]
                rw [e]; exact h, by rw [← h.len]; simp only [List.length_append, putBE_length]; omega⟩
          have HSEG := hid hseg
          have HK := hid hk
          clear hk hseg
          go_upto_region 6 with fail
          have HOd := hid HO5.out.drew
          refine wp_region_held_drew (S := (fun W => W.heap[g]? = some (.cells #[.int .i64 K, .int .u32 (U : Int), .int .i64 F, .int .u32 (S : Int), .int .i64 Z, .int .i64 P, .int .i64 Y, .int .i64 X, .int .i64 Q, .int .i64 C, .slice rA rn rc, .slice dA dn dc] 26 (0, 0)))) (by kernel_rfl) (HB.out _ HOd.out.fr) (fun hHeld => ?_)
          refine takeD (i := 0) (d := some 23) (v := ?_) rfl rfl (by kernel_rfl) (by kernel_rfl) (by kernel_rfl) (fun _ _ _ h => h) (by rfl) ?_ (by assumption) ?_
          rotate_left
          · intro w' hSw
            (try dsimp only at hSw)
            obtain ⟨c0, c1, c2, c3, c4, c5, c6, c7, c8, c9, c10, c11⟩ := blk12 hSw
            clear hSw
            go_simp
            try with_reducible rfl
          try simp only [Act.put, List.setIfInBounds_toArray, List.set_cons_zero, List.set_cons_succ]
          refine takeD (i := 1) (d := some 24) (v := ?_) rfl rfl (by kernel_rfl) (by kernel_rfl) (by kernel_rfl) (fun _ _ _ h => h) (by rfl) ?_ (by assumption) ?_
          rotate_left
          · intro w' hSw
            (try dsimp only at hSw)
            obtain ⟨c0, c1, c2, c3, c4, c5, c6, c7, c8, c9, c10, c11⟩ := blk12 hSw
            clear hSw
            go_simp
            try with_reducible rfl
          try simp only [Act.put, List.setIfInBounds_toArray, List.set_cons_zero, List.set_cons_succ]
          refine takeD (i := 2) (d := some 25) (v := ?_) rfl rfl (by kernel_rfl) (by kernel_rfl) (by kernel_rfl) (fun _ _ _ h => h) (by rfl) ?_ (by assumption) ?_
          rotate_left
          · intro w' hSw
            (try dsimp only at hSw)
            obtain ⟨c0, c1, c2, c3, c4, c5, c6, c7, c8, c9, c10, c11⟩ := blk12 hSw
            clear hSw
            go_simp
            try with_reducible rfl
          try simp only [Act.put, List.setIfInBounds_toArray, List.set_cons_zero, List.set_cons_succ]
          refine takeD (i := 3) (d := some 26) (v := ?_) rfl rfl (by kernel_rfl) (by kernel_rfl) (by kernel_rfl) (fun _ _ _ h => h) (by rfl) ?_ (by assumption) ?_
          rotate_left
          · intro w' hSw
            (try dsimp only at hSw)
            obtain ⟨c0, c1, c2, c3, c4, c5, c6, c7, c8, c9, c10, c11⟩ := blk12 hSw
            clear hSw
            go_simp
            try with_reducible rfl
          try simp only [Act.put, List.setIfInBounds_toArray, List.set_cons_zero, List.set_cons_succ]
          refine takeD (i := 6) (d := some 29) (v := ?_) rfl rfl (by kernel_rfl) (by kernel_rfl) (by kernel_rfl) (fun _ _ _ h => h) (by rfl) ?_ (by assumption) ?_
          rotate_left
          · intro w' hSw
            (try dsimp only at hSw)
            obtain ⟨c0, c1, c2, c3, c4, c5, c6, c7, c8, c9, c10, c11⟩ := blk12 hSw
            clear hSw
            go_simp
            try with_reducible rfl
          try simp only [Act.put, List.setIfInBounds_toArray, List.set_cons_zero, List.set_cons_succ]
          refine takeD (i := 7) (d := some 30) (v := ?_) rfl rfl (by kernel_rfl) (by kernel_rfl) (by kernel_rfl) (fun _ _ _ h => h) (by rfl) ?_ (by assumption) ?_
          rotate_left
          · intro w' hSw
            (try dsimp only at hSw)
            obtain ⟨c0, c1, c2, c3, c4, c5, c6, c7, c8, c9, c10, c11⟩ := blk12 hSw
            clear hSw
            go_simp
            try with_reducible rfl
          try simp only [Act.put, List.setIfInBounds_toArray, List.set_cons_zero, List.set_cons_succ]
          refine takeD (i := 8) (d := some 31) (v := ?_) rfl rfl (by kernel_rfl) (by kernel_rfl) (by kernel_rfl) (fun _ _ _ h => h) (by rfl) ?_ (by assumption) ?_
          rotate_left
          · intro w' hSw
            (try dsimp only at hSw)
            obtain ⟨c0, c1, c2, c3, c4, c5, c6, c7, c8, c9, c10, c11⟩ := blk12 hSw
            clear hSw
            go_simp
            try with_reducible rfl
          try simp only [Act.put, List.setIfInBounds_toArray, List.set_cons_zero, List.set_cons_succ]
          refine takeD (i := 11) (d := some 34) (v := ?_) rfl rfl (by kernel_rfl) (by kernel_rfl) (by kernel_rfl) (fun _ _ _ h => h) (by rfl) ?_ (by assumption) ?_
          rotate_left
          · intro w' hSw
            (try dsimp only at hSw)
            obtain ⟨c0, c1, c2, c3, c4, c5, c6, c7, c8, c9, c10, c11⟩ := blk12 hSw
            clear hSw
            go_simp
            try with_reducible rfl
          try simp only [Act.put, List.setIfInBounds_toArray, List.set_cons_zero, List.set_cons_succ]
          refine takeD (i := 12) (d := some 35) (v := ?_) rfl rfl (by kernel_rfl) (by kernel_rfl) (by kernel_rfl) (fun _ _ _ h => h) (by rfl) ?_ (by assumption) ?_
          rotate_left
          · intro w' hSw
            (try dsimp only at hSw)
            obtain ⟨c0, c1, c2, c3, c4, c5, c6, c7, c8, c9, c10, c11⟩ := blk12 hSw
            clear hSw
            go_simp
            try with_reducible rfl
          try simp only [Act.put, List.setIfInBounds_toArray, List.set_cons_zero, List.set_cons_succ]
          refine oneD (i := 4) (by kernel_rfl) rfl (fun KK hK => ?_)
          go_simp
          have HO135 := hid (HOd.out.toQ (.cells #[.int .u8 (IntKind.u8.wrap (F))] 5))
          have HB135 := hid (rd_byte (F) (w5.drew))
          refine hK.out _ _ (HB.out _ HO135.out.toP.fr) (fun hHeld => ?_)
          clear hK KK
          try simp only [Act.put, List.setIfInBounds_toArray, List.set_cons_zero, List.set_cons_succ]
          refine oneD (i := 5) (by kernel_rfl) rfl (fun KK hK => ?_)
          refine step_outq 28 rfl rfl (.tmp 23) (.tmp 27) rfl rfl HO135.out rfl (putBE_length _ _) HB135.out (by omega) ?_
          intro A136 c136 x136 ho136 hy136
          have HO136 := hid ho136
          clear ho136 hy136
          have HP136 := hid HO136.out.toP
          refine hK.out _ _ (HB.out _ HP136.out.fr) (fun hHeld => ?_)
          clear hK KK
          try simp only [Act.put, List.setIfInBounds_toArray, List.set_cons_zero, List.set_cons_succ]
          refine oneD (i := 9) (by kernel_rfl) rfl (fun KK hK => ?_)
          go_simp
          go_at_call 25
          refine (four_calls (S : Int) _ (by omega)).mono ?_
          rintro e x137 ⟨v137, rfl, hnew⟩
          obtain ⟨A137, n137, c137, rfl, N137⟩ := hnew.use
          clear hnew
          obtain rfl : n137 = 4 := by rw [← N137.out.1, putBE_length]
          have HO137 := hid (HP136.out.keep N137.out.2.2.2.1)
          have HV137 := hid N137.out.2.1
          refine hK.out _ _ (HB.out _ HO137.out.fr) (fun hHeld => ?_)
          clear hK KK
          try simp only [Act.put, List.setIfInBounds_toArray, List.set_cons_zero, List.set_cons_succ]
          refine oneD (i := 10) (by kernel_rfl) rfl (fun KK hK => ?_)
          refine step_out 33 rfl rfl (.tmp 28) (.tmp 32) rfl rfl HO137.out rfl (putBE_length _ _) HV137.out (by omega) ?_
          intro A138 c138 x138 ho138
          have HO138 := hid ho138
          clear ho138
          refine hK.out _ _ (HB.out _ HO138.out.fr) (fun hHeld => ?_)
          clear hK KK
          try simp only [Act.put, List.setIfInBounds_toArray, List.set_cons_zero, List.set_cons_succ]
          refine oneD (i := 13) (by kernel_rfl) rfl (fun KK hK => ?_)
          go_simp
          go_at_call 25
          refine (four_calls P _ (by omega)).mono ?_
          rintro e x139 ⟨v139, rfl, hnew⟩
          obtain ⟨A139, n139, c139, rfl, N139⟩ := hnew.use
          clear hnew
          obtain rfl : n139 = 4 := by rw [← N139.out.1, putBE_length]
          have HO139 := hid (HO138.out.keep N139.out.2.2.2.1)
          have HV139 := hid N139.out.2.1
          refine hK.out _ _ (HB.out _ HO139.out.fr) (fun hHeld => ?_)
          clear hK KK
          try simp only [Act.put, List.setIfInBounds_toArray, List.set_cons_zero, List.set_cons_succ]
          refine oneD (i := 14) (by kernel_rfl) rfl (fun KK hK => ?_)
          refine step_out 37 rfl rfl (.tmp 33) (.tmp 36) rfl rfl HO139.out rfl (putBE_length _ _) HV139.out (by omega) ?_
          intro A140 c140 x140 ho140
          have HO140 := hid ho140
          clear ho140
          refine hK.out _ _ (HB.out _ HO140.out.fr) (fun hHeld => ?_)
          clear hK KK
          try simp only [Act.put, List.setIfInBounds_toArray, List.set_cons_zero, List.set_cons_succ]
          refine takeD (i := 15) (d := some 4) (v := ?_) rfl rfl (by kernel_rfl) (by kernel_rfl) (by kernel_rfl) (fun _ _ _ h => h) (by rfl) ?_ (by assumption) ?_
          rotate_left
          · intro w' hSw
            (try dsimp only at hSw)
            obtain ⟨c0, c1, c2, c3, c4, c5, c6, c7, c8, c9, c10, c11⟩ := blk12 hSw
            clear hSw
            go_simp
            try with_reducible rfl
          try simp only [Act.put, List.setIfInBounds_toArray, List.set_cons_zero, List.set_cons_succ]
          refine wpAnyH_done (by kernel_rfl) ?_ _
          clear hHeld
          go_wp2_with fail
          go_meet
          exact ⟨_, _, _, rfl, HSEG.out _ _ _ _ HO140.out⟩
        · -- 2
          obtain ⟨mZ1, mY1⟩ := mZ hk
          have hseg : ∀ (W : World) A n c, OutP w1 W A n c (putBE 1 K ++ putBE 4 (U : Int) ++ putBE 1 F ++ putBE 4 (S : Int) ++ putBE 4 Z ++ putBE 4 P ++ putBE 2 Y) → OutP w1 W A n c (segO (⟨K, U, F, S, Z, P, Y, X, Q, C, R, D⟩ : MsgS)) ∧ n ≤ 2000 := fun W A n c h =>
            ⟨by have e : segO (⟨K, U, F, S, Z, P, Y, X, Q, C, R, D⟩ : MsgS) = putBE 1 K ++ putBE 4 (U : Int) ++ putBE 1 F ++ putBE 4 (S : Int) ++ putBE 4 Z ++ putBE 4 P ++ putBE 2 Y := by rw [segO_eq]; simp [segParts, hk]
                rw [e]; exact h, by rw [← h.len]; simp only [List.length_append, putBE_length]; omega⟩
          have HSEG := hid hseg
          have HK := hid hk
          clear hk hseg
          go_upto_region 8 with fail
          have HOd := hid HO5.out.drew
          refine wp_region_held_drew (S := (fun W => W.heap[g]? = some (.cells #[.int .i64 K, .int .u32 (U : Int), .int .i64 F, .int .u32 (S : Int), .int .i64 Z, .int .i64 P, .int .i64 Y, .int .i64 X, .int .i64 Q, .int .i64 C, .slice rA rn rc, .slice dA dn dc] 26 (0, 0)))) (by kernel_rfl) (HB.out _ HOd.out.fr) (fun hHeld => ?_)
          refine takeD (i := 0) (d := some 40) (v := ?_) rfl rfl (by kernel_rfl) (by kernel_rfl) (by kernel_rfl) (fun _ _ _ h => h) (by rfl) ?_ (by assumption) ?_
          rotate_left
          · intro w' hSw
            (try dsimp only at hSw)
            obtain ⟨c0, c1, c2, c3, c4, c5, c6, c7, c8, c9, c10, c11⟩ := blk12 hSw
            clear hSw
            go_simp
            try with_reducible rfl
          try simp only [Act.put, List.setIfInBounds_toArray, List.set_cons_zero, List.set_cons_succ]
          refine takeD (i := 1) (d := some 41) (v := ?_) rfl rfl (by kernel_rfl) (by kernel_rfl) (by kernel_rfl) (fun _ _ _ h => h) (by rfl) ?_ (by assumption) ?_
          rotate_left
          · intro w' hSw
            (try dsimp only at hSw)
            obtain ⟨c0, c1, c2, c3, c4, c5, c6, c7, c8, c9, c10, c11⟩ := blk12 hSw
            clear hSw
            go_simp
            try with_reducible rfl
          try simp only [Act.put, List.setIfInBounds_toArray, List.set_cons_zero, List.set_cons_succ]
          refine takeD (i := 2) (d := some 42) (v := ?_) rfl rfl (by kernel_rfl) (by kernel_rfl) (by kernel_rfl) (fun _ _ _ h => h) (by rfl) ?_ (by assumption) ?_
          rotate_left
          · intro w' hSw
            (try dsimp only at hSw)
            obtain ⟨c0, c1, c2, c3, c4, c5, c6, c7, c8, c9, c10, c11⟩ := blk12 hSw
            clear hSw
            go_simp
            try with_reducible rfl
          try simp only [Act.put, List.setIfInBounds_toArray, List.set_cons_zero, List.set_cons_succ]
          refine takeD (i := 3) (d := some 43) (v := ?_) rfl rfl (by kernel_rfl) (by kernel_rfl) (by kernel_rfl) (fun _ _ _ h => h) (by rfl) ?_ (by assumption) ?_
          rotate_left
          · intro w' hSw
            (try dsimp only at hSw)
            obtain ⟨c0, c1, c2, c3, c4, c5, c6, c7, c8, c9, c10, c11⟩ := blk12 hSw
            clear hSw
            go_simp
            try with_reducible rfl
          try simp only [Act.put, List.setIfInBounds_toArray, List.set_cons_zero, List.set_cons_succ]
          refine takeD (i := 6) (d := some 46) (v := ?_) rfl rfl (by kernel_rfl) (by kernel_rfl) (by kernel_rfl) (fun _ _ _ h => h) (by rfl) ?_ (by assumption) ?_
          rotate_left
          · intro w' hSw
            (try dsimp only at hSw)
            obtain ⟨c0, c1, c2, c3, c4, c5, c6, c7, c8, c9, c10, c11⟩ := blk12 hSw
            clear hSw
            go_simp
            try with_reducible rfl
          try simp only [Act.put, List.setIfInBounds_toArray, List.set_cons_zero, List.set_cons_succ]
          refine takeD (i := 7) (d := some 47) (v := ?_) rfl rfl (by kernel_rfl) (by kernel_rfl) (by kernel_rfl) (fun _ _ _ h => h) (by rfl) ?_ (by assumption) ?_
          rotate_left
          · intro w' hSw
            (try dsimp only at hSw)
            obtain ⟨c0, c1, c2, c3, c4, c5, c6, c7, c8, c9, c10, c11⟩ := blk12 hSw
            clear hSw
            go_simp
            try with_reducible rfl
          try simp only [Act.put, List.setIfInBounds_toArray, List.set_cons_zero, List.set_cons_succ]
          refine takeD (i := 8) (d := some 48) (v := ?_) rfl rfl (by kernel_rfl) (by kernel_rfl) (by kernel_rfl) (fun _ _ _ h => h) (by rfl) ?_ (by assumption) ?_
          rotate_left
          · intro w' hSw
            (try dsimp only at hSw)
            obtain ⟨c0, c1, c2, c3, c4, c5, c6, c7, c8, c9, c10, c11⟩ := blk12 hSw
            clear hSw
            go_simp
            try with_reducible rfl
          try simp only [Act.put, List.setIfInBounds_toArray, List.set_cons_zero, List.set_cons_succ]
          refine oneD (i := 4) (by kernel_rfl) rfl (fun KK hK => ?_)
          go_simp
          have HO141 := hid (HOd.out.toQ (.cells #[.int .u8 (IntKind.u8.wrap (F))] 5))
          have HB141 := hid (rd_byte (F) (w5.drew))
          refine hK.out _ _ (HB.out _ HO141.out.toP.fr) (fun hHeld => ?_)
          clear hK KK
          try simp only [Act.put, List.setIfInBounds_toArray, List.set_cons_zero, List.set_cons_succ]
          refine oneD (i := 5) (by kernel_rfl) rfl (fun KK hK => ?_)
          refine step_outq 45 rfl rfl (.tmp 40) (.tmp 44) rfl rfl HO141.out rfl (putBE_length _ _) HB141.out (by omega) ?_
          intro A142 c142 x142 ho142 hy142
          have HO142 := hid ho142
          clear ho142 hy142
          have HP142 := hid HO142.out.toP
          refine hK.out _ _ (HB.out _ HP142.out.fr) (fun hHeld => ?_)
          clear hK KK
          try simp only [Act.put, List.setIfInBounds_toArray, List.set_cons_zero, List.set_cons_succ]
          refine oneD (i := 9) (by kernel_rfl) rfl (fun KK hK => ?_)
          go_simp
          go_at_call 25
          refine (four_calls (S : Int) _ (by omega)).mono ?_
          rintro e x143 ⟨v143, rfl, hnew⟩
          obtain ⟨A143, n143, c143, rfl, N143⟩ := hnew.use
          clear hnew
          obtain rfl : n143 = 4 := by rw [← N143.out.1, putBE_length]
          have HO143 := hid (HP142.out.keep N143.out.2.2.2.1)
          have HV143 := hid N143.out.2.1
          refine hK.out _ _ (HB.out _ HO143.out.fr) (fun hHeld => ?_)
          clear hK KK
          try simp only [Act.put, List.setIfInBounds_toArray, List.set_cons_zero, List.set_cons_succ]
          refine oneD (i := 10) (by kernel_rfl) rfl (fun KK hK => ?_)
          refine step_out 50 rfl rfl (.tmp 45) (.tmp 49) rfl rfl HO143.out rfl (putBE_length _ _) HV143.out (by omega) ?_
          intro A144 c144 x144 ho144
          have HO144 := hid ho144
          clear ho144
          refine hK.out _ _ (HB.out _ HO144.out.fr) (fun hHeld => ?_)
          clear hK KK
          try simp only [Act.put, List.setIfInBounds_toArray, List.set_cons_zero, List.set_cons_succ]
          refine takeD (i := 11) (d := some 4) (v := ?_) rfl rfl (by kernel_rfl) (by kernel_rfl) (by kernel_rfl) (fun _ _ _ h => h) (by rfl) ?_ (by assumption) ?_
          rotate_left
          · intro w' hSw
            (try dsimp only at hSw)
            obtain ⟨c0, c1, c2, c3, c4, c5, c6, c7, c8, c9, c10, c11⟩ := blk12 hSw
            clear hSw
            go_simp
            try with_reducible rfl
          try simp only [Act.put, List.setIfInBounds_toArray, List.set_cons_zero, List.set_cons_succ]
          refine wpAnyH_done (by kernel_rfl) ?_ _
          clear hHeld
          go_upto_region 9 with fail
          have HO145 := hid HO144.out.drew
          refine wp_region_held_drew (S := (fun W => W.heap[g]? = some (.cells #[.int .i64 K, .int .u32 (U : Int), .int .i64 F, .int .u32 (S : Int), .int .i64 Z, .int .i64 P, .int .i64 Y, .int .i64 X, .int .i64 Q, .int .i64 C, .slice rA rn rc, .slice dA dn dc] 26 (0, 0)))) (by kernel_rfl) (HB.out _ HO145.out.fr) (fun hHeld => ?_)
          refine takeD (i := 0) (d := some 51) (v := ?_) rfl rfl (by kernel_rfl) (by kernel_rfl) (by kernel_rfl) (fun _ _ _ h => h) (by rfl) ?_ (by assumption) ?_
          rotate_left
          · intro w' hSw
            (try dsimp only at hSw)
            obtain ⟨c0, c1, c2, c3, c4, c5, c6, c7, c8, c9, c10, c11⟩ := blk12 hSw
            clear hSw
            go_simp
            try with_reducible rfl
          try simp only [Act.put, List.setIfInBounds_toArray, List.set_cons_zero, List.set_cons_succ]
          refine takeD (i := 1) (d := some 52) (v := ?_) rfl rfl (by kernel_rfl) (by kernel_rfl) (by kernel_rfl) (fun _ _ _ h => h) (by rfl) ?_ (by assumption) ?_
          rotate_left
          · intro w' hSw
            (try dsimp only at hSw)
            obtain ⟨c0, c1, c2, c3, c4, c5, c6, c7, c8, c9, c10, c11⟩ := blk12 hSw
            clear hSw
            go_simp
            try with_reducible rfl
          try simp only [Act.put, List.setIfInBounds_toArray, List.set_cons_zero, List.set_cons_succ]
          refine takeD (i := 2) (d := some 53) (v := ?_) rfl rfl (by kernel_rfl) (by kernel_rfl) (by kernel_rfl) (fun _ _ _ h => h) (by rfl) ?_ (by assumption) ?_
          rotate_left
          · intro w' hSw
            (try dsimp only at hSw)
            obtain ⟨c0, c1, c2, c3, c4, c5, c6, c7, c8, c9, c10, c11⟩ := blk12 hSw
            clear hSw
            go_simp
            try with_reducible rfl
          try simp only [Act.put, List.setIfInBounds_toArray, List.set_cons_zero, List.set_cons_succ]
          refine takeD (i := 5) (d := some 56) (v := ?_) rfl rfl (by kernel_rfl) (by kernel_rfl) (by kernel_rfl) (fun _ _ _ h => h) (by rfl) ?_ (by assumption) ?_
          rotate_left
          · intro w' hSw
            (try dsimp only at hSw)
            obtain ⟨c0, c1, c2, c3, c4, c5, c6, c7, c8, c9, c10, c11⟩ := blk12 hSw
            clear hSw
            go_simp
            try with_reducible rfl
          try simp only [Act.put, List.setIfInBounds_toArray, List.set_cons_zero, List.set_cons_succ]
          refine takeD (i := 6) (d := some 57) (v := ?_) rfl rfl (by kernel_rfl) (by kernel_rfl) (by kernel_rfl) (fun _ _ _ h => h) (by rfl) ?_ (by assumption) ?_
          rotate_left
          · intro w' hSw
            (try dsimp only at hSw)
            obtain ⟨c0, c1, c2, c3, c4, c5, c6, c7, c8, c9, c10, c11⟩ := blk12 hSw
            clear hSw
            go_simp
            try with_reducible rfl
          try simp only [Act.put, List.setIfInBounds_toArray, List.set_cons_zero, List.set_cons_succ]
          refine takeD (i := 9) (d := some 60) (v := ?_) rfl rfl (by kernel_rfl) (by kernel_rfl) (by kernel_rfl) (fun _ _ _ h => h) (by rfl) ?_ (by assumption) ?_
          rotate_left
          · intro w' hSw
            (try dsimp only at hSw)
            obtain ⟨c0, c1, c2, c3, c4, c5, c6, c7, c8, c9, c10, c11⟩ := blk12 hSw
            clear hSw
            go_simp
            try with_reducible rfl
          try simp only [Act.put, List.setIfInBounds_toArray, List.set_cons_zero, List.set_cons_succ]
          refine takeD (i := 10) (d := some 61) (v := ?_) rfl rfl (by kernel_rfl) (by kernel_rfl) (by kernel_rfl) (fun _ _ _ h => h) (by rfl) ?_ (by assumption) ?_
          rotate_left
          · intro w' hSw
            (try dsimp only at hSw)
            obtain ⟨c0, c1, c2, c3, c4, c5, c6, c7, c8, c9, c10, c11⟩ := blk12 hSw
            clear hSw
            go_simp
            try with_reducible rfl
          try simp only [Act.put, List.setIfInBounds_toArray, List.set_cons_zero, List.set_cons_succ]
          refine oneD (i := 3) (by kernel_rfl) rfl (fun KK hK => ?_)
          go_simp
          go_at_call 25
          refine (four_calls Z _ (by omega)).mono ?_
          rintro e x146 ⟨v146, rfl, hnew⟩
          obtain ⟨A146, n146, c146, rfl, N146⟩ := hnew.use
          clear hnew
          obtain rfl : n146 = 4 := by rw [← N146.out.1, putBE_length]
          have HO146 := hid (HO145.out.keep N146.out.2.2.2.1)
          have HV146 := hid N146.out.2.1
          refine hK.out _ _ (HB.out _ HO146.out.fr) (fun hHeld => ?_)
          clear hK KK
          try simp only [Act.put, List.setIfInBounds_toArray, List.set_cons_zero, List.set_cons_succ]
          refine oneD (i := 4) (by kernel_rfl) rfl (fun KK hK => ?_)
          refine step_out 55 rfl rfl (.tmp 51) (.tmp 54) rfl rfl HO146.out rfl (putBE_length _ _) HV146.out (by omega) ?_
          intro A147 c147 x147 ho147
          have HO147 := hid ho147
          clear ho147
          refine hK.out _ _ (HB.out _ HO147.out.fr) (fun hHeld => ?_)
          clear hK KK
          try simp only [Act.put, List.setIfInBounds_toArray, List.set_cons_zero, List.set_cons_succ]
          refine oneD (i := 7) (by kernel_rfl) rfl (fun KK hK => ?_)
          go_simp
          go_at_call 25
          refine (four_calls P _ (by omega)).mono ?_
          rintro e x148 ⟨v148, rfl, hnew⟩
          obtain ⟨A148, n148, c148, rfl, N148⟩ := hnew.use
          clear hnew
          obtain rfl : n148 = 4 := by rw [← N148.out.1, putBE_length]
          have HO148 := hid (HO147.out.keep N148.out.2.2.2.1)
          have HV148 := hid N148.out.2.1
          refine hK.out _ _ (HB.out _ HO148.out.fr) (fun hHeld => ?_)
          clear hK KK
          try simp only [Act.put, List.setIfInBounds_toArray, List.set_cons_zero, List.set_cons_succ]
          refine oneD (i := 8) (by kernel_rfl) rfl (fun KK hK => ?_)
          refine step_out 59 rfl rfl (.tmp 55) (.tmp 58) rfl rfl HO148.out rfl (putBE_length _ _) HV148.out (by omega) ?_
          intro A149 c149 x149 ho149
          have HO149 := hid ho149
          clear ho149
          refine hK.out _ _ (HB.out _ HO149.out.fr) (fun hHeld => ?_)
          clear hK KK
          try simp only [Act.put, List.setIfInBounds_toArray, List.set_cons_zero, List.set_cons_succ]
          refine oneD (i := 11) (by kernel_rfl) rfl (fun KK hK => ?_)
          go_simp
          go_at_call 26
          refine (refPutBig_calls 2 Y _ (by omega)).mono ?_
          rw [cut8_2]
          rintro e x150 ⟨v150, rfl, hnew⟩
          obtain ⟨A150, n150, c150, rfl, N150⟩ := hnew.use
          clear hnew
          obtain rfl : n150 = 2 := by rw [← N150.out.1, putBE_length]
          have HO150 := hid (HO149.out.keep N150.out.2.2.2.1)
          have HV150 := hid N150.out.2.1
          refine hK.out _ _ (HB.out _ HO150.out.fr) (fun hHeld => ?_)
          clear hK KK
          try simp only [Act.put, List.setIfInBounds_toArray, List.set_cons_zero, List.set_cons_succ]
          refine oneD (i := 12) (by kernel_rfl) rfl (fun KK hK => ?_)
          refine step_out 63 rfl rfl (.tmp 59) (.tmp 62) rfl rfl HO150.out rfl (putBE_length _ _) HV150.out (by omega) ?_
          intro A151 c151 x151 ho151
          have HO151 := hid ho151
          clear ho151
          refine hK.out _ _ (HB.out _ HO151.out.fr) (fun hHeld => ?_)
          clear hK KK
          try simp only [Act.put, List.setIfInBounds_toArray, List.set_cons_zero, List.set_cons_succ]
          refine takeD (i := 13) (d := some 4) (v := ?_) rfl rfl (by kernel_rfl) (by kernel_rfl) (by kernel_rfl) (fun _ _ _ h => h) (by rfl) ?_ (by assumption) ?_
          rotate_left
          · intro w' hSw
            (try dsimp only at hSw)
            obtain ⟨c0, c1, c2, c3, c4, c5, c6, c7, c8, c9, c10, c11⟩ := blk12 hSw
            clear hSw
            go_simp
            try with_reducible rfl
          try simp only [Act.put, List.setIfInBounds_toArray, List.set_cons_zero, List.set_cons_succ]
          refine wpAnyH_done (by kernel_rfl) ?_ _
          clear hHeld
          go_wp2_with fail
          go_meet
          exact ⟨_, _, _, rfl, HSEG.out _ _ _ _ HO151.out⟩
        · -- 3
          have hseg : ∀ (W : World) A n c, OutP w1 W A n c (putBE 1 K ++ putBE 4 (U : Int) ++ putBE 4 X ++ putBE 1 Q ++ D) → OutP w1 W A n c (segO (⟨K, U, F, S, Z, P, Y, X, Q, C, R, D⟩ : MsgS)) ∧ n ≤ 2000 := fun W A n c h =>
            ⟨by have e : segO (⟨K, U, F, S, Z, P, Y, X, Q, C, R, D⟩ : MsgS) = putBE 1 K ++ putBE 4 (U : Int) ++ putBE 4 X ++ putBE 1 Q ++ D := by rw [segO_eq]; simp [segParts, hk]
                rw [e]; exact h, by rw [← h.len]; simp only [List.length_append, putBE_length, HN.out.2.1]; omega⟩
          have HSEG := hid hseg
          have HK := hid hk
          clear hk hseg
          go_upto_region 11 with fail
          have HOd := hid HO5.out.drew
          refine wp_region_held_drew (S := (fun W => W.heap[g]? = some (.cells #[.int .i64 K, .int .u32 (U : Int), .int .i64 F, .int .u32 (S : Int), .int .i64 Z, .int .i64 P, .int .i64 Y, .int .i64 X, .int .i64 Q, .int .i64 C, .slice rA rn rc, .slice dA dn dc] 26 (0, 0)))) (by kernel_rfl) (HB.out _ HOd.out.fr) (fun hHeld => ?_)
          refine takeD (i := 0) (d := some 66) (v := ?_) rfl rfl (by kernel_rfl) (by kernel_rfl) (by kernel_rfl) (fun _ _ _ h => h) (by rfl) ?_ (by assumption) ?_
          rotate_left
          · intro w' hSw
            (try dsimp only at hSw)
            obtain ⟨c0, c1, c2, c3, c4, c5, c6, c7, c8, c9, c10, c11⟩ := blk12 hSw
            clear hSw
            go_simp
            try with_reducible rfl
          try simp only [Act.put, List.setIfInBounds_toArray, List.set_cons_zero, List.set_cons_succ]
          refine takeD (i := 1) (d := some 67) (v := ?_) rfl rfl (by kernel_rfl) (by kernel_rfl) (by kernel_rfl) (fun _ _ _ h => h) (by rfl) ?_ (by assumption) ?_
          rotate_left
          · intro w' hSw
            (try dsimp only at hSw)
            obtain ⟨c0, c1, c2, c3, c4, c5, c6, c7, c8, c9, c10, c11⟩ := blk12 hSw
            clear hSw
            go_simp
            try with_reducible rfl
          try simp only [Act.put, List.setIfInBounds_toArray, List.set_cons_zero, List.set_cons_succ]
          refine takeD (i := 2) (d := some 68) (v := ?_) rfl rfl (by kernel_rfl) (by kernel_rfl) (by kernel_rfl) (fun _ _ _ h => h) (by rfl) ?_ (by assumption) ?_
          rotate_left
          · intro w' hSw
            (try dsimp only at hSw)
            obtain ⟨c0, c1, c2, c3, c4, c5, c6, c7, c8, c9, c10, c11⟩ := blk12 hSw
            clear hSw
            go_simp
            try with_reducible rfl
          try simp only [Act.put, List.setIfInBounds_toArray, List.set_cons_zero, List.set_cons_succ]
          refine takeD (i := 5) (d := some 71) (v := ?_) rfl rfl (by kernel_rfl) (by kernel_rfl) (by kernel_rfl) (fun _ _ _ h => h) (by rfl) ?_ (by assumption) ?_
          rotate_left
          · intro w' hSw
            (try dsimp only at hSw)
            obtain ⟨c0, c1, c2, c3, c4, c5, c6, c7, c8, c9, c10, c11⟩ := blk12 hSw
            clear hSw
            go_simp
            try with_reducible rfl
          try simp only [Act.put, List.setIfInBounds_toArray, List.set_cons_zero, List.set_cons_succ]
          refine takeD (i := 6) (d := some 72) (v := ?_) rfl rfl (by kernel_rfl) (by kernel_rfl) (by kernel_rfl) (fun _ _ _ h => h) (by rfl) ?_ (by assumption) ?_
          rotate_left
          · intro w' hSw
            (try dsimp only at hSw)
            obtain ⟨c0, c1, c2, c3, c4, c5, c6, c7, c8, c9, c10, c11⟩ := blk12 hSw
            clear hSw
            go_simp
            try with_reducible rfl
          try simp only [Act.put, List.setIfInBounds_toArray, List.set_cons_zero, List.set_cons_succ]
          refine takeD (i := 7) (d := some 73) (v := ?_) rfl rfl (by kernel_rfl) (by kernel_rfl) (by kernel_rfl) (fun _ _ _ h => h) (by rfl) ?_ (by assumption) ?_
          rotate_left
          · intro w' hSw
            (try dsimp only at hSw)
            obtain ⟨c0, c1, c2, c3, c4, c5, c6, c7, c8, c9, c10, c11⟩ := blk12 hSw
            clear hSw
            go_simp
            try with_reducible rfl
          try simp only [Act.put, List.setIfInBounds_toArray, List.set_cons_zero, List.set_cons_succ]
          refine takeD (i := 10) (d := some 76) (v := ?_) rfl rfl (by kernel_rfl) (by kernel_rfl) (by kernel_rfl) (fun _ _ _ h => h) (by rfl) ?_ (by assumption) ?_
          rotate_left
          · intro w' hSw
            (try dsimp only at hSw)
            obtain ⟨c0, c1, c2, c3, c4, c5, c6, c7, c8, c9, c10, c11⟩ := blk12 hSw
            clear hSw
            go_simp
            try with_reducible rfl
          try simp only [Act.put, List.setIfInBounds_toArray, List.set_cons_zero, List.set_cons_succ]
          refine takeD (i := 11) (d := some 77) (v := ?_) rfl rfl (by kernel_rfl) (by kernel_rfl) (by kernel_rfl) (fun _ _ _ h => h) (by rfl) ?_ (by assumption) ?_
          rotate_left
          · intro w' hSw
            (try dsimp only at hSw)
            obtain ⟨c0, c1, c2, c3, c4, c5, c6, c7, c8, c9, c10, c11⟩ := blk12 hSw
            clear hSw
            go_simp
            try with_reducible rfl
          try simp only [Act.put, List.setIfInBounds_toArray, List.set_cons_zero, List.set_cons_succ]
          refine wpAnyH_ready (rs := [3, 8]) (by kernel_rfl) (by simp) (AllReadyH.cons rfl (fun KK hK => ?_) (AllReadyH.cons rfl (fun KK hK => ?_) AllReadyH.nil))
          · -- the call first
            go_simp
            go_at_call 25
            refine (four_calls X _ (by omega)).mono ?_
            rintro e x101 ⟨v101, rfl, hnew⟩
            obtain ⟨A101, n101, c101, rfl, N101⟩ := hnew.use
            clear hnew
            obtain rfl : n101 = 4 := by rw [← N101.out.1, putBE_length]
            have HO101 := hid (HOd.out.keep N101.out.2.2.2.1)
            have HV101 := hid N101.out.2.1
            refine hK.out _ _ (HB.out _ HO101.out.fr) (fun hHeld => ?_)
            clear hK KK
            try simp only [Act.put, List.setIfInBounds_toArray, List.set_cons_zero, List.set_cons_succ]
            refine wpAnyH_ready (rs := [4, 8]) (by kernel_rfl) (by simp) (AllReadyH.cons rfl (fun KK hK => ?_) (AllReadyH.cons rfl (fun KK hK => ?_) AllReadyH.nil))
            · -- its append
              refine step_out 70 rfl rfl (.tmp 66) (.tmp 69) rfl rfl HO101.out rfl (putBE_length _ _) HV101.out (by omega) ?_
              intro A102 c102 x102 ho102
              have HO102 := hid ho102
              clear ho102
              refine hK.out _ _ (HB.out _ HO102.out.fr) (fun hHeld => ?_)
              clear hK KK
              try simp only [Act.put, List.setIfInBounds_toArray, List.set_cons_zero, List.set_cons_succ]
              refine oneD (i := 8) (by kernel_rfl) rfl (fun KK hK => ?_)
              go_simp
              have HO103 := hid (HO102.out.toQ (.cells #[.int .u8 (IntKind.u8.wrap (Q))] 5))
              have HB103 := hid (rd_byte (Q) (x102))
              refine hK.out _ _ (HB.out _ HO103.out.toP.fr) (fun hHeld => ?_)
              clear hK KK
              try simp only [Act.put, List.setIfInBounds_toArray, List.set_cons_zero, List.set_cons_succ]
              refine oneD (i := 9) (by kernel_rfl) rfl (fun KK hK => ?_)
              refine step_outq 75 rfl rfl (.tmp 70) (.tmp 74) rfl rfl HO103.out rfl (putBE_length _ _) HB103.out (by omega) ?_
              intro A104 c104 x104 ho104 hy104
              have HO104 := hid ho104
              clear ho104 hy104
              have HP104 := hid HO104.out.toP
              refine hK.out _ _ (HB.out _ HP104.out.fr) (fun hHeld => ?_)
              clear hK KK
              try simp only [Act.put, List.setIfInBounds_toArray, List.set_cons_zero, List.set_cons_succ]
              have HD105 := hid (HN.out.2.2.2.fr0 (HW1.out.then HP104.out.fr))
              refine oneD (i := 12) (by kernel_rfl) rfl (fun KK hK => ?_)
              refine step_out 78 rfl rfl (.tmp 75) (.tmp 77) rfl rfl HP104.out rfl HN.out.2.1 HD105.out (by omega) ?_
              intro A106 c106 x106 ho106
              have HO106 := hid ho106
              clear ho106
              refine hK.out _ _ (HB.out _ HO106.out.fr) (fun hHeld => ?_)
              clear hK KK
              try simp only [Act.put, List.setIfInBounds_toArray, List.set_cons_zero, List.set_cons_succ]
              refine takeD (i := 13) (d := some 4) (v := ?_) rfl rfl (by kernel_rfl) (by kernel_rfl) (by kernel_rfl) (fun _ _ _ h => h) (by rfl) ?_ (by assumption) ?_
              rotate_left
              · intro w' hSw
                (try dsimp only at hSw)
                obtain ⟨c0, c1, c2, c3, c4, c5, c6, c7, c8, c9, c10, c11⟩ := blk12 hSw
                clear hSw
                go_simp
                try with_reducible rfl
              try simp only [Act.put, List.setIfInBounds_toArray, List.set_cons_zero, List.set_cons_succ]
              refine wpAnyH_done (by kernel_rfl) ?_ _
              clear hHeld
              go_wp2_with fail
              go_meet
              exact ⟨_, _, _, rfl, HSEG.out _ _ _ _ HO106.out⟩
            · -- the byte
              go_simp
              have HO107 := hid (HO101.out.toQ (.cells #[.int .u8 (IntKind.u8.wrap (Q))] 5))
              have HV107 := hid (HV101.out.alloc (.cells #[.int .u8 (IntKind.u8.wrap (Q))] 5))
              have HB107 := hid (rd_byte (Q) (x101))
              refine hK.out _ _ (HB.out _ HO107.out.toP.fr) (fun hHeld => ?_)
              clear hK KK
              try simp only [Act.put, List.setIfInBounds_toArray, List.set_cons_zero, List.set_cons_succ]
              refine oneD (i := 4) (by kernel_rfl) rfl (fun KK hK => ?_)
              refine step_outq 70 rfl rfl (.tmp 66) (.tmp 69) rfl rfl HO107.out rfl (putBE_length _ _) HV107.out (by omega) ?_
              intro A108 c108 x108 ho108 hy108
              have HB108 := hid (HB107.out.keep (fun ad e _ => by injection e with e; subst e; exact hy108))
              have HO108 := hid ho108
              clear ho108 hy108
              refine hK.out _ _ (HB.out _ HO108.out.toP.fr) (fun hHeld => ?_)
              clear hK KK
              try simp only [Act.put, List.setIfInBounds_toArray, List.set_cons_zero, List.set_cons_succ]
              refine oneD (i := 9) (by kernel_rfl) rfl (fun KK hK => ?_)
              refine step_outq 75 rfl rfl (.tmp 70) (.tmp 74) rfl rfl HO108.out rfl (putBE_length _ _) HB108.out (by omega) ?_
              intro A109 c109 x109 ho109 hy109
              have HO109 := hid ho109
              clear ho109 hy109
              have HP109 := hid HO109.out.toP
              refine hK.out _ _ (HB.out _ HP109.out.fr) (fun hHeld => ?_)
              clear hK KK
              try simp only [Act.put, List.setIfInBounds_toArray, List.set_cons_zero, List.set_cons_succ]
              have HD110 := hid (HN.out.2.2.2.fr0 (HW1.out.then HP109.out.fr))
              refine oneD (i := 12) (by kernel_rfl) rfl (fun KK hK => ?_)
              refine step_out 78 rfl rfl (.tmp 75) (.tmp 77) rfl rfl HP109.out rfl HN.out.2.1 HD110.out (by omega) ?_
              intro A111 c111 x111 ho111
              have HO111 := hid ho111
              clear ho111
              refine hK.out _ _ (HB.out _ HO111.out.fr) (fun hHeld => ?_)
              clear hK KK
              try simp only [Act.put, List.setIfInBounds_toArray, List.set_cons_zero, List.set_cons_succ]
              refine takeD (i := 13) (d := some 4) (v := ?_) rfl rfl (by kernel_rfl) (by kernel_rfl) (by kernel_rfl) (fun _ _ _ h => h) (by rfl) ?_ (by assumption) ?_
              rotate_left
              · intro w' hSw
                (try dsimp only at hSw)
                obtain ⟨c0, c1, c2, c3, c4, c5, c6, c7, c8, c9, c10, c11⟩ := blk12 hSw
                clear hSw
                go_simp
                try with_reducible rfl
              try simp only [Act.put, List.setIfInBounds_toArray, List.set_cons_zero, List.set_cons_succ]
              refine wpAnyH_done (by kernel_rfl) ?_ _
              clear hHeld
              go_wp2_with fail
              go_meet
              exact ⟨_, _, _, rfl, HSEG.out _ _ _ _ HO111.out⟩
          · -- the byte first
            go_simp
            have HO112 := hid (HOd.out.toQ (.cells #[.int .u8 (IntKind.u8.wrap (Q))] 5))
            have HB112 := hid (rd_byte (Q) (w5.drew))
            refine hK.out _ _ (HB.out _ HO112.out.toP.fr) (fun hHeld => ?_)
            clear hK KK
            try simp only [Act.put, List.setIfInBounds_toArray, List.set_cons_zero, List.set_cons_succ]
            refine oneD (i := 3) (by kernel_rfl) rfl (fun KK hK => ?_)
            go_simp
            go_at_call 25
            refine (four_calls X _ (by omega)).mono ?_
            rintro e x113 ⟨v113, rfl, hnew⟩
            obtain ⟨A113, n113, c113, rfl, N113⟩ := hnew.use
            clear hnew
            obtain rfl : n113 = 4 := by rw [← N113.out.1, putBE_length]
            have HO113 := hid (HO112.out.keep N113.out.2.2.2.1)
            have HB113 := hid (HB112.out.fr0 N113.out.2.2.2.1)
            have HV113 := hid N113.out.2.1
            refine hK.out _ _ (HB.out _ HO113.out.toP.fr) (fun hHeld => ?_)
            clear hK KK
            try simp only [Act.put, List.setIfInBounds_toArray, List.set_cons_zero, List.set_cons_succ]
            refine oneD (i := 4) (by kernel_rfl) rfl (fun KK hK => ?_)
            refine step_outq 70 rfl rfl (.tmp 66) (.tmp 69) rfl rfl HO113.out rfl (putBE_length _ _) HV113.out (by omega) ?_
            intro A114 c114 x114 ho114 hy114
            have HB114 := hid (HB113.out.keep (fun ad e _ => by injection e with e; subst e; exact hy114))
            have HO114 := hid ho114
            clear ho114 hy114
            refine hK.out _ _ (HB.out _ HO114.out.toP.fr) (fun hHeld => ?_)
            clear hK KK
            try simp only [Act.put, List.setIfInBounds_toArray, List.set_cons_zero, List.set_cons_succ]
            refine oneD (i := 9) (by kernel_rfl) rfl (fun KK hK => ?_)
            refine step_outq 75 rfl rfl (.tmp 70) (.tmp 74) rfl rfl HO114.out rfl (putBE_length _ _) HB114.out (by omega) ?_
            intro A115 c115 x115 ho115 hy115
            have HO115 := hid ho115
            clear ho115 hy115
            have HP115 := hid HO115.out.toP
            refine hK.out _ _ (HB.out _ HP115.out.fr) (fun hHeld => ?_)
            clear hK KK
            try simp only [Act.put, List.setIfInBounds_toArray, List.set_cons_zero, List.set_cons_succ]
            have HD116 := hid (HN.out.2.2.2.fr0 (HW1.out.then HP115.out.fr))
            refine oneD (i := 12) (by kernel_rfl) rfl (fun KK hK => ?_)
            refine step_out 78 rfl rfl (.tmp 75) (.tmp 77) rfl rfl HP115.out rfl HN.out.2.1 HD116.out (by omega) ?_
            intro A117 c117 x117 ho117
            have HO117 := hid ho117
            clear ho117
            refine hK.out _ _ (HB.out _ HO117.out.fr) (fun hHeld => ?_)
            clear hK KK
            try simp only [Act.put, List.setIfInBounds_toArray, List.set_cons_zero, List.set_cons_succ]
            refine takeD (i := 13) (d := some 4) (v := ?_) rfl rfl (by kernel_rfl) (by kernel_rfl) (by kernel_rfl) (fun _ _ _ h => h) (by rfl) ?_ (by assumption) ?_
            rotate_left
            · intro w' hSw
              (try dsimp only at hSw)
              obtain ⟨c0, c1, c2, c3, c4, c5, c6, c7, c8, c9, c10, c11⟩ := blk12 hSw
              clear hSw
              go_simp
              try with_reducible rfl
            try simp only [Act.put, List.setIfInBounds_toArray, List.set_cons_zero, List.set_cons_succ]
            refine wpAnyH_done (by kernel_rfl) ?_ _
            clear hHeld
            go_wp2_with fail
            go_meet
            exact ⟨_, _, _, rfl, HSEG.out _ _ _ _ HO117.out⟩
        · -- 4
          have hseg : segO (⟨K, U, F, S, Z, P, Y, X, Q, C, R, D⟩ : MsgS) = putBE 1 K ++ putBE 4 (U : Int) ++ putBE 4 X ++ putBE 1 (rn : Int) ++ (rgParts R).flatten := by rw [segO_eq, ← HN.out.1]; simp [segParts, hk]
          have HSEG := hid hseg
          have HK := hid hk
          clear hk hseg
          go_upto_region 13 with fail
          go_cut [4] (fun s4 wx => ∃ A c, s4 = .slice A 10 c ∧ OutP w1 wx A 10 c (putBE 1 K ++ putBE 4 (U : Int) ++ putBE 4 X ++ putBE 1 (rn : Int)))
          case first =>
            have HOd := hid HO5.out.drew
            refine wp_region_held_drew (S := (fun W => W.heap[g]? = some (.cells #[.int .i64 K, .int .u32 (U : Int), .int .i64 F, .int .u32 (S : Int), .int .i64 Z, .int .i64 P, .int .i64 Y, .int .i64 X, .int .i64 Q, .int .i64 C, .slice rA rn rc, .slice dA dn dc] 26 (0, 0)))) (by kernel_rfl) (HB.out _ HOd.out.fr) (fun hHeld => ?_)
            refine takeD (i := 0) (d := some 81) (v := ?_) rfl rfl (by kernel_rfl) (by kernel_rfl) (by kernel_rfl) (fun _ _ _ h => h) (by rfl) ?_ (by assumption) ?_
            rotate_left
            · intro w' hSw
              (try dsimp only at hSw)
              obtain ⟨c0, c1, c2, c3, c4, c5, c6, c7, c8, c9, c10, c11⟩ := blk12 hSw
              clear hSw
              go_simp
              try with_reducible rfl
            try simp only [Act.put, List.setIfInBounds_toArray, List.set_cons_zero, List.set_cons_succ]
            refine takeD (i := 1) (d := some 82) (v := ?_) rfl rfl (by kernel_rfl) (by kernel_rfl) (by kernel_rfl) (fun _ _ _ h => h) (by rfl) ?_ (by assumption) ?_
            rotate_left
            · intro w' hSw
              (try dsimp only at hSw)
              obtain ⟨c0, c1, c2, c3, c4, c5, c6, c7, c8, c9, c10, c11⟩ := blk12 hSw
              clear hSw
              go_simp
              try with_reducible rfl
            try simp only [Act.put, List.setIfInBounds_toArray, List.set_cons_zero, List.set_cons_succ]
            refine takeD (i := 2) (d := some 83) (v := ?_) rfl rfl (by kernel_rfl) (by kernel_rfl) (by kernel_rfl) (fun _ _ _ h => h) (by rfl) ?_ (by assumption) ?_
            rotate_left
            · intro w' hSw
              (try dsimp only at hSw)
              obtain ⟨c0, c1, c2, c3, c4, c5, c6, c7, c8, c9, c10, c11⟩ := blk12 hSw
              clear hSw
              go_simp
              try with_reducible rfl
            try simp only [Act.put, List.setIfInBounds_toArray, List.set_cons_zero, List.set_cons_succ]
            refine takeD (i := 5) (d := some 86) (v := ?_) rfl rfl (by kernel_rfl) (by kernel_rfl) (by kernel_rfl) (fun _ _ _ h => h) (by rfl) ?_ (by assumption) ?_
            rotate_left
            · intro w' hSw
              (try dsimp only at hSw)
              obtain ⟨c0, c1, c2, c3, c4, c5, c6, c7, c8, c9, c10, c11⟩ := blk12 hSw
              clear hSw
              go_simp
              try with_reducible rfl
            try simp only [Act.put, List.setIfInBounds_toArray, List.set_cons_zero, List.set_cons_succ]
            refine takeD (i := 6) (d := some 87) (v := ?_) rfl rfl (by kernel_rfl) (by kernel_rfl) (by kernel_rfl) (fun _ _ _ h => h) (by rfl) ?_ (by assumption) ?_
            rotate_left
            · intro w' hSw
              (try dsimp only at hSw)
              obtain ⟨c0, c1, c2, c3, c4, c5, c6, c7, c8, c9, c10, c11⟩ := blk12 hSw
              clear hSw
              go_simp
              try with_reducible rfl
            try simp only [Act.put, List.setIfInBounds_toArray, List.set_cons_zero, List.set_cons_succ]
            refine takeD (i := 7) (d := some 88) (v := ?_) rfl rfl (by kernel_rfl) (by kernel_rfl) (by kernel_rfl) (fun _ _ _ h => h) (by rfl) ?_ (by assumption) ?_
            rotate_left
            · intro w' hSw
              (try dsimp only at hSw)
              obtain ⟨c0, c1, c2, c3, c4, c5, c6, c7, c8, c9, c10, c11⟩ := blk12 hSw
              clear hSw
              go_simp
              try with_reducible rfl
            try simp only [Act.put, List.setIfInBounds_toArray, List.set_cons_zero, List.set_cons_succ]
            refine takeD (i := 8) (d := some 89) (v := ?_) rfl rfl (by kernel_rfl) (by kernel_rfl) (by kernel_rfl) (fun _ _ _ h => h) (by rfl) ?_ (by assumption) ?_
            rotate_left
            · intro w' hSw
              (try dsimp only at hSw)
              obtain ⟨c0, c1, c2, c3, c4, c5, c6, c7, c8, c9, c10, c11⟩ := blk12 hSw
              clear hSw
              go_simp
              try with_reducible rfl
            try simp only [Act.put, List.setIfInBounds_toArray, List.set_cons_zero, List.set_cons_succ]
            refine wpAnyH_ready (rs := [3, 9]) (by kernel_rfl) (by simp) (AllReadyH.cons rfl (fun KK hK => ?_) (AllReadyH.cons rfl (fun KK hK => ?_) AllReadyH.nil))
            · -- the call first
              go_simp
              go_at_call 25
              refine (four_calls X _ (by omega)).mono ?_
              rintro e x118 ⟨v118, rfl, hnew⟩
              obtain ⟨A118, n118, c118, rfl, N118⟩ := hnew.use
              clear hnew
              obtain rfl : n118 = 4 := by rw [← N118.out.1, putBE_length]
              have HO118 := hid (HOd.out.keep N118.out.2.2.2.1)
              have HV118 := hid N118.out.2.1
              refine hK.out _ _ (HB.out _ HO118.out.fr) (fun hHeld => ?_)
              clear hK KK
              try simp only [Act.put, List.setIfInBounds_toArray, List.set_cons_zero, List.set_cons_succ]
              refine wpAnyH_ready (rs := [4, 9]) (by kernel_rfl) (by simp) (AllReadyH.cons rfl (fun KK hK => ?_) (AllReadyH.cons rfl (fun KK hK => ?_) AllReadyH.nil))
              · -- its append
                refine step_out 85 rfl rfl (.tmp 81) (.tmp 84) rfl rfl HO118.out rfl (putBE_length _ _) HV118.out (by omega) ?_
                intro A119 c119 x119 ho119
                have HO119 := hid ho119
                clear ho119
                refine hK.out _ _ (HB.out _ HO119.out.fr) (fun hHeld => ?_)
                clear hK KK
                try simp only [Act.put, List.setIfInBounds_toArray, List.set_cons_zero, List.set_cons_succ]
                refine oneD (i := 9) (by kernel_rfl) rfl (fun KK hK => ?_)
                go_simp
                have HO120 := hid (HO119.out.toQ (.cells #[.int .u8 (IntKind.u8.wrap ((rn : Int)))] 5))
                have HB120 := hid (rd_byte ((rn : Int)) (x119))
                refine hK.out _ _ (HB.out _ HO120.out.toP.fr) (fun hHeld => ?_)
                clear hK KK
                try simp only [Act.put, List.setIfInBounds_toArray, List.set_cons_zero, List.set_cons_succ]
                refine oneD (i := 10) (by kernel_rfl) rfl (fun KK hK => ?_)
                refine step_outq 91 rfl rfl (.tmp 85) (.tmp 90) rfl rfl HO120.out rfl (putBE_length _ _) HB120.out (by omega) ?_
                intro A121 c121 x121 ho121 hy121
                have HO121 := hid ho121
                clear ho121 hy121
                have HP121 := hid HO121.out.toP
                refine hK.out _ _ (HB.out _ HP121.out.fr) (fun hHeld => ?_)
                clear hK KK
                try simp only [Act.put, List.setIfInBounds_toArray, List.set_cons_zero, List.set_cons_succ]
                refine takeD (i := 11) (d := some 4) (v := ?_) rfl rfl (by kernel_rfl) (by kernel_rfl) (by kernel_rfl) (fun _ _ _ h => h) (by rfl) ?_ (by assumption) ?_
                rotate_left
                · intro w' hSw
                  (try dsimp only at hSw)
                  obtain ⟨c0, c1, c2, c3, c4, c5, c6, c7, c8, c9, c10, c11⟩ := blk12 hSw
                  clear hSw
                  go_simp
                  try with_reducible rfl
                try simp only [Act.put, List.setIfInBounds_toArray, List.set_cons_zero, List.set_cons_succ]
                refine wpAnyH_done (by kernel_rfl) ?_ _
                clear hHeld
                go_wp2_with fail
                go_meet
                exact ⟨_, _, rfl, HP121.out⟩
              · -- the byte
                go_simp
                have HO122 := hid (HO118.out.toQ (.cells #[.int .u8 (IntKind.u8.wrap ((rn : Int)))] 5))
                have HV122 := hid (HV118.out.alloc (.cells #[.int .u8 (IntKind.u8.wrap ((rn : Int)))] 5))
                have HB122 := hid (rd_byte ((rn : Int)) (x118))
                refine hK.out _ _ (HB.out _ HO122.out.toP.fr) (fun hHeld => ?_)
                clear hK KK
                try simp only [Act.put, List.setIfInBounds_toArray, List.set_cons_zero, List.set_cons_succ]
                refine oneD (i := 4) (by kernel_rfl) rfl (fun KK hK => ?_)
                refine step_outq 85 rfl rfl (.tmp 81) (.tmp 84) rfl rfl HO122.out rfl (putBE_length _ _) HV122.out (by omega) ?_
                intro A123 c123 x123 ho123 hy123
                have HB123 := hid (HB122.out.keep (fun ad e _ => by injection e with e; subst e; exact hy123))
                have HO123 := hid ho123
                clear ho123 hy123
                refine hK.out _ _ (HB.out _ HO123.out.toP.fr) (fun hHeld => ?_)
                clear hK KK
                try simp only [Act.put, List.setIfInBounds_toArray, List.set_cons_zero, List.set_cons_succ]
                refine oneD (i := 10) (by kernel_rfl) rfl (fun KK hK => ?_)
                refine step_outq 91 rfl rfl (.tmp 85) (.tmp 90) rfl rfl HO123.out rfl (putBE_length _ _) HB123.out (by omega) ?_
                intro A124 c124 x124 ho124 hy124
                have HO124 := hid ho124
                clear ho124 hy124
                have HP124 := hid HO124.out.toP
                refine hK.out _ _ (HB.out _ HP124.out.fr) (fun hHeld => ?_)
                clear hK KK
                try simp only [Act.put, List.setIfInBounds_toArray, List.set_cons_zero, List.set_cons_succ]
                refine takeD (i := 11) (d := some 4) (v := ?_) rfl rfl (by kernel_rfl) (by kernel_rfl) (by kernel_rfl) (fun _ _ _ h => h) (by rfl) ?_ (by assumption) ?_
                rotate_left
                · intro w' hSw
                  (try dsimp only at hSw)
                  obtain ⟨c0, c1, c2, c3, c4, c5, c6, c7, c8, c9, c10, c11⟩ := blk12 hSw
                  clear hSw
                  go_simp
                  try with_reducible rfl
                try simp only [Act.put, List.setIfInBounds_toArray, List.set_cons_zero, List.set_cons_succ]
                refine wpAnyH_done (by kernel_rfl) ?_ _
                clear hHeld
                go_wp2_with fail
                go_meet
                exact ⟨_, _, rfl, HP124.out⟩
            · -- the byte first
              go_simp
              have HO125 := hid (HOd.out.toQ (.cells #[.int .u8 (IntKind.u8.wrap ((rn : Int)))] 5))
              have HB125 := hid (rd_byte ((rn : Int)) (w5.drew))
              refine hK.out _ _ (HB.out _ HO125.out.toP.fr) (fun hHeld => ?_)
              clear hK KK
              try simp only [Act.put, List.setIfInBounds_toArray, List.set_cons_zero, List.set_cons_succ]
              refine oneD (i := 3) (by kernel_rfl) rfl (fun KK hK => ?_)
              go_simp
              go_at_call 25
              refine (four_calls X _ (by omega)).mono ?_
              rintro e x126 ⟨v126, rfl, hnew⟩
              obtain ⟨A126, n126, c126, rfl, N126⟩ := hnew.use
              clear hnew
              obtain rfl : n126 = 4 := by rw [← N126.out.1, putBE_length]
              have HO126 := hid (HO125.out.keep N126.out.2.2.2.1)
              have HB126 := hid (HB125.out.fr0 N126.out.2.2.2.1)
              have HV126 := hid N126.out.2.1
              refine hK.out _ _ (HB.out _ HO126.out.toP.fr) (fun hHeld => ?_)
              clear hK KK
              try simp only [Act.put, List.setIfInBounds_toArray, List.set_cons_zero, List.set_cons_succ]
              refine oneD (i := 4) (by kernel_rfl) rfl (fun KK hK => ?_)
              refine step_outq 85 rfl rfl (.tmp 81) (.tmp 84) rfl rfl HO126.out rfl (putBE_length _ _) HV126.out (by omega) ?_
              intro A127 c127 x127 ho127 hy127
              have HB127 := hid (HB126.out.keep (fun ad e _ => by injection e with e; subst e; exact hy127))
              have HO127 := hid ho127
              clear ho127 hy127
              refine hK.out _ _ (HB.out _ HO127.out.toP.fr) (fun hHeld => ?_)
              clear hK KK
              try simp only [Act.put, List.setIfInBounds_toArray, List.set_cons_zero, List.set_cons_succ]
              refine oneD (i := 10) (by kernel_rfl) rfl (fun KK hK => ?_)
              refine step_outq 91 rfl rfl (.tmp 85) (.tmp 90) rfl rfl HO127.out rfl (putBE_length _ _) HB127.out (by omega) ?_
              intro A128 c128 x128 ho128 hy128
              have HO128 := hid ho128
              clear ho128 hy128
              have HP128 := hid HO128.out.toP
              refine hK.out _ _ (HB.out _ HP128.out.fr) (fun hHeld => ?_)
              clear hK KK
              try simp only [Act.put, List.setIfInBounds_toArray, List.set_cons_zero, List.set_cons_succ]
              refine takeD (i := 11) (d := some 4) (v := ?_) rfl rfl (by kernel_rfl) (by kernel_rfl) (by kernel_rfl) (fun _ _ _ h => h) (by rfl) ?_ (by assumption) ?_
              rotate_left
              · intro w' hSw
                (try dsimp only at hSw)
                obtain ⟨c0, c1, c2, c3, c4, c5, c6, c7, c8, c9, c10, c11⟩ := blk12 hSw
                clear hSw
                go_simp
                try with_reducible rfl
              try simp only [Act.put, List.setIfInBounds_toArray, List.set_cons_zero, List.set_cons_succ]
              refine wpAnyH_done (by kernel_rfl) ?_ _
              clear hHeld
              go_wp2_with fail
              go_meet
              exact ⟨_, _, rfl, HP128.out⟩
          case rest =>
            obtain ⟨A6, c6, rfl, hO6⟩ := hcut
            obtain ⟨w6, rfl⟩ : ∃ x : World, x = wc := ⟨_, rfl⟩
            have HO6 := hid hO6
            clear hO6
            obtain ⟨d0, d1, d2, d3, d4, d5, d6, d7, d8, d9, d10, d11⟩ := blk12 (HB.out _ HO6.out.fr)
            go_wp2_with fail
            clear d0 d1 d2 d3 d4 d5 d6 d7 d8 d9 d10 d11
            go_loopw [4, 95] (fun o i wr => ∃ (k n c : Nat) (A : Option Addr), k ≤ rn ∧ i = .int .i64 k ∧ o = .slice A n c ∧ n ≤ 10 + 8 * k ∧ Hid (OutP w1 wr A n c (putBE 1 K ++ putBE 4 (U : Int) ++ putBE 4 X ++ putBE 1 (rn : Int) ++ (rgParts (R.take k)).flatten))) (fun _ i _ => rn - (intOf i).toNat)
            case atStart => exact ⟨0, 10, c6, A6, by omega, rfl, rfl, by omega, hid (by simpa [rgParts] using HO6.out)⟩
            case round =>
              obtain ⟨k, n, c, A, hk, rfl, rfl, hn, HOk⟩ := hrel
              by_cases hlt : k < rn
              · have hkl : k < R.length := by rw [HN.out.1]; exact hlt
                obtain ⟨ad, rfl, a0, a1⟩ := cells2 (HN.out.2.2.1.fr (HW1.out.then HOk.out.fr) (fun _ _ h => h)) k hkl
                obtain ⟨⟨a, b⟩, hab⟩ : ∃ r, r = R[k] := ⟨_, rfl⟩
                have hT : (rgParts (R.take (k + 1))).flatten = (rgParts (R.take k)).flatten ++ putBE 4 a ++ putBE 4 b := by
                  rw [take_snocR R k hkl, ← hab]; simp [rgParts]
                have hbd := HBD.out (a, b) (by rw [hab]; exact List.getElem_mem hkl)
                simp only at hbd
                have HT := hid hT
                rw [← hab] at a0 a1
                clear hab hT hkl
                go_upto_region 17 with fail
                obtain ⟨gr, hgr⟩ : ∃ q, q = wr.heap.size := ⟨_, rfl⟩
                obtain ⟨W2, hW2⟩ : ∃ W, W = wr.alloc (.cells #[.int .i64 a, .int .i64 b] 53) := ⟨_, rfl⟩
                have hq0 := HOk.out.toQ (.cells #[.int .i64 a, .int .i64 b] 53)
                rw [← hW2, ← hgr] at hq0
                have HQ0 := hid (hq0.keep ((Fr.refl No W2).drew))
                have HS0 := hid (show W2.heap[gr]? = some (.cells #[.int .i64 a, .int .i64 b] 53 (0, 0)) from by rw [hW2, hgr]; exact heap_new _ _)
                rw [← hW2, ← hgr]
                clear hW2 hgr hq0
                refine wp_region_held_drew (S := (fun W => W.heap[gr]? = some (.cells #[.int .i64 a, .int .i64 b] 53 (0, 0)))) (by kernel_rfl) HS0.out (fun hHeld => ?_)
                refine takeD (i := 0) (d := some 99) (v := ?_) rfl rfl (by kernel_rfl) (by kernel_rfl) (by kernel_rfl) (fun _ _ _ h => h) (by rfl) ?_ (by assumption) ?_
                rotate_left
                · intro w' hSw
                  (try dsimp only at hSw)
                  obtain ⟨c0, c1⟩ := blk2c hSw
                  clear hSw
                  go_simp
                  try with_reducible rfl
                try simp only [Act.put, List.setIfInBounds_toArray, List.set_cons_zero, List.set_cons_succ]
                refine takeD (i := 1) (d := some 100) (v := ?_) rfl rfl (by kernel_rfl) (by kernel_rfl) (by kernel_rfl) (fun _ _ _ h => h) (by rfl) ?_ (by assumption) ?_
                rotate_left
                · intro w' hSw
                  (try dsimp only at hSw)
                  obtain ⟨c0, c1⟩ := blk2c hSw
                  clear hSw
                  go_simp
                  try with_reducible rfl
                try simp only [Act.put, List.setIfInBounds_toArray, List.set_cons_zero, List.set_cons_succ]
                refine takeD (i := 2) (d := some 101) (v := ?_) rfl rfl (by kernel_rfl) (by kernel_rfl) (by kernel_rfl) (fun _ _ _ h => h) (by rfl) ?_ (by assumption) ?_
                rotate_left
                · intro w' hSw
                  (try dsimp only at hSw)
                  obtain ⟨c0, c1⟩ := blk2c hSw
                  clear hSw
                  go_simp
                  try with_reducible rfl
                try simp only [Act.put, List.setIfInBounds_toArray, List.set_cons_zero, List.set_cons_succ]
                refine takeD (i := 5) (d := some 104) (v := ?_) rfl rfl (by kernel_rfl) (by kernel_rfl) (by kernel_rfl) (fun _ _ _ h => h) (by rfl) ?_ (by assumption) ?_
                rotate_left
                · intro w' hSw
                  (try dsimp only at hSw)
                  obtain ⟨c0, c1⟩ := blk2c hSw
                  clear hSw
                  go_simp
                  try with_reducible rfl
                try simp only [Act.put, List.setIfInBounds_toArray, List.set_cons_zero, List.set_cons_succ]
                refine takeD (i := 6) (d := some 105) (v := ?_) rfl rfl (by kernel_rfl) (by kernel_rfl) (by kernel_rfl) (fun _ _ _ h => h) (by rfl) ?_ (by assumption) ?_
                rotate_left
                · intro w' hSw
                  (try dsimp only at hSw)
                  obtain ⟨c0, c1⟩ := blk2c hSw
                  clear hSw
                  go_simp
                  try with_reducible rfl
                try simp only [Act.put, List.setIfInBounds_toArray, List.set_cons_zero, List.set_cons_succ]
                refine oneD (i := 3) (by kernel_rfl) rfl (fun KK hK => ?_)
                go_simp
                go_at_call 25
                refine (four_calls a _ (by omega)).mono ?_
                rintro e x1 ⟨v1, rfl, hnew⟩
                obtain ⟨A1, n1, c1, rfl, N1⟩ := hnew.use
                clear hnew
                obtain rfl : n1 = 4 := by rw [← N1.out.1, putBE_length]
                have HQ1 := hid (HQ0.out.keep N1.out.2.2.2.1)
                have HS1 := hid ((N1.out.2.2.2.1.block gr HQ0.out.lt (fun h => h)).trans HS0.out)
                have HV1 := hid N1.out.2.1
                refine hK.out _ _ HS1.out (fun hHeld => ?_)
                clear hK KK
                try simp only [Act.put, List.setIfInBounds_toArray, List.set_cons_zero, List.set_cons_succ]
                refine oneD (i := 4) (by kernel_rfl) rfl (fun KK hK => ?_)
                refine step_outq 103 rfl rfl (.tmp 99) (.tmp 102) rfl rfl HQ1.out rfl (putBE_length _ _) HV1.out (by omega) ?_
                intro A2 c2 x2 ho2 hy2
                have HQ2 := hid ho2
                have HS2 := hid (hy2.trans HS1.out)
                clear ho2 hy2
                refine hK.out _ _ HS2.out (fun hHeld => ?_)
                clear hK KK
                try simp only [Act.put, List.setIfInBounds_toArray, List.set_cons_zero, List.set_cons_succ]
                refine oneD (i := 7) (by kernel_rfl) rfl (fun KK hK => ?_)
                go_simp
                go_at_call 25
                refine (four_calls b _ (by omega)).mono ?_
                rintro e x3 ⟨v3, rfl, hnew⟩
                obtain ⟨A3, n3, c3, rfl, N3⟩ := hnew.use
                clear hnew
                obtain rfl : n3 = 4 := by rw [← N3.out.1, putBE_length]
                have HQ3 := hid (HQ2.out.keep N3.out.2.2.2.1)
                have HS3 := hid ((N3.out.2.2.2.1.block gr HQ2.out.lt (fun h => h)).trans HS2.out)
                have HV3 := hid N3.out.2.1
                refine hK.out _ _ HS3.out (fun hHeld => ?_)
                clear hK KK
                try simp only [Act.put, List.setIfInBounds_toArray, List.set_cons_zero, List.set_cons_succ]
                refine oneD (i := 8) (by kernel_rfl) rfl (fun KK hK => ?_)
                refine step_outq 107 rfl rfl (.tmp 103) (.tmp 106) rfl rfl HQ3.out rfl (putBE_length _ _) HV3.out (by omega) ?_
                intro A4 c4 x4 ho4 hy4
                have HQ4 := hid ho4
                have HS4 := hid (hy4.trans HS3.out)
                clear ho4 hy4
                refine hK.out _ _ HS4.out (fun hHeld => ?_)
                clear hK KK
                try simp only [Act.put, List.setIfInBounds_toArray, List.set_cons_zero, List.set_cons_succ]
                refine takeD (i := 9) (d := some 4) (v := ?_) rfl rfl (by kernel_rfl) (by kernel_rfl) (by kernel_rfl) (fun _ _ _ h => h) (by rfl) ?_ (by assumption) ?_
                rotate_left
                · intro w' hSw
                  (try dsimp only at hSw)
                  obtain ⟨c0, c1⟩ := blk2c hSw
                  clear hSw
                  go_simp
                  try with_reducible rfl
                try simp only [Act.put, List.setIfInBounds_toArray, List.set_cons_zero, List.set_cons_succ]
                refine wpAnyH_done (by kernel_rfl) ?_ _
                clear hHeld
                go_wp2_with fail
                go_roundw
                case rel => exact ⟨k + 1, _, _, _, by omega, by go_num, rfl, by omega, hid (by rw [HT.out]; simpa [List.append_assoc] using HQ4.out.toP)⟩
                case measure => simp [intOf] <;> omega
              · obtain rfl : k = rn := by omega
                have hT : R.take k = R := List.take_of_length_le (by rw [HN.out.1]; exact Nat.le_refl _)
                have HT := hid hT
                clear hT hlt
                go_wp2_with fail
                go_meet
                exact ⟨_, _, _, rfl, by rw [HSEG.out]; have h := HOk.out; rw [HT.out] at h; exact h, by omega⟩
        · -- 5
          obtain ⟨ob5, hrow5, hob5, hfr5⟩ := HO5.out
          have HK := hid hk
          clear hk
          go_upto_region 20 with fail
          go_step
          refine wpList_val (v := .slice A5 5 c5) rfl (by go_simp; first | done | rfl) ?_
          simp only [Act.put, List.setIfInBounds_toArray, List.set_cons_zero, List.set_cons_succ]
          refine wpList_val (v := .pointer (some ⟨g, 2, none⟩)) rfl (by go_simp; first | done | rfl) ?_
          simp only [Act.put, List.setIfInBounds_toArray, List.set_cons_zero, List.set_cons_succ]
          refine wpList_val (v := .int .i64 F) rfl (by go_simp; first | done | rfl) ?_
          simp only [Act.put, List.setIfInBounds_toArray, List.set_cons_zero, List.set_cons_succ]
          refine wpList_val (v := .int .u8 (IntKind.u8.wrap F)) rfl (by go_simp; first | done | rfl) ?_
          simp only [Act.put, List.setIfInBounds_toArray, List.set_cons_zero, List.set_cons_succ]
          refine wpList_val (v := .pointer (some ⟨g, 9, none⟩)) rfl (by go_simp; first | done | rfl) ?_
          simp only [Act.put, List.setIfInBounds_toArray, List.set_cons_zero, List.set_cons_succ]
          refine wpList_val (v := .int .i64 C) rfl (by go_simp; first | done | rfl) ?_
          simp only [Act.put, List.setIfInBounds_toArray, List.set_cons_zero, List.set_cons_succ]
          refine wpList_val (v := .int .u8 (IntKind.u8.wrap C)) rfl (by go_simp; first | done | rfl) ?_
          simp only [Act.put, List.setIfInBounds_toArray, List.set_cons_zero, List.set_cons_succ]
          go_step
          go_step
          go_step
          refine wpList_app1 slU8 rfl (.tmp 111) (.tmp 118) rfl (v := .slice A5 5 c5) rfl (n := 5) hrow5 rfl (m := 2) (c := 2) (ys := [.int .u8 F, .int .u8 C]) rfl (by simp [Value.oneCell']) (by omega) (by omega) ?_
          intro A9 c9 w9 ob9 hrow9 hfr9 hob9
          simp only [Act.put, List.setIfInBounds_toArray, List.set_cons_zero, List.set_cons_succ]
          go_wp2_with fail
          go_meet
          have he : (putBE 1 K ++ putBE 4 (U : Int)).map B ++ [.int .u8 F, .int .u8 C] = (segO (⟨K, U, F, S, Z, P, Y, X, Q, C, R, D⟩ : MsgS)).map B := by
            have h1 : segO (⟨K, U, F, S, Z, P, Y, X, Q, C, R, D⟩ : MsgS) = putBE 1 K ++ putBE 4 (U : Int) ++ putBE 1 F ++ putBE 1 C := by rw [segO_eq]; simp [segParts, HK.out]
            have f1 : (putBE 1 F).map B = [.int .u8 F] := by rw [← cells_byte F, wrapu8, Int.emod_eq_of_lt (by omega) (by omega)]
            have f2 : (putBE 1 C).map B = [.int .u8 C] := by rw [← cells_byte C, wrapu8, Int.emod_eq_of_lt (by omega) (by omega)]
            rw [h1]
            simp only [List.map_append, f1, f2, List.append_assoc]
            rfl
          refine ⟨A9, 7, c9, rfl, ⟨ob9, he ▸ hrow9, fun k hk => ?_, hfr5.fresh hfr9 hob5⟩, by omega⟩
          rcases hob9 with e | ⟨q, e, hq⟩
          · exact hob5 k (by rw [← e]; exact hk)
          · rw [e] at hk
            injection hk with hk
            have := hfr5.size
            omega
      case rest =>
        obtain ⟨A7, n7, c7, rfl, hO7, hn7⟩ := hcut
        obtain ⟨w7, rfl⟩ : ∃ x : World, x = wc := ⟨_, rfl⟩
        have HO7 := hid hO7
        clear hO7 d0 d1 d2 d3 d4 d5 d6 d7 d8 d9 d10 d11
        go_wp2_with fail
        refine (sealed_calls A7 (segO (⟨K, U, F, S, Z, P, Y, X, Q, C, R, D⟩ : MsgS)) n7 c7 _ HO7.out.len HO7.out.rd (by omega)).mono ?_
        rintro e w8 ⟨v8, rfl, hnew⟩
        have HN8 := hid hnew
        clear hnew
        go_wp2_with fail
        go_ret2
        rw [HE.out.1, HE.out.2]
        obtain ⟨⟨A, n, c, ob, q1, q2, q3, q4⟩, q5⟩ := HN8.out
        exact ⟨_, rfl, ⟨A, n, c, ob, q1, q2, q3, fun k hk => Nat.le_trans (HW1.out.then HO7.out.fr).size (q4 k hk)⟩, (HW1.out.then HO7.out.fr).then q5⟩
end Go.Proofs.Ytamkfjbdcjkchaa

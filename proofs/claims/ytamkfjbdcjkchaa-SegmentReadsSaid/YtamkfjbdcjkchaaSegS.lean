/- Whether a message has something spare. -/
import Derived.Test.YtamkfjbdcjkchaaSegE
import Derived.Test.YtamkfjbdcjkchaaReg
namespace Go.Proofs.Ytamkfjbdcjkchaa
open Go.RowKit Go.Proofs.HK
set_option linter.unusedVariables false
set_option linter.unusedSimpArgs false
attribute [local go_sem] max2_int min2_int max_two min_two

theorem blk10 {W : World} {g : Nat} {v0 v1 v2 v3 v4 v5 v6 v7 v8 v9 : Value} {t : TypeId} (hb : W.heap[g]? = some (.cells #[v0, v1, v2, v3, v4, v5, v6, v7, v8, v9] t (0, 0))) :
    W.cell? ⟨g, 0, none⟩ = some v0 ∧ W.cell? ⟨g, 1, none⟩ = some v1 ∧ W.cell? ⟨g, 2, none⟩ = some v2 ∧ W.cell? ⟨g, 3, none⟩ = some v3 ∧ W.cell? ⟨g, 4, none⟩ = some v4 ∧ W.cell? ⟨g, 5, none⟩ = some v5 ∧
    W.cell? ⟨g, 6, none⟩ = some v6 ∧ W.cell? ⟨g, 7, none⟩ = some v7 ∧ W.cell? ⟨g, 8, none⟩ = some v8 ∧ W.cell? ⟨g, 9, none⟩ = some v9 := by
  simp [World.cell?, hb]
theorem ret_cell {fn : Func} {s : Nat} {T : TypeId} (hres : fn.results = #[.cell s T]) {R : Ending → World → Prop} {W : World} {g : Nat} {v : Value} {a : Act}
    (h2 : a.tmps.getD s undef = .pointer (some ⟨g, 0, none⟩)) (hl : (Go.loadVar T ⟨g, 0, none⟩).run Try.prog W = .ok v W) (hd : a.defers = []) (hR : R (.returned v) W) : bodyPost Try.prog fn R .ret a W := by
  refine bodyPost_ret (v := v) ?_ hd hR
  have h2' : a.tmps[s]?.getD undef = .pointer (some ⟨g, 0, none⟩) := by simpa using h2
  have ha : (Go.asAddr (Value.pointer (some ⟨g, 0, none⟩))).run Try.prog W = .ok ⟨g, 0, none⟩ W := by simp [Go.asAddr]
  simp [results, hres, h2', ha, hl]
theorem ret_cell2 {fn : Func} {s k : Nat} {T : TypeId} (hres : fn.results = #[.cell s T, .tmp k]) {R : Ending → World → Prop} {W : World} {g : Nat} {v er : Value} {a : Act}
    (h2 : a.tmps.getD s undef = .pointer (some ⟨g, 0, none⟩)) (h3 : a.tmps.getD k undef = er) (hl : (Go.loadVar T ⟨g, 0, none⟩).run Try.prog W = .ok v W) (hd : a.defers = []) (hR : R (.returned (.tuple #[v, er])) W) : bodyPost Try.prog fn R .ret a W := by
  refine bodyPost_ret (v := .tuple #[v, er]) ?_ hd hR
  have h2' : a.tmps[s]?.getD undef = .pointer (some ⟨g, 0, none⟩) := by simpa using h2
  have h3' : a.tmps[k]?.getD undef = er := by simpa using h3
  have ha : (Go.asAddr (Value.pointer (some ⟨g, 0, none⟩))).run Try.prog W = .ok ⟨g, 0, none⟩ W := by simp [Go.asAddr]
  simp [results, hres, h2', h3', ha, hl]
theorem load_ten {W : World} {g : Nat} {v0 v1 v2 v3 v4 v5 v6 v7 v8 v9 : Value} {t : TypeId} (hb : W.heap[g]? = some (.cells #[v0, v1, v2, v3, v4, v5, v6, v7, v8, v9] t (0, 0))) :
    (Go.loadVar 72 ⟨g, 0, none⟩).run Try.prog W = .ok (.agg #[v0, v1, v2, v3, v4, v5, v6, v7, v8, v9]) W := by
  obtain ⟨c0, c1, c2, c3, c4, c5, c6, c7, c8, c9⟩ := blk10 hb
  unfold Go.loadVar
  go_simp
  first | done | rfl
theorem load_msg {W : World} {g : Nat} {v0 v1 v2 v3 v4 v5 v6 v7 v8 v9 v10 v11 : Value} {t : TypeId} (hb : W.heap[g]? = some (.cells #[v0, v1, v2, v3, v4, v5, v6, v7, v8, v9, v10, v11] t (0, 0))) :
    (Go.loadVar 26 ⟨g, 0, none⟩).run Try.prog W = .ok (.agg #[v0, v1, v2, v3, v4, v5, v6, v7, v8, v9, v10, v11]) W := by
  obtain ⟨c0, c1, c2, c3, c4, c5, c6, c7, c8, c9, c10, c11⟩ := blk12 hb
  unfold Go.loadVar
  go_simp
  first | done | rfl
set_option maxRecDepth 100000 in
set_option maxHeartbeats 1600000 in
theorem bare_calls (K : Int) (U : Nat) (F : Int) (S : Nat) (Z P Y X Q C : Int) (rA dA : Option Addr) (rn rc dn dc : Nat) (w : World) (hU : U < 4294967296) (hS : S < 4294967296) :
    Calls Try.prog 54 #[.agg #[.int .i64 K, .int .u32 (U : Int), .int .i64 F, .int .u32 (S : Int), .int .i64 Z, .int .i64 P, .int .i64 Y, .int .i64 X, .int .i64 Q, .int .i64 C, .slice rA rn rc, .slice dA dn dc]] w fun e w' => e = .returned (.agg #[.int .i64 K, .int .i64 (U : Int), .int .i64 F, .int .i64 (S : Int), .int .i64 Z, .int .i64 P, .int .i64 Y, .int .i64 X, .int .i64 Q, .int .i64 C]) ∧ Fr No w w' := by
  have hwS : IntKind.i64.wrap (S : Int) = (S : Int) := w64 _ (by omega) (by omega)
  have hwU : IntKind.i64.wrap (U : Int) = (U : Int) := w64 _ (by omega) (by omega)
  go_enter Try.func54, Try.ntmps54
  go_wp2_with fail
  refine ret_cell rfl (g := w.heap.size + 1) rfl (load_ten (by have := heap_new (w.alloc (.cells #[.int .i64 K, .int .u32 (U : Int), .int .i64 F, .int .u32 (S : Int), .int .i64 Z, .int .i64 P, .int .i64 Y, .int .i64 X, .int .i64 Q, .int .i64 C, .slice rA rn rc, .slice dA dn dc] 26)) (.cells #[.int .i64 K, .int .i64 (U : Int), .int .i64 F, .int .i64 (S : Int), .int .i64 Z, .int .i64 P, .int .i64 Y, .int .i64 X, .int .i64 Q, .int .i64 C] 72); rw [World.size_alloc] at this; exact this)) rfl ⟨rfl, ((Fr.refl No w).alloc _).alloc _⟩
def ten (m : MsgS) : List Int := [m.K, m.U, m.F, m.S, m.Z, m.P, m.Y, m.X, m.Q, m.C]
def spareB (m m' : MsgS) : Bool := !decide (ten m = ten m') || !decide (m.R = m'.R) || !decide (m.D = m'.D)
theorem spareB_iff (m m' : MsgS) : spareB m m' = !decide (m = m') := by
  by_cases h : m = m'
  · subst h; simp [spareB]
  · rw [decide_eq_false h]
    unfold spareB
    by_cases h1 : ten m = ten m'
    · by_cases h2 : m.R = m'.R
      · by_cases h3 : m.D = m'.D
        · exfalso
          apply h
          obtain ⟨K, U, F, S, Z, P, Y, X, Q, C, R, D⟩ := m
          obtain ⟨K', U', F', S', Z', P', Y', X', Q', C', R', D'⟩ := m'
          simp only [ten, List.cons.injEq, and_true] at h1
          simp only at h2 h3
          obtain ⟨e0, e1, e2, e3, e4, e5, e6, e7, e8, e9⟩ := h1
          have e1 : U = U' := by omega
          have e3 : S = S' := by omega
          subst e0 e1 e2 e3 e4 e5 e6 e7 e8 e9 h2 h3
          rfl
        · simp [h3]
      · simp [h2]
    · simp [h1]
set_option maxRecDepth 100000 in
set_option maxHeartbeats 3200000 in
theorem spare_calls (K : Int) (U : Nat) (F : Int) (S : Nat) (Z P Y X Q C : Int) (R : List (Int × Int)) (D : List UInt8) (rA dA : Option Addr) (rn rc dn dc : Nat) (K' : Int) (U' : Nat) (F' : Int) (S' : Nat) (Z' P' Y' X' Q' C' : Int) (R' : List (Int × Int)) (D' : List UInt8) (rA' dA' : Option Addr) (rn' rc' dn' dc' : Nat) (w : World)
    (hU : U < 4294967296) (hS : S < 4294967296) (hU' : U' < 4294967296) (hS' : S' < 4294967296) (hR : R.length = rn) (hD : D.length = dn) (hr : Cells w rA (rngC R)) (hd : Rd B w dA D) (hR' : R'.length = rn') (hD' : D'.length = dn') (hr' : Cells w rA' (rngC R')) (hd' : Rd B w dA' D') (hl : rn ≤ 140737488355328) (hl2 : dn ≤ 140737488355328) :
    Calls Try.prog 23 #[.agg #[.int .i64 K, .int .u32 (U : Int), .int .i64 F, .int .u32 (S : Int), .int .i64 Z, .int .i64 P, .int .i64 Y, .int .i64 X, .int .i64 Q, .int .i64 C, .slice rA rn rc, .slice dA dn dc], .agg #[.int .i64 K', .int .u32 (U' : Int), .int .i64 F', .int .u32 (S' : Int), .int .i64 Z', .int .i64 P', .int .i64 Y', .int .i64 X', .int .i64 Q', .int .i64 C', .slice rA' rn' rc', .slice dA' dn' dc']] w fun e w' => e = .returned (.bool (!decide ((⟨K, U, F, S, Z, P, Y, X, Q, C, R, D⟩ : MsgS) = ⟨K', U', F', S', Z', P', Y', X', Q', C', R', D'⟩))) ∧ Fr No w w' := by
  rw [← spareB_iff]
  obtain ⟨B1, hB1⟩ : ∃ b, b = decide (ten ⟨K, U, F, S, Z, P, Y, X, Q, C, R, D⟩ = ten ⟨K', U', F', S', Z', P', Y', X', Q', C', R', D'⟩) := ⟨_, rfl⟩
  obtain ⟨B2, hB2⟩ : ∃ b, b = decide (R = R') := ⟨_, rfl⟩
  obtain ⟨B3, hB3⟩ : ∃ b, b = decide (D = D') := ⟨_, rfl⟩
  have HB := hid (show spareB ⟨K, U, F, S, Z, P, Y, X, Q, C, R, D⟩ ⟨K', U', F', S', Z', P', Y', X', Q', C', R', D'⟩ = (!B1 || !B2 || !B3) by rw [hB1, hB2, hB3]; rfl)
  have hneq : ∀ W, (binOp .neq 72 (.agg #[.int .i64 K, .int .i64 (U : Int), .int .i64 F, .int .i64 (S : Int), .int .i64 Z, .int .i64 P, .int .i64 Y, .int .i64 X, .int .i64 Q, .int .i64 C]) (.agg #[.int .i64 K', .int .i64 (U' : Int), .int .i64 F', .int .i64 (S' : Int), .int .i64 Z', .int .i64 P', .int .i64 Y', .int .i64 X', .int .i64 Q', .int .i64 C'])).run Try.prog W = .ok (.bool (!B1)) W := fun W => by
    have := neq10 W (ten ⟨K, U, F, S, Z, P, Y, X, Q, C, R, D⟩) (ten ⟨K', U', F', S', Z', P', Y', X', Q', C', R', D'⟩) rfl rfl
    rw [← hB1] at this
    exact this
  have eqR : ∀ W, Cells W rA (rngC R) → Cells W rA' (rngC R') → Calls Try.prog 55 #[.slice rA rn rc, .slice rA' rn' rc'] W fun e w' => e = .returned (.bool B2) ∧ ∃ q, w' = W.drewN q := fun W h1 h2 => by rw [hB2]; exact equalR_calls rA rA' R R' rn rn' rc rc' hR hR' W h1 h2 hl
  have eqD : ∀ W, Rd B W dA D → Rd B W dA' D' → Calls Try.prog 56 #[.slice dA dn dc, .slice dA' dn' dc'] W fun e w' => e = .returned (.bool B3) ∧ ∃ q, w' = W.drewN q := fun W h1 h2 => by rw [hB3]; exact equalB_calls dA dA' D D' dn dn' dc dc' hD hD' W h1 h2 hl2
  have ba : ∀ W, Calls Try.prog 54 #[.agg #[.int .i64 K, .int .u32 (U : Int), .int .i64 F, .int .u32 (S : Int), .int .i64 Z, .int .i64 P, .int .i64 Y, .int .i64 X, .int .i64 Q, .int .i64 C, .slice rA rn rc, .slice dA dn dc]] W fun e w' => e = .returned (.agg #[.int .i64 K, .int .i64 (U : Int), .int .i64 F, .int .i64 (S : Int), .int .i64 Z, .int .i64 P, .int .i64 Y, .int .i64 X, .int .i64 Q, .int .i64 C]) ∧ Fr No W w' := fun W => bare_calls K U F S Z P Y X Q C rA dA rn rc dn dc W hU hS
  have bb : ∀ W, Calls Try.prog 54 #[.agg #[.int .i64 K', .int .u32 (U' : Int), .int .i64 F', .int .u32 (S' : Int), .int .i64 Z', .int .i64 P', .int .i64 Y', .int .i64 X', .int .i64 Q', .int .i64 C', .slice rA' rn' rc', .slice dA' dn' dc']] W fun e w' => e = .returned (.agg #[.int .i64 K', .int .i64 (U' : Int), .int .i64 F', .int .i64 (S' : Int), .int .i64 Z', .int .i64 P', .int .i64 Y', .int .i64 X', .int .i64 Q', .int .i64 C']) ∧ Fr No W w' := fun W => bare_calls K' U' F' S' Z' P' Y' X' Q' C' rA' dA' rn' rc' dn' dc' W hU' hS'
  have HQ := hid (And.intro eqR eqD)
  have HA := hid ba
  have HA2 := hid bb
  have HM := hid (And.intro hr (And.intro hd (And.intro hr' hd')))
  obtain ⟨g, hg⟩ : ∃ g, g = w.heap.size := ⟨_, rfl⟩
  obtain ⟨W, hW⟩ : ∃ W, W = (w.alloc (.cells #[.int .i64 K, .int .u32 (U : Int), .int .i64 F, .int .u32 (S : Int), .int .i64 Z, .int .i64 P, .int .i64 Y, .int .i64 X, .int .i64 Q, .int .i64 C, .slice rA rn rc, .slice dA dn dc] 26)).alloc (.cells #[.int .i64 K', .int .u32 (U' : Int), .int .i64 F', .int .u32 (S' : Int), .int .i64 Z', .int .i64 P', .int .i64 Y', .int .i64 X', .int .i64 Q', .int .i64 C', .slice rA' rn' rc', .slice dA' dn' dc'] 26) := ⟨_, rfl⟩
  have hb1 : W.heap[g]? = some (.cells #[.int .i64 K, .int .u32 (U : Int), .int .i64 F, .int .u32 (S : Int), .int .i64 Z, .int .i64 P, .int .i64 Y, .int .i64 X, .int .i64 Q, .int .i64 C, .slice rA rn rc, .slice dA dn dc] 26 (0, 0)) := by
    rw [hW, hg]; exact (((Fr.refl No (w.alloc _)).alloc _).block w.heap.size (by simp) (fun h => h)).trans (heap_new w _)
  have hb2 : W.heap[g + 1]? = some (.cells #[.int .i64 K', .int .u32 (U' : Int), .int .i64 F', .int .u32 (S' : Int), .int .i64 Z', .int .i64 P', .int .i64 Y', .int .i64 X', .int .i64 Q', .int .i64 C', .slice rA' rn' rc', .slice dA' dn' dc'] 26 (0, 0)) := by
    have := heap_new (w.alloc (.cells #[.int .i64 K, .int .u32 (U : Int), .int .i64 F, .int .u32 (S : Int), .int .i64 Z, .int .i64 P, .int .i64 Y, .int .i64 X, .int .i64 Q, .int .i64 C, .slice rA rn rc, .slice dA dn dc] 26)) (.cells #[.int .i64 K', .int .u32 (U' : Int), .int .i64 F', .int .u32 (S' : Int), .int .i64 Z', .int .i64 P', .int .i64 Y', .int .i64 X', .int .i64 Q', .int .i64 C', .slice rA' rn' rc', .slice dA' dn' dc'] 26)
    rw [World.size_alloc, ← hg] at this
    rw [hW]; exact this
  have hf : Fr No w W := by rw [hW]; exact ((Fr.refl No w).alloc _).alloc _
  have HW := hid (And.intro hW (And.intro hg (And.intro hf (And.intro hb1 hb2))))
  clear hB1 hB2 hB3 eqR eqD ba bb hr hd hr' hd' hR hD hR' hD' hW hg hf hb1 hb2
  go_enter Try.func23, Try.ntmps23
  go_wp2_with fail
  rw [← HW.out.1, ← HW.out.2.1]
  have keepB : ∀ W1, Fr No W W1 → (W1.heap[g]? = some (.cells #[.int .i64 K, .int .u32 (U : Int), .int .i64 F, .int .u32 (S : Int), .int .i64 Z, .int .i64 P, .int .i64 Y, .int .i64 X, .int .i64 Q, .int .i64 C, .slice rA rn rc, .slice dA dn dc] 26 (0, 0)) ∧ W1.heap[g + 1]? = some (.cells #[.int .i64 K', .int .u32 (U' : Int), .int .i64 F', .int .u32 (S' : Int), .int .i64 Z', .int .i64 P', .int .i64 Y', .int .i64 X', .int .i64 Q', .int .i64 C', .slice rA' rn' rc', .slice dA' dn' dc'] 26 (0, 0))) := fun W1 hf =>
    ⟨(hf.block g (Array.getElem?_eq_some_iff.1 HW.out.2.2.2.1).1 (fun h => h)).trans HW.out.2.2.2.1, (hf.block (g + 1) (Array.getElem?_eq_some_iff.1 HW.out.2.2.2.2).1 (fun h => h)).trans HW.out.2.2.2.2⟩
  have HK := hid keepB
  clear keepB
  cases B1 with
  | false =>
    simp only [Bool.not_false] at hneq
    refine wp_region_held_drew (S := (fun W' => W'.heap[g]? = some (.cells #[.int .i64 K, .int .u32 (U : Int), .int .i64 F, .int .u32 (S : Int), .int .i64 Z, .int .i64 P, .int .i64 Y, .int .i64 X, .int .i64 Q, .int .i64 C, .slice rA rn rc, .slice dA dn dc] 26 (0, 0)) ∧ W'.heap[g + 1]? = some (.cells #[.int .i64 K', .int .u32 (U' : Int), .int .i64 F', .int .u32 (S' : Int), .int .i64 Z', .int .i64 P', .int .i64 Y', .int .i64 X', .int .i64 Q', .int .i64 C', .slice rA' rn' rc', .slice dA' dn' dc'] 26 (0, 0)))) (by kernel_rfl) (HK.out _ ((Fr.refl No W).drew)) (fun hHeld => ?_)
    refine takeD (i := 0) (d := some 6) (v := ?_) rfl rfl (by kernel_rfl) (by kernel_rfl) (by kernel_rfl) (fun _ _ _ h => h) (by rfl) ?_ (by assumption) ?_
    rotate_left
    · intro w' hSw
      obtain ⟨c0, c1, c2, c3, c4, c5, c6, c7, c8, c9, c10, c11⟩ := blk12 hSw.1
      obtain ⟨x0, x1, x2, x3, x4, x5, x6, x7, x8, x9, x10, x11⟩ := blk12 hSw.2
      clear hSw
      go_simp
      try with_reducible rfl
    try simp only [Act.put, List.setIfInBounds_toArray, List.set_cons_zero, List.set_cons_succ]
    refine takeD (i := 1) (d := some 7) (v := ?_) rfl rfl (by kernel_rfl) (by kernel_rfl) (by kernel_rfl) (fun _ _ _ h => h) (by rfl) ?_ (by assumption) ?_
    rotate_left
    · intro w' hSw
      obtain ⟨c0, c1, c2, c3, c4, c5, c6, c7, c8, c9, c10, c11⟩ := blk12 hSw.1
      obtain ⟨x0, x1, x2, x3, x4, x5, x6, x7, x8, x9, x10, x11⟩ := blk12 hSw.2
      clear hSw
      go_simp
      try with_reducible rfl
    try simp only [Act.put, List.setIfInBounds_toArray, List.set_cons_zero, List.set_cons_succ]
    refine takeD (i := 3) (d := some 9) (v := ?_) rfl rfl (by kernel_rfl) (by kernel_rfl) (by kernel_rfl) (fun _ _ _ h => h) (by rfl) ?_ (by assumption) ?_
    rotate_left
    · intro w' hSw
      obtain ⟨c0, c1, c2, c3, c4, c5, c6, c7, c8, c9, c10, c11⟩ := blk12 hSw.1
      obtain ⟨x0, x1, x2, x3, x4, x5, x6, x7, x8, x9, x10, x11⟩ := blk12 hSw.2
      clear hSw
      go_simp
      try with_reducible rfl
    try simp only [Act.put, List.setIfInBounds_toArray, List.set_cons_zero, List.set_cons_succ]
    refine takeD (i := 4) (d := some 10) (v := ?_) rfl rfl (by kernel_rfl) (by kernel_rfl) (by kernel_rfl) (fun _ _ _ h => h) (by rfl) ?_ (by assumption) ?_
    rotate_left
    · intro w' hSw
      obtain ⟨c0, c1, c2, c3, c4, c5, c6, c7, c8, c9, c10, c11⟩ := blk12 hSw.1
      obtain ⟨x0, x1, x2, x3, x4, x5, x6, x7, x8, x9, x10, x11⟩ := blk12 hSw.2
      clear hSw
      go_simp
      try with_reducible rfl
    try simp only [Act.put, List.setIfInBounds_toArray, List.set_cons_zero, List.set_cons_succ]
    refine oneD (i := 2) (by kernel_rfl) rfl (fun K hK => ?_)
    go_simp
    go_at_call 54
    refine (HA.out _).mono ?_
    rintro e w1 ⟨rfl, hf1⟩
    refine hK.out _ _ (HK.out w1 (((Fr.refl No W).drew).then hf1)) (fun hHeld => ?_)
    clear hK K
    try simp only [Act.put, List.setIfInBounds_toArray, List.set_cons_zero, List.set_cons_succ]
    refine oneD (i := 5) (by kernel_rfl) rfl (fun K hK => ?_)
    go_simp
    go_at_call 54
    refine (HA2.out _).mono ?_
    rintro e w2 ⟨rfl, hf2⟩
    refine hK.out _ _ (HK.out w2 ((((Fr.refl No W).drew).then hf1).then hf2)) (fun hHeld => ?_)
    clear hK K
    try simp only [Act.put, List.setIfInBounds_toArray, List.set_cons_zero, List.set_cons_succ]
    refine takeD (i := 6) (d := some 12) (v := ?_) rfl rfl (by kernel_rfl) (by kernel_rfl) (by kernel_rfl) (fun _ _ _ h => h) (by rfl) ?_ (by assumption) ?_
    rotate_left
    · intro w' hSw
      obtain ⟨c0, c1, c2, c3, c4, c5, c6, c7, c8, c9, c10, c11⟩ := blk12 hSw.1
      obtain ⟨x0, x1, x2, x3, x4, x5, x6, x7, x8, x9, x10, x11⟩ := blk12 hSw.2
      clear hSw
      go_simp
      try with_reducible rfl
    try simp only [Act.put, List.setIfInBounds_toArray, List.set_cons_zero, List.set_cons_succ]
    refine takeD (i := 7) (d := some 13) (v := ?_) rfl rfl (by kernel_rfl) (by kernel_rfl) (by kernel_rfl) (fun _ _ _ h => h) (by rfl) ?_ (by assumption) ?_
    rotate_left
    · intro w' hSw
      obtain ⟨c0, c1, c2, c3, c4, c5, c6, c7, c8, c9, c10, c11⟩ := blk12 hSw.1
      obtain ⟨x0, x1, x2, x3, x4, x5, x6, x7, x8, x9, x10, x11⟩ := blk12 hSw.2
      clear hSw
      go_simp
      try with_reducible rfl
    try simp only [Act.put, List.setIfInBounds_toArray, List.set_cons_zero, List.set_cons_succ]
    have HF2 := hid ((((Fr.refl No W).drew).then hf1).then hf2)
    clear hf1 hf2
    refine skipD (i := 8) (d := some 14) rfl rfl (by kernel_rfl) (by kernel_rfl) (by kernel_rfl) (fun _ _ _ h => h) (by rfl) (by assumption) ?_
    try simp only [Act.put, List.setIfInBounds_toArray, List.set_cons_zero, List.set_cons_succ]
    refine skipD (i := 9) (d := some 15) rfl rfl (by kernel_rfl) (by kernel_rfl) (by kernel_rfl) (fun _ _ _ h => h) (by rfl) (by assumption) ?_
    try simp only [Act.put, List.setIfInBounds_toArray, List.set_cons_zero, List.set_cons_succ]
    refine skipD (i := 10) (d := some 16) rfl rfl (by kernel_rfl) (by kernel_rfl) (by kernel_rfl) (fun _ _ _ h => h) (by rfl) (by assumption) ?_
    try simp only [Act.put, List.setIfInBounds_toArray, List.set_cons_zero, List.set_cons_succ]
    refine skipD (i := 11) (d := some 17) rfl rfl (by kernel_rfl) (by kernel_rfl) (by kernel_rfl) (fun _ _ _ h => h) (by rfl) (by assumption) ?_
    try simp only [Act.put, List.setIfInBounds_toArray, List.set_cons_zero, List.set_cons_succ]
    refine skipD (i := 12) (d := some 18) rfl rfl (by kernel_rfl) (by kernel_rfl) (by kernel_rfl) (fun _ _ _ h => h) (by rfl) (by assumption) ?_
    try simp only [Act.put, List.setIfInBounds_toArray, List.set_cons_zero, List.set_cons_succ]
    refine skipD (i := 13) (d := some 19) rfl rfl (by kernel_rfl) (by kernel_rfl) (by kernel_rfl) (fun _ _ _ h => h) (by rfl) (by assumption) ?_
    try simp only [Act.put, List.setIfInBounds_toArray, List.set_cons_zero, List.set_cons_succ]
    refine takeD (i := 14) (d := some 20) (v := ?_) rfl rfl (by kernel_rfl) (by kernel_rfl) (by kernel_rfl) (fun _ _ _ h => h) (by rfl) ?_ (by assumption) ?_
    rotate_left
    · intro w' hSw
      obtain ⟨c0, c1, c2, c3, c4, c5, c6, c7, c8, c9, c10, c11⟩ := blk12 hSw.1
      obtain ⟨x0, x1, x2, x3, x4, x5, x6, x7, x8, x9, x10, x11⟩ := blk12 hSw.2
      clear hSw
      go_simp
      try with_reducible rfl
    try simp only [Act.put, List.setIfInBounds_toArray, List.set_cons_zero, List.set_cons_succ]
    refine takeD (i := 15) (d := some 21) (v := ?_) rfl rfl (by kernel_rfl) (by kernel_rfl) (by kernel_rfl) (fun _ _ _ h => h) (by rfl) ?_ (by assumption) ?_
    rotate_left
    · intro w' hSw
      obtain ⟨c0, c1, c2, c3, c4, c5, c6, c7, c8, c9, c10, c11⟩ := blk12 hSw.1
      obtain ⟨x0, x1, x2, x3, x4, x5, x6, x7, x8, x9, x10, x11⟩ := blk12 hSw.2
      clear hSw
      go_simp
      try with_reducible rfl
    try simp only [Act.put, List.setIfInBounds_toArray, List.set_cons_zero, List.set_cons_succ]
    refine skipD (i := 16) (d := some 22) rfl rfl (by kernel_rfl) (by kernel_rfl) (by kernel_rfl) (fun _ _ _ h => h) (by rfl) (by assumption) ?_
    try simp only [Act.put, List.setIfInBounds_toArray, List.set_cons_zero, List.set_cons_succ]
    refine skipD (i := 17) (d := some 23) rfl rfl (by kernel_rfl) (by kernel_rfl) (by kernel_rfl) (fun _ _ _ h => h) (by rfl) (by assumption) ?_
    try simp only [Act.put, List.setIfInBounds_toArray, List.set_cons_zero, List.set_cons_succ]
    refine skipD (i := 18) (d := some 24) rfl rfl (by kernel_rfl) (by kernel_rfl) (by kernel_rfl) (fun _ _ _ h => h) (by rfl) (by assumption) ?_
    try simp only [Act.put, List.setIfInBounds_toArray, List.set_cons_zero, List.set_cons_succ]
    refine skipD (i := 19) (d := some 25) rfl rfl (by kernel_rfl) (by kernel_rfl) (by kernel_rfl) (fun _ _ _ h => h) (by rfl) (by assumption) ?_
    try simp only [Act.put, List.setIfInBounds_toArray, List.set_cons_zero, List.set_cons_succ]
    refine skipD (i := 20) (d := some 26) rfl rfl (by kernel_rfl) (by kernel_rfl) (by kernel_rfl) (fun _ _ _ h => h) (by rfl) (by assumption) ?_
    try simp only [Act.put, List.setIfInBounds_toArray, List.set_cons_zero, List.set_cons_succ]
    refine skipD (i := 21) (d := some 27) rfl rfl (by kernel_rfl) (by kernel_rfl) (by kernel_rfl) (fun _ _ _ h => h) (by rfl) (by assumption) ?_
    try simp only [Act.put, List.setIfInBounds_toArray, List.set_cons_zero, List.set_cons_succ]
    refine takeD (i := 22) (d := some 28) (v := ?_) rfl rfl (by kernel_rfl) (by kernel_rfl) (by kernel_rfl) (fun _ _ _ h => h) (by rfl) ?_ (by assumption) ?_
    rotate_left
    · intro w' hSw
      obtain ⟨c0, c1, c2, c3, c4, c5, c6, c7, c8, c9, c10, c11⟩ := blk12 hSw.1
      obtain ⟨x0, x1, x2, x3, x4, x5, x6, x7, x8, x9, x10, x11⟩ := blk12 hSw.2
      clear hSw
      go_simp
      try with_reducible rfl
    try simp only [Act.put, List.setIfInBounds_toArray, List.set_cons_zero, List.set_cons_succ]
    refine takeD (i := 23) (d := some 4) (v := ?_) rfl rfl (by kernel_rfl) (by kernel_rfl) (by kernel_rfl) (fun _ _ _ h => h) (by rfl) ?_ (by assumption) ?_
    rotate_left
    · intro w' hSw
      obtain ⟨c0, c1, c2, c3, c4, c5, c6, c7, c8, c9, c10, c11⟩ := blk12 hSw.1
      obtain ⟨x0, x1, x2, x3, x4, x5, x6, x7, x8, x9, x10, x11⟩ := blk12 hSw.2
      clear hSw
      go_simp
      try with_reducible rfl
    try simp only [Act.put, List.setIfInBounds_toArray, List.set_cons_zero, List.set_cons_succ]
    refine wpAnyH_done (by kernel_rfl) ?_ _
    clear hHeld
    go_wp2_with fail
    go_ret
    rw [HB.out]
    exact ⟨rfl, HW.out.2.2.1.then HF2.out⟩
  | true =>
    simp only [Bool.not_true] at hneq
    cases B2 with
    | false =>
      refine wp_region_held_drew (S := (fun W' => W'.heap[g]? = some (.cells #[.int .i64 K, .int .u32 (U : Int), .int .i64 F, .int .u32 (S : Int), .int .i64 Z, .int .i64 P, .int .i64 Y, .int .i64 X, .int .i64 Q, .int .i64 C, .slice rA rn rc, .slice dA dn dc] 26 (0, 0)) ∧ W'.heap[g + 1]? = some (.cells #[.int .i64 K', .int .u32 (U' : Int), .int .i64 F', .int .u32 (S' : Int), .int .i64 Z', .int .i64 P', .int .i64 Y', .int .i64 X', .int .i64 Q', .int .i64 C', .slice rA' rn' rc', .slice dA' dn' dc'] 26 (0, 0)))) (by kernel_rfl) (HK.out _ ((Fr.refl No W).drew)) (fun hHeld => ?_)
      refine takeD (i := 0) (d := some 6) (v := ?_) rfl rfl (by kernel_rfl) (by kernel_rfl) (by kernel_rfl) (fun _ _ _ h => h) (by rfl) ?_ (by assumption) ?_
      rotate_left
      · intro w' hSw
        obtain ⟨c0, c1, c2, c3, c4, c5, c6, c7, c8, c9, c10, c11⟩ := blk12 hSw.1
        obtain ⟨x0, x1, x2, x3, x4, x5, x6, x7, x8, x9, x10, x11⟩ := blk12 hSw.2
        clear hSw
        go_simp
        try with_reducible rfl
      try simp only [Act.put, List.setIfInBounds_toArray, List.set_cons_zero, List.set_cons_succ]
      refine takeD (i := 1) (d := some 7) (v := ?_) rfl rfl (by kernel_rfl) (by kernel_rfl) (by kernel_rfl) (fun _ _ _ h => h) (by rfl) ?_ (by assumption) ?_
      rotate_left
      · intro w' hSw
        obtain ⟨c0, c1, c2, c3, c4, c5, c6, c7, c8, c9, c10, c11⟩ := blk12 hSw.1
        obtain ⟨x0, x1, x2, x3, x4, x5, x6, x7, x8, x9, x10, x11⟩ := blk12 hSw.2
        clear hSw
        go_simp
        try with_reducible rfl
      try simp only [Act.put, List.setIfInBounds_toArray, List.set_cons_zero, List.set_cons_succ]
      refine takeD (i := 3) (d := some 9) (v := ?_) rfl rfl (by kernel_rfl) (by kernel_rfl) (by kernel_rfl) (fun _ _ _ h => h) (by rfl) ?_ (by assumption) ?_
      rotate_left
      · intro w' hSw
        obtain ⟨c0, c1, c2, c3, c4, c5, c6, c7, c8, c9, c10, c11⟩ := blk12 hSw.1
        obtain ⟨x0, x1, x2, x3, x4, x5, x6, x7, x8, x9, x10, x11⟩ := blk12 hSw.2
        clear hSw
        go_simp
        try with_reducible rfl
      try simp only [Act.put, List.setIfInBounds_toArray, List.set_cons_zero, List.set_cons_succ]
      refine takeD (i := 4) (d := some 10) (v := ?_) rfl rfl (by kernel_rfl) (by kernel_rfl) (by kernel_rfl) (fun _ _ _ h => h) (by rfl) ?_ (by assumption) ?_
      rotate_left
      · intro w' hSw
        obtain ⟨c0, c1, c2, c3, c4, c5, c6, c7, c8, c9, c10, c11⟩ := blk12 hSw.1
        obtain ⟨x0, x1, x2, x3, x4, x5, x6, x7, x8, x9, x10, x11⟩ := blk12 hSw.2
        clear hSw
        go_simp
        try with_reducible rfl
      try simp only [Act.put, List.setIfInBounds_toArray, List.set_cons_zero, List.set_cons_succ]
      refine oneD (i := 2) (by kernel_rfl) rfl (fun K hK => ?_)
      go_simp
      go_at_call 54
      refine (HA.out _).mono ?_
      rintro e w1 ⟨rfl, hf1⟩
      refine hK.out _ _ (HK.out w1 (((Fr.refl No W).drew).then hf1)) (fun hHeld => ?_)
      clear hK K
      try simp only [Act.put, List.setIfInBounds_toArray, List.set_cons_zero, List.set_cons_succ]
      refine oneD (i := 5) (by kernel_rfl) rfl (fun K hK => ?_)
      go_simp
      go_at_call 54
      refine (HA2.out _).mono ?_
      rintro e w2 ⟨rfl, hf2⟩
      refine hK.out _ _ (HK.out w2 ((((Fr.refl No W).drew).then hf1).then hf2)) (fun hHeld => ?_)
      clear hK K
      try simp only [Act.put, List.setIfInBounds_toArray, List.set_cons_zero, List.set_cons_succ]
      refine takeD (i := 6) (d := some 12) (v := ?_) rfl rfl (by kernel_rfl) (by kernel_rfl) (by kernel_rfl) (fun _ _ _ h => h) (by rfl) ?_ (by assumption) ?_
      rotate_left
      · intro w' hSw
        obtain ⟨c0, c1, c2, c3, c4, c5, c6, c7, c8, c9, c10, c11⟩ := blk12 hSw.1
        obtain ⟨x0, x1, x2, x3, x4, x5, x6, x7, x8, x9, x10, x11⟩ := blk12 hSw.2
        clear hSw
        go_simp
        try with_reducible rfl
      try simp only [Act.put, List.setIfInBounds_toArray, List.set_cons_zero, List.set_cons_succ]
      refine takeD (i := 7) (d := some 13) (v := ?_) rfl rfl (by kernel_rfl) (by kernel_rfl) (by kernel_rfl) (fun _ _ _ h => h) (by rfl) ?_ (by assumption) ?_
      rotate_left
      · intro w' hSw
        obtain ⟨c0, c1, c2, c3, c4, c5, c6, c7, c8, c9, c10, c11⟩ := blk12 hSw.1
        obtain ⟨x0, x1, x2, x3, x4, x5, x6, x7, x8, x9, x10, x11⟩ := blk12 hSw.2
        clear hSw
        go_simp
        try with_reducible rfl
      try simp only [Act.put, List.setIfInBounds_toArray, List.set_cons_zero, List.set_cons_succ]
      have HF2 := hid ((((Fr.refl No W).drew).then hf1).then hf2)
      clear hf1 hf2
      refine takeD (i := 8) (d := some 14) (v := ?_) rfl rfl (by kernel_rfl) (by kernel_rfl) (by kernel_rfl) (fun _ _ _ h => h) (by rfl) ?_ (by assumption) ?_
      rotate_left
      · intro w' hSw
        obtain ⟨c0, c1, c2, c3, c4, c5, c6, c7, c8, c9, c10, c11⟩ := blk12 hSw.1
        obtain ⟨x0, x1, x2, x3, x4, x5, x6, x7, x8, x9, x10, x11⟩ := blk12 hSw.2
        clear hSw
        go_simp
        try with_reducible rfl
      try simp only [Act.put, List.setIfInBounds_toArray, List.set_cons_zero, List.set_cons_succ]
      refine takeD (i := 9) (d := some 15) (v := ?_) rfl rfl (by kernel_rfl) (by kernel_rfl) (by kernel_rfl) (fun _ _ _ h => h) (by rfl) ?_ (by assumption) ?_
      rotate_left
      · intro w' hSw
        obtain ⟨c0, c1, c2, c3, c4, c5, c6, c7, c8, c9, c10, c11⟩ := blk12 hSw.1
        obtain ⟨x0, x1, x2, x3, x4, x5, x6, x7, x8, x9, x10, x11⟩ := blk12 hSw.2
        clear hSw
        go_simp
        try with_reducible rfl
      try simp only [Act.put, List.setIfInBounds_toArray, List.set_cons_zero, List.set_cons_succ]
      refine takeD (i := 10) (d := some 16) (v := ?_) rfl rfl (by kernel_rfl) (by kernel_rfl) (by kernel_rfl) (fun _ _ _ h => h) (by rfl) ?_ (by assumption) ?_
      rotate_left
      · intro w' hSw
        obtain ⟨c0, c1, c2, c3, c4, c5, c6, c7, c8, c9, c10, c11⟩ := blk12 hSw.1
        obtain ⟨x0, x1, x2, x3, x4, x5, x6, x7, x8, x9, x10, x11⟩ := blk12 hSw.2
        clear hSw
        go_simp
        try with_reducible rfl
      try simp only [Act.put, List.setIfInBounds_toArray, List.set_cons_zero, List.set_cons_succ]
      refine takeD (i := 11) (d := some 17) (v := ?_) rfl rfl (by kernel_rfl) (by kernel_rfl) (by kernel_rfl) (fun _ _ _ h => h) (by rfl) ?_ (by assumption) ?_
      rotate_left
      · intro w' hSw
        obtain ⟨c0, c1, c2, c3, c4, c5, c6, c7, c8, c9, c10, c11⟩ := blk12 hSw.1
        obtain ⟨x0, x1, x2, x3, x4, x5, x6, x7, x8, x9, x10, x11⟩ := blk12 hSw.2
        clear hSw
        go_simp
        try with_reducible rfl
      try simp only [Act.put, List.setIfInBounds_toArray, List.set_cons_zero, List.set_cons_succ]
      refine oneD (i := 12) (by kernel_rfl) rfl (fun K hK => ?_)
      go_simp
      go_at_call 55
      refine (HQ.out.1 _ (HM.out.1.fr (HW.out.2.2.1.then HF2.out) (fun _ _ h => h)) (HM.out.2.2.1.fr (HW.out.2.2.1.then HF2.out) (fun _ _ h => h))).mono ?_
      rintro e w3 ⟨rfl, q3, rfl⟩
      refine hK.out _ _ (HK.out _ (HF2.out.drewN q3)) (fun hHeld => ?_)
      clear hK K
      try simp only [Act.put, List.setIfInBounds_toArray, List.set_cons_zero, List.set_cons_succ]
      refine takeD (i := 13) (d := some 19) (v := ?_) rfl rfl (by kernel_rfl) (by kernel_rfl) (by kernel_rfl) (fun _ _ _ h => h) (by rfl) ?_ (by assumption) ?_
      rotate_left
      · intro w' hSw
        obtain ⟨c0, c1, c2, c3, c4, c5, c6, c7, c8, c9, c10, c11⟩ := blk12 hSw.1
        obtain ⟨x0, x1, x2, x3, x4, x5, x6, x7, x8, x9, x10, x11⟩ := blk12 hSw.2
        clear hSw
        go_simp
        try with_reducible rfl
      try simp only [Act.put, List.setIfInBounds_toArray, List.set_cons_zero, List.set_cons_succ]
      refine takeD (i := 14) (d := some 20) (v := ?_) rfl rfl (by kernel_rfl) (by kernel_rfl) (by kernel_rfl) (fun _ _ _ h => h) (by rfl) ?_ (by assumption) ?_
      rotate_left
      · intro w' hSw
        obtain ⟨c0, c1, c2, c3, c4, c5, c6, c7, c8, c9, c10, c11⟩ := blk12 hSw.1
        obtain ⟨x0, x1, x2, x3, x4, x5, x6, x7, x8, x9, x10, x11⟩ := blk12 hSw.2
        clear hSw
        go_simp
        try with_reducible rfl
      try simp only [Act.put, List.setIfInBounds_toArray, List.set_cons_zero, List.set_cons_succ]
      refine takeD (i := 15) (d := some 21) (v := ?_) rfl rfl (by kernel_rfl) (by kernel_rfl) (by kernel_rfl) (fun _ _ _ h => h) (by rfl) ?_ (by assumption) ?_
      rotate_left
      · intro w' hSw
        obtain ⟨c0, c1, c2, c3, c4, c5, c6, c7, c8, c9, c10, c11⟩ := blk12 hSw.1
        obtain ⟨x0, x1, x2, x3, x4, x5, x6, x7, x8, x9, x10, x11⟩ := blk12 hSw.2
        clear hSw
        go_simp
        try with_reducible rfl
      try simp only [Act.put, List.setIfInBounds_toArray, List.set_cons_zero, List.set_cons_succ]
      refine skipD (i := 16) (d := some 22) rfl rfl (by kernel_rfl) (by kernel_rfl) (by kernel_rfl) (fun _ _ _ h => h) (by rfl) (by assumption) ?_
      try simp only [Act.put, List.setIfInBounds_toArray, List.set_cons_zero, List.set_cons_succ]
      refine skipD (i := 17) (d := some 23) rfl rfl (by kernel_rfl) (by kernel_rfl) (by kernel_rfl) (fun _ _ _ h => h) (by rfl) (by assumption) ?_
      try simp only [Act.put, List.setIfInBounds_toArray, List.set_cons_zero, List.set_cons_succ]
      refine skipD (i := 18) (d := some 24) rfl rfl (by kernel_rfl) (by kernel_rfl) (by kernel_rfl) (fun _ _ _ h => h) (by rfl) (by assumption) ?_
      try simp only [Act.put, List.setIfInBounds_toArray, List.set_cons_zero, List.set_cons_succ]
      refine skipD (i := 19) (d := some 25) rfl rfl (by kernel_rfl) (by kernel_rfl) (by kernel_rfl) (fun _ _ _ h => h) (by rfl) (by assumption) ?_
      try simp only [Act.put, List.setIfInBounds_toArray, List.set_cons_zero, List.set_cons_succ]
      refine skipD (i := 20) (d := some 26) rfl rfl (by kernel_rfl) (by kernel_rfl) (by kernel_rfl) (fun _ _ _ h => h) (by rfl) (by assumption) ?_
      try simp only [Act.put, List.setIfInBounds_toArray, List.set_cons_zero, List.set_cons_succ]
      refine skipD (i := 21) (d := some 27) rfl rfl (by kernel_rfl) (by kernel_rfl) (by kernel_rfl) (fun _ _ _ h => h) (by rfl) (by assumption) ?_
      try simp only [Act.put, List.setIfInBounds_toArray, List.set_cons_zero, List.set_cons_succ]
      refine takeD (i := 22) (d := some 28) (v := ?_) rfl rfl (by kernel_rfl) (by kernel_rfl) (by kernel_rfl) (fun _ _ _ h => h) (by rfl) ?_ (by assumption) ?_
      rotate_left
      · intro w' hSw
        obtain ⟨c0, c1, c2, c3, c4, c5, c6, c7, c8, c9, c10, c11⟩ := blk12 hSw.1
        obtain ⟨x0, x1, x2, x3, x4, x5, x6, x7, x8, x9, x10, x11⟩ := blk12 hSw.2
        clear hSw
        go_simp
        try with_reducible rfl
      try simp only [Act.put, List.setIfInBounds_toArray, List.set_cons_zero, List.set_cons_succ]
      refine takeD (i := 23) (d := some 4) (v := ?_) rfl rfl (by kernel_rfl) (by kernel_rfl) (by kernel_rfl) (fun _ _ _ h => h) (by rfl) ?_ (by assumption) ?_
      rotate_left
      · intro w' hSw
        obtain ⟨c0, c1, c2, c3, c4, c5, c6, c7, c8, c9, c10, c11⟩ := blk12 hSw.1
        obtain ⟨x0, x1, x2, x3, x4, x5, x6, x7, x8, x9, x10, x11⟩ := blk12 hSw.2
        clear hSw
        go_simp
        try with_reducible rfl
      try simp only [Act.put, List.setIfInBounds_toArray, List.set_cons_zero, List.set_cons_succ]
      refine wpAnyH_done (by kernel_rfl) ?_ _
      clear hHeld
      go_wp2_with fail
      go_ret
      rw [HB.out]
      exact ⟨rfl, HW.out.2.2.1.then (HF2.out.drewN q3)⟩
    | true =>
      refine wp_region_held_drew (S := (fun W' => W'.heap[g]? = some (.cells #[.int .i64 K, .int .u32 (U : Int), .int .i64 F, .int .u32 (S : Int), .int .i64 Z, .int .i64 P, .int .i64 Y, .int .i64 X, .int .i64 Q, .int .i64 C, .slice rA rn rc, .slice dA dn dc] 26 (0, 0)) ∧ W'.heap[g + 1]? = some (.cells #[.int .i64 K', .int .u32 (U' : Int), .int .i64 F', .int .u32 (S' : Int), .int .i64 Z', .int .i64 P', .int .i64 Y', .int .i64 X', .int .i64 Q', .int .i64 C', .slice rA' rn' rc', .slice dA' dn' dc'] 26 (0, 0)))) (by kernel_rfl) (HK.out _ ((Fr.refl No W).drew)) (fun hHeld => ?_)
      refine takeD (i := 0) (d := some 6) (v := ?_) rfl rfl (by kernel_rfl) (by kernel_rfl) (by kernel_rfl) (fun _ _ _ h => h) (by rfl) ?_ (by assumption) ?_
      rotate_left
      · intro w' hSw
        obtain ⟨c0, c1, c2, c3, c4, c5, c6, c7, c8, c9, c10, c11⟩ := blk12 hSw.1
        obtain ⟨x0, x1, x2, x3, x4, x5, x6, x7, x8, x9, x10, x11⟩ := blk12 hSw.2
        clear hSw
        go_simp
        try with_reducible rfl
      try simp only [Act.put, List.setIfInBounds_toArray, List.set_cons_zero, List.set_cons_succ]
      refine takeD (i := 1) (d := some 7) (v := ?_) rfl rfl (by kernel_rfl) (by kernel_rfl) (by kernel_rfl) (fun _ _ _ h => h) (by rfl) ?_ (by assumption) ?_
      rotate_left
      · intro w' hSw
        obtain ⟨c0, c1, c2, c3, c4, c5, c6, c7, c8, c9, c10, c11⟩ := blk12 hSw.1
        obtain ⟨x0, x1, x2, x3, x4, x5, x6, x7, x8, x9, x10, x11⟩ := blk12 hSw.2
        clear hSw
        go_simp
        try with_reducible rfl
      try simp only [Act.put, List.setIfInBounds_toArray, List.set_cons_zero, List.set_cons_succ]
      refine takeD (i := 3) (d := some 9) (v := ?_) rfl rfl (by kernel_rfl) (by kernel_rfl) (by kernel_rfl) (fun _ _ _ h => h) (by rfl) ?_ (by assumption) ?_
      rotate_left
      · intro w' hSw
        obtain ⟨c0, c1, c2, c3, c4, c5, c6, c7, c8, c9, c10, c11⟩ := blk12 hSw.1
        obtain ⟨x0, x1, x2, x3, x4, x5, x6, x7, x8, x9, x10, x11⟩ := blk12 hSw.2
        clear hSw
        go_simp
        try with_reducible rfl
      try simp only [Act.put, List.setIfInBounds_toArray, List.set_cons_zero, List.set_cons_succ]
      refine takeD (i := 4) (d := some 10) (v := ?_) rfl rfl (by kernel_rfl) (by kernel_rfl) (by kernel_rfl) (fun _ _ _ h => h) (by rfl) ?_ (by assumption) ?_
      rotate_left
      · intro w' hSw
        obtain ⟨c0, c1, c2, c3, c4, c5, c6, c7, c8, c9, c10, c11⟩ := blk12 hSw.1
        obtain ⟨x0, x1, x2, x3, x4, x5, x6, x7, x8, x9, x10, x11⟩ := blk12 hSw.2
        clear hSw
        go_simp
        try with_reducible rfl
      try simp only [Act.put, List.setIfInBounds_toArray, List.set_cons_zero, List.set_cons_succ]
      refine oneD (i := 2) (by kernel_rfl) rfl (fun K hK => ?_)
      go_simp
      go_at_call 54
      refine (HA.out _).mono ?_
      rintro e w1 ⟨rfl, hf1⟩
      refine hK.out _ _ (HK.out w1 (((Fr.refl No W).drew).then hf1)) (fun hHeld => ?_)
      clear hK K
      try simp only [Act.put, List.setIfInBounds_toArray, List.set_cons_zero, List.set_cons_succ]
      refine oneD (i := 5) (by kernel_rfl) rfl (fun K hK => ?_)
      go_simp
      go_at_call 54
      refine (HA2.out _).mono ?_
      rintro e w2 ⟨rfl, hf2⟩
      refine hK.out _ _ (HK.out w2 ((((Fr.refl No W).drew).then hf1).then hf2)) (fun hHeld => ?_)
      clear hK K
      try simp only [Act.put, List.setIfInBounds_toArray, List.set_cons_zero, List.set_cons_succ]
      refine takeD (i := 6) (d := some 12) (v := ?_) rfl rfl (by kernel_rfl) (by kernel_rfl) (by kernel_rfl) (fun _ _ _ h => h) (by rfl) ?_ (by assumption) ?_
      rotate_left
      · intro w' hSw
        obtain ⟨c0, c1, c2, c3, c4, c5, c6, c7, c8, c9, c10, c11⟩ := blk12 hSw.1
        obtain ⟨x0, x1, x2, x3, x4, x5, x6, x7, x8, x9, x10, x11⟩ := blk12 hSw.2
        clear hSw
        go_simp
        try with_reducible rfl
      try simp only [Act.put, List.setIfInBounds_toArray, List.set_cons_zero, List.set_cons_succ]
      refine takeD (i := 7) (d := some 13) (v := ?_) rfl rfl (by kernel_rfl) (by kernel_rfl) (by kernel_rfl) (fun _ _ _ h => h) (by rfl) ?_ (by assumption) ?_
      rotate_left
      · intro w' hSw
        obtain ⟨c0, c1, c2, c3, c4, c5, c6, c7, c8, c9, c10, c11⟩ := blk12 hSw.1
        obtain ⟨x0, x1, x2, x3, x4, x5, x6, x7, x8, x9, x10, x11⟩ := blk12 hSw.2
        clear hSw
        go_simp
        try with_reducible rfl
      try simp only [Act.put, List.setIfInBounds_toArray, List.set_cons_zero, List.set_cons_succ]
      have HF2 := hid ((((Fr.refl No W).drew).then hf1).then hf2)
      clear hf1 hf2
      refine takeD (i := 8) (d := some 14) (v := ?_) rfl rfl (by kernel_rfl) (by kernel_rfl) (by kernel_rfl) (fun _ _ _ h => h) (by rfl) ?_ (by assumption) ?_
      rotate_left
      · intro w' hSw
        obtain ⟨c0, c1, c2, c3, c4, c5, c6, c7, c8, c9, c10, c11⟩ := blk12 hSw.1
        obtain ⟨x0, x1, x2, x3, x4, x5, x6, x7, x8, x9, x10, x11⟩ := blk12 hSw.2
        clear hSw
        go_simp
        try with_reducible rfl
      try simp only [Act.put, List.setIfInBounds_toArray, List.set_cons_zero, List.set_cons_succ]
      refine takeD (i := 9) (d := some 15) (v := ?_) rfl rfl (by kernel_rfl) (by kernel_rfl) (by kernel_rfl) (fun _ _ _ h => h) (by rfl) ?_ (by assumption) ?_
      rotate_left
      · intro w' hSw
        obtain ⟨c0, c1, c2, c3, c4, c5, c6, c7, c8, c9, c10, c11⟩ := blk12 hSw.1
        obtain ⟨x0, x1, x2, x3, x4, x5, x6, x7, x8, x9, x10, x11⟩ := blk12 hSw.2
        clear hSw
        go_simp
        try with_reducible rfl
      try simp only [Act.put, List.setIfInBounds_toArray, List.set_cons_zero, List.set_cons_succ]
      refine takeD (i := 10) (d := some 16) (v := ?_) rfl rfl (by kernel_rfl) (by kernel_rfl) (by kernel_rfl) (fun _ _ _ h => h) (by rfl) ?_ (by assumption) ?_
      rotate_left
      · intro w' hSw
        obtain ⟨c0, c1, c2, c3, c4, c5, c6, c7, c8, c9, c10, c11⟩ := blk12 hSw.1
        obtain ⟨x0, x1, x2, x3, x4, x5, x6, x7, x8, x9, x10, x11⟩ := blk12 hSw.2
        clear hSw
        go_simp
        try with_reducible rfl
      try simp only [Act.put, List.setIfInBounds_toArray, List.set_cons_zero, List.set_cons_succ]
      refine takeD (i := 11) (d := some 17) (v := ?_) rfl rfl (by kernel_rfl) (by kernel_rfl) (by kernel_rfl) (fun _ _ _ h => h) (by rfl) ?_ (by assumption) ?_
      rotate_left
      · intro w' hSw
        obtain ⟨c0, c1, c2, c3, c4, c5, c6, c7, c8, c9, c10, c11⟩ := blk12 hSw.1
        obtain ⟨x0, x1, x2, x3, x4, x5, x6, x7, x8, x9, x10, x11⟩ := blk12 hSw.2
        clear hSw
        go_simp
        try with_reducible rfl
      try simp only [Act.put, List.setIfInBounds_toArray, List.set_cons_zero, List.set_cons_succ]
      refine oneD (i := 12) (by kernel_rfl) rfl (fun K hK => ?_)
      go_simp
      go_at_call 55
      refine (HQ.out.1 _ (HM.out.1.fr (HW.out.2.2.1.then HF2.out) (fun _ _ h => h)) (HM.out.2.2.1.fr (HW.out.2.2.1.then HF2.out) (fun _ _ h => h))).mono ?_
      rintro e w3 ⟨rfl, q3, rfl⟩
      refine hK.out _ _ (HK.out _ (HF2.out.drewN q3)) (fun hHeld => ?_)
      clear hK K
      try simp only [Act.put, List.setIfInBounds_toArray, List.set_cons_zero, List.set_cons_succ]
      refine takeD (i := 13) (d := some 19) (v := ?_) rfl rfl (by kernel_rfl) (by kernel_rfl) (by kernel_rfl) (fun _ _ _ h => h) (by rfl) ?_ (by assumption) ?_
      rotate_left
      · intro w' hSw
        obtain ⟨c0, c1, c2, c3, c4, c5, c6, c7, c8, c9, c10, c11⟩ := blk12 hSw.1
        obtain ⟨x0, x1, x2, x3, x4, x5, x6, x7, x8, x9, x10, x11⟩ := blk12 hSw.2
        clear hSw
        go_simp
        try with_reducible rfl
      try simp only [Act.put, List.setIfInBounds_toArray, List.set_cons_zero, List.set_cons_succ]
      refine takeD (i := 14) (d := some 20) (v := ?_) rfl rfl (by kernel_rfl) (by kernel_rfl) (by kernel_rfl) (fun _ _ _ h => h) (by rfl) ?_ (by assumption) ?_
      rotate_left
      · intro w' hSw
        obtain ⟨c0, c1, c2, c3, c4, c5, c6, c7, c8, c9, c10, c11⟩ := blk12 hSw.1
        obtain ⟨x0, x1, x2, x3, x4, x5, x6, x7, x8, x9, x10, x11⟩ := blk12 hSw.2
        clear hSw
        go_simp
        try with_reducible rfl
      try simp only [Act.put, List.setIfInBounds_toArray, List.set_cons_zero, List.set_cons_succ]
      refine takeD (i := 15) (d := some 21) (v := ?_) rfl rfl (by kernel_rfl) (by kernel_rfl) (by kernel_rfl) (fun _ _ _ h => h) (by rfl) ?_ (by assumption) ?_
      rotate_left
      · intro w' hSw
        obtain ⟨c0, c1, c2, c3, c4, c5, c6, c7, c8, c9, c10, c11⟩ := blk12 hSw.1
        obtain ⟨x0, x1, x2, x3, x4, x5, x6, x7, x8, x9, x10, x11⟩ := blk12 hSw.2
        clear hSw
        go_simp
        try with_reducible rfl
      try simp only [Act.put, List.setIfInBounds_toArray, List.set_cons_zero, List.set_cons_succ]
      refine takeD (i := 16) (d := some 22) (v := ?_) rfl rfl (by kernel_rfl) (by kernel_rfl) (by kernel_rfl) (fun _ _ _ h => h) (by rfl) ?_ (by assumption) ?_
      rotate_left
      · intro w' hSw
        obtain ⟨c0, c1, c2, c3, c4, c5, c6, c7, c8, c9, c10, c11⟩ := blk12 hSw.1
        obtain ⟨x0, x1, x2, x3, x4, x5, x6, x7, x8, x9, x10, x11⟩ := blk12 hSw.2
        clear hSw
        go_simp
        try with_reducible rfl
      try simp only [Act.put, List.setIfInBounds_toArray, List.set_cons_zero, List.set_cons_succ]
      refine takeD (i := 17) (d := some 23) (v := ?_) rfl rfl (by kernel_rfl) (by kernel_rfl) (by kernel_rfl) (fun _ _ _ h => h) (by rfl) ?_ (by assumption) ?_
      rotate_left
      · intro w' hSw
        obtain ⟨c0, c1, c2, c3, c4, c5, c6, c7, c8, c9, c10, c11⟩ := blk12 hSw.1
        obtain ⟨x0, x1, x2, x3, x4, x5, x6, x7, x8, x9, x10, x11⟩ := blk12 hSw.2
        clear hSw
        go_simp
        try with_reducible rfl
      try simp only [Act.put, List.setIfInBounds_toArray, List.set_cons_zero, List.set_cons_succ]
      refine takeD (i := 18) (d := some 24) (v := ?_) rfl rfl (by kernel_rfl) (by kernel_rfl) (by kernel_rfl) (fun _ _ _ h => h) (by rfl) ?_ (by assumption) ?_
      rotate_left
      · intro w' hSw
        obtain ⟨c0, c1, c2, c3, c4, c5, c6, c7, c8, c9, c10, c11⟩ := blk12 hSw.1
        obtain ⟨x0, x1, x2, x3, x4, x5, x6, x7, x8, x9, x10, x11⟩ := blk12 hSw.2
        clear hSw
        go_simp
        try with_reducible rfl
      try simp only [Act.put, List.setIfInBounds_toArray, List.set_cons_zero, List.set_cons_succ]
      refine takeD (i := 19) (d := some 25) (v := ?_) rfl rfl (by kernel_rfl) (by kernel_rfl) (by kernel_rfl) (fun _ _ _ h => h) (by rfl) ?_ (by assumption) ?_
      rotate_left
      · intro w' hSw
        obtain ⟨c0, c1, c2, c3, c4, c5, c6, c7, c8, c9, c10, c11⟩ := blk12 hSw.1
        obtain ⟨x0, x1, x2, x3, x4, x5, x6, x7, x8, x9, x10, x11⟩ := blk12 hSw.2
        clear hSw
        go_simp
        try with_reducible rfl
      try simp only [Act.put, List.setIfInBounds_toArray, List.set_cons_zero, List.set_cons_succ]
      refine oneD (i := 20) (by kernel_rfl) rfl (fun K hK => ?_)
      go_simp
      go_at_call 56
      refine (HQ.out.2 _ (HM.out.2.1.fr0 (HW.out.2.2.1.then (HF2.out.drewN q3))) (HM.out.2.2.2.fr0 (HW.out.2.2.1.then (HF2.out.drewN q3)))).mono ?_
      rintro e w4 ⟨rfl, q4, rfl⟩
      refine hK.out _ _ (HK.out _ ((HF2.out.drewN q3).drewN q4)) (fun hHeld => ?_)
      clear hK K
      try simp only [Act.put, List.setIfInBounds_toArray, List.set_cons_zero, List.set_cons_succ]
      refine takeD (i := 21) (d := some 27) (v := ?_) rfl rfl (by kernel_rfl) (by kernel_rfl) (by kernel_rfl) (fun _ _ _ h => h) (by rfl) ?_ (by assumption) ?_
      rotate_left
      · intro w' hSw
        obtain ⟨c0, c1, c2, c3, c4, c5, c6, c7, c8, c9, c10, c11⟩ := blk12 hSw.1
        obtain ⟨x0, x1, x2, x3, x4, x5, x6, x7, x8, x9, x10, x11⟩ := blk12 hSw.2
        clear hSw
        go_simp
        try with_reducible rfl
      try simp only [Act.put, List.setIfInBounds_toArray, List.set_cons_zero, List.set_cons_succ]
      refine takeD (i := 22) (d := some 28) (v := ?_) rfl rfl (by kernel_rfl) (by kernel_rfl) (by kernel_rfl) (fun _ _ _ h => h) (by rfl) ?_ (by assumption) ?_
      rotate_left
      · intro w' hSw
        obtain ⟨c0, c1, c2, c3, c4, c5, c6, c7, c8, c9, c10, c11⟩ := blk12 hSw.1
        obtain ⟨x0, x1, x2, x3, x4, x5, x6, x7, x8, x9, x10, x11⟩ := blk12 hSw.2
        clear hSw
        go_simp
        try with_reducible rfl
      try simp only [Act.put, List.setIfInBounds_toArray, List.set_cons_zero, List.set_cons_succ]
      refine takeD (i := 23) (d := some 4) (v := ?_) rfl rfl (by kernel_rfl) (by kernel_rfl) (by kernel_rfl) (fun _ _ _ h => h) (by rfl) ?_ (by assumption) ?_
      rotate_left
      · intro w' hSw
        obtain ⟨c0, c1, c2, c3, c4, c5, c6, c7, c8, c9, c10, c11⟩ := blk12 hSw.1
        obtain ⟨x0, x1, x2, x3, x4, x5, x6, x7, x8, x9, x10, x11⟩ := blk12 hSw.2
        clear hSw
        go_simp
        try with_reducible rfl
      try simp only [Act.put, List.setIfInBounds_toArray, List.set_cons_zero, List.set_cons_succ]
      refine wpAnyH_done (by kernel_rfl) ?_ _
      clear hHeld
      go_wp2_with fail
      go_ret
      rw [HB.out]
      exact ⟨rfl, HW.out.2.2.1.then ((HF2.out.drewN q3).drewN q4)⟩
end Go.Proofs.Ytamkfjbdcjkchaa

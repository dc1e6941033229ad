/- The document's Same of messages. -/
import Derived.Test.YtamkfjbdcjkchaaSegS
import Derived.Test.YtamkfjbdcjkchaaGrp
import Derived.Deep.DeepCutAuto
namespace Go.Proofs.Ytamkfjbdcjkchaa
open Go.RowKit Go.Proofs.HK
set_option linter.unusedVariables false
set_option linter.unusedSimpArgs false
attribute [local go_sem] max2_int min2_int max_two min_two
theorem ne_all (K : Int) (U : Nat) (F : Int) (S : Nat) (Z P Y X Q C : Int) (rn : Nat) (D : List UInt8) (K' : Int) (U' : Nat) (F' : Int) (S' : Nat) (Z' P' Y' X' Q' C' : Int) (rn' : Nat) (D' : List UInt8) : ((((((((((((K != K') || ((U : Int) != (U' : Int))) || (F != F')) || ((S : Int) != (S' : Int))) || (Z != Z')) || (P != P')) || (Y != Y')) || (X != X')) || (Q != Q')) || (C != C')) || ((rn : Int) != (rn' : Int))) || ((mkS D).toList != (mkS D').toList)) = !decide (K = K' ∧ U = U' ∧ F = F' ∧ S = S' ∧ Z = Z' ∧ P = P' ∧ Y = Y' ∧ X = X' ∧ Q = Q' ∧ C = C' ∧ rn = rn' ∧ D = D') := by
  rw [mkS_toList, mkS_toList]
  by_cases h : K = K' ∧ U = U' ∧ F = F' ∧ S = S' ∧ Z = Z' ∧ P = P' ∧ Y = Y' ∧ X = X' ∧ Q = Q' ∧ C = C' ∧ rn = rn' ∧ D = D'
  · rw [decide_eq_true h]
    obtain ⟨e0, e1, e2, e3, e4, e5, e6, e7, e8, e9, e10, e11⟩ := h
    subst e0 e1 e2 e3 e4 e5 e6 e7 e8 e9 e10 e11
    simp
  · rw [decide_eq_false h]
    refine Classical.byContradiction fun hc => h ?_
    simp [and_assoc] at hc
    obtain ⟨e0, e1, e2, e3, e4, e5, e6, e7, e8, e9, e10, e11⟩ := hc
    exact ⟨e0, by omega, e2, by omega, e4, e5, e6, e7, e8, e9, by omega, e11⟩
set_option maxRecDepth 100000 in
set_option maxHeartbeats 6400000 in
theorem refSame_calls (K : Int) (U : Nat) (F : Int) (S : Nat) (Z P Y X Q C : Int) (R : List (Int × Int)) (D : List UInt8) (rA dA : Option Addr) (rn rc dn dc : Nat) (K' : Int) (U' : Nat) (F' : Int) (S' : Nat) (Z' P' Y' X' Q' C' : Int) (R' : List (Int × Int)) (D' : List UInt8) (rA' dA' : Option Addr) (rn' rc' dn' dc' : Nat) (w : World)
    (hR : R.length = rn) (hD : D.length = dn) (hr : Cells w rA (rngC R)) (hd : Rd B w dA D) (hR' : R'.length = rn') (hD' : D'.length = dn') (hr' : Cells w rA' (rngC R')) (hd' : Rd B w dA' D') (hl : rn ≤ 140737488355328) :
    Calls Try.prog 12 #[.agg #[.int .i64 K, .int .u32 (U : Int), .int .i64 F, .int .u32 (S : Int), .int .i64 Z, .int .i64 P, .int .i64 Y, .int .i64 X, .int .i64 Q, .int .i64 C, .slice rA rn rc, .slice dA dn dc], .agg #[.int .i64 K', .int .u32 (U' : Int), .int .i64 F', .int .u32 (S' : Int), .int .i64 Z', .int .i64 P', .int .i64 Y', .int .i64 X', .int .i64 Q', .int .i64 C', .slice rA' rn' rc', .slice dA' dn' dc']] w fun e w' => e = .returned (.bool (decide ((⟨K, U, F, S, Z, P, Y, X, Q, C, R, D⟩ : MsgS) = (⟨K', U', F', S', Z', P', Y', X', Q', C', R', D'⟩ : MsgS)))) ∧ Fr No w w' := by
  obtain ⟨NE, hNE⟩ : ∃ b, b = !decide (K = K' ∧ U = U' ∧ F = F' ∧ S = S' ∧ Z = Z' ∧ P = P' ∧ Y = Y' ∧ X = X' ∧ Q = Q' ∧ C = C' ∧ rn = rn' ∧ D = D') := ⟨_, rfl⟩
  have HSP := hid ((ne_all K U F S Z P Y X Q C rn D K' U' F' S' Z' P' Y' X' Q' C' rn' D').trans hNE.symm)
  have HNE := hid hNE
  obtain ⟨EQ, hEQ⟩ : ∃ b, b = decide ((⟨K, U, F, S, Z, P, Y, X, Q, C, R, D⟩ : MsgS) = (⟨K', U', F', S', Z', P', Y', X', Q', C', R', D'⟩ : MsgS)) := ⟨_, rfl⟩
  rw [← hEQ]
  have HEQ := hid hEQ
  clear hEQ
  obtain ⟨g, hg⟩ : ∃ g, g = w.heap.size := ⟨_, rfl⟩
  obtain ⟨W, hW⟩ : ∃ W, W = (w.alloc (.cells #[.int .i64 K, .int .u32 (U : Int), .int .i64 F, .int .u32 (S : Int), .int .i64 Z, .int .i64 P, .int .i64 Y, .int .i64 X, .int .i64 Q, .int .i64 C, .slice rA rn rc, .slice dA dn dc] 26)).alloc (.cells #[.int .i64 K', .int .u32 (U' : Int), .int .i64 F', .int .u32 (S' : Int), .int .i64 Z', .int .i64 P', .int .i64 Y', .int .i64 X', .int .i64 Q', .int .i64 C', .slice rA' rn' rc', .slice dA' dn' dc'] 26) := ⟨_, rfl⟩
  have hb1 : W.heap[g]? = some (.cells #[.int .i64 K, .int .u32 (U : Int), .int .i64 F, .int .u32 (S : Int), .int .i64 Z, .int .i64 P, .int .i64 Y, .int .i64 X, .int .i64 Q, .int .i64 C, .slice rA rn rc, .slice dA dn dc] 26 (0, 0)) := by
    rw [hW, hg]; exact (((Fr.refl No (w.alloc _)).alloc _).block w.heap.size (by simp) (fun h => h)).trans (heap_new w _)
  have hb2 : W.heap[g + 1]? = some (.cells #[.int .i64 K', .int .u32 (U' : Int), .int .i64 F', .int .u32 (S' : Int), .int .i64 Z', .int .i64 P', .int .i64 Y', .int .i64 X', .int .i64 Q', .int .i64 C', .slice rA' rn' rc', .slice dA' dn' dc'] 26 (0, 0)) := by
    have := heap_new (w.alloc (.cells #[.int .i64 K, .int .u32 (U : Int), .int .i64 F, .int .u32 (S : Int), .int .i64 Z, .int .i64 P, .int .i64 Y, .int .i64 X, .int .i64 Q, .int .i64 C, .slice rA rn rc, .slice dA dn dc] 26)) (.cells #[.int .i64 K', .int .u32 (U' : Int), .int .i64 F', .int .u32 (S' : Int), .int .i64 Z', .int .i64 P', .int .i64 Y', .int .i64 X', .int .i64 Q', .int .i64 C', .slice rA' rn' rc', .slice dA' dn' dc'] 26)
    rw [World.size_alloc, ← hg] at this
    rw [hW]; exact this
  have hf : Fr No w W := by rw [hW]; exact ((Fr.refl No w).alloc _).alloc _
  have hs1 := conv_bytes slU8 u8U strU (hd.fr0 hf) dn dc hD
  have hs2 := conv_bytes slU8 u8U strU (hd'.fr0 hf) dn' dc' hD'
  have HW := hid (And.intro hW (And.intro hg (And.intro hf (And.intro hb1 hb2))))
  have HM := hid (And.intro hR (And.intro hR' (And.intro (hr.fr hf (fun _ _ h => h)) (hr'.fr hf (fun _ _ h => h)))))
  obtain ⟨c0, c1, c2, c3, c4, c5, c6, c7, c8, c9, c10, c11⟩ := blk12 hb1
  obtain ⟨x0, x1, x2, x3, x4, x5, x6, x7, x8, x9, x10, x11⟩ := blk12 hb2
  clear hW hg hf hb1 hb2 hR hD hr hd hR' hD' hr' hd' hNE
  go_enter Try.func12, Try.ntmps12
  go_upto_region 1 with fail
  rw [← HW.out.1, ← HW.out.2.1]
  go_cut [91] (fun s91 wx => s91 = .bool NE ∧ wx = W)
  case first =>
    go_step
    refine wpList_val (v := .pointer (some ⟨g, 0, none⟩)) rfl (by go_simp; try rfl) ?_
    simp only [Act.put, List.setIfInBounds_toArray, List.set_cons_zero, List.set_cons_succ]
    refine wpList_val (v := .int .i64 K) rfl (by go_simp; try rfl) ?_
    simp only [Act.put, List.setIfInBounds_toArray, List.set_cons_zero, List.set_cons_succ]
    refine wpList_val (v := .pointer (some ⟨g + 1, 0, none⟩)) rfl (by go_simp; try rfl) ?_
    simp only [Act.put, List.setIfInBounds_toArray, List.set_cons_zero, List.set_cons_succ]
    refine wpList_val (v := .int .i64 K') rfl (by go_simp; try rfl) ?_
    simp only [Act.put, List.setIfInBounds_toArray, List.set_cons_zero, List.set_cons_succ]
    refine wpList_val (v := .bool ((K != K'))) rfl (by go_simp; try rfl) ?_
    simp only [Act.put, List.setIfInBounds_toArray, List.set_cons_zero, List.set_cons_succ]
    refine wpList_val (v := .bool ((K != K'))) rfl (by go_simp; try rfl) ?_
    simp only [Act.put, List.setIfInBounds_toArray, List.set_cons_zero, List.set_cons_succ]
    refine grp5 (b := (K != K')) (t := ((U : Int) != (U' : Int))) (j := 5) (dj := 11) (d1 := 12) (d2 := 13) (d3 := 14) (d4 := 15) (d5 := 16) (v1 := .pointer (some ⟨g, 1, none⟩)) (v2 := .int .u32 (U : Int)) (v3 := .pointer (some ⟨g + 1, 1, none⟩)) (v4 := .int .u32 (U' : Int)) rfl rfl ⟨rfl, rfl, by decide⟩ ⟨rfl, rfl, by decide⟩ ⟨rfl, rfl, by decide⟩ ⟨rfl, rfl, by decide⟩ ⟨rfl, rfl, by decide⟩ (fun _ => by (try simp only [Act.put, List.setIfInBounds_toArray, List.set_cons_zero, List.set_cons_succ]); go_simp; first | done | rfl | simp [bne]) (fun _ => by (try simp only [Act.put, List.setIfInBounds_toArray, List.set_cons_zero, List.set_cons_succ]); go_simp; first | done | rfl | simp [bne]) (fun _ => by (try simp only [Act.put, List.setIfInBounds_toArray, List.set_cons_zero, List.set_cons_succ]); go_simp; first | done | rfl | simp [bne]) (fun _ => by (try simp only [Act.put, List.setIfInBounds_toArray, List.set_cons_zero, List.set_cons_succ]); go_simp; first | done | rfl | simp [bne]) (fun _ => by (try simp only [Act.put, List.setIfInBounds_toArray, List.set_cons_zero, List.set_cons_succ]); go_simp; first | done | rfl | simp [bne]) ?_
    intro y12 y13 y14 y15 y16 hu
    simp only [Act.put, List.setIfInBounds_toArray, List.set_cons_zero, List.set_cons_succ]
    refine pick_or (x := .tmp 11) (y := .tmp 16) (b := (K != K')) (t := ((U : Int) != (U' : Int))) rfl rfl rfl hu ?_
    clear hu
    simp only [Act.put, List.setIfInBounds_toArray, List.set_cons_zero, List.set_cons_succ]
    refine wpList_val (v := .bool (((K != K') || ((U : Int) != (U' : Int))))) rfl (by go_simp; try rfl) ?_
    simp only [Act.put, List.setIfInBounds_toArray, List.set_cons_zero, List.set_cons_succ]
    refine grp5 (b := ((K != K') || ((U : Int) != (U' : Int)))) (t := (F != F')) (j := 12) (dj := 18) (d1 := 19) (d2 := 20) (d3 := 21) (d4 := 22) (d5 := 23) (v1 := .pointer (some ⟨g, 2, none⟩)) (v2 := .int .i64 F) (v3 := .pointer (some ⟨g + 1, 2, none⟩)) (v4 := .int .i64 F') rfl rfl ⟨rfl, rfl, by decide⟩ ⟨rfl, rfl, by decide⟩ ⟨rfl, rfl, by decide⟩ ⟨rfl, rfl, by decide⟩ ⟨rfl, rfl, by decide⟩ (fun _ => by (try simp only [Act.put, List.setIfInBounds_toArray, List.set_cons_zero, List.set_cons_succ]); go_simp; first | done | rfl | simp [bne]) (fun _ => by (try simp only [Act.put, List.setIfInBounds_toArray, List.set_cons_zero, List.set_cons_succ]); go_simp; first | done | rfl | simp [bne]) (fun _ => by (try simp only [Act.put, List.setIfInBounds_toArray, List.set_cons_zero, List.set_cons_succ]); go_simp; first | done | rfl | simp [bne]) (fun _ => by (try simp only [Act.put, List.setIfInBounds_toArray, List.set_cons_zero, List.set_cons_succ]); go_simp; first | done | rfl | simp [bne]) (fun _ => by (try simp only [Act.put, List.setIfInBounds_toArray, List.set_cons_zero, List.set_cons_succ]); go_simp; first | done | rfl | simp [bne]) ?_
    intro y19 y20 y21 y22 y23 hu
    simp only [Act.put, List.setIfInBounds_toArray, List.set_cons_zero, List.set_cons_succ]
    refine pick_or (x := .tmp 18) (y := .tmp 23) (b := ((K != K') || ((U : Int) != (U' : Int)))) (t := (F != F')) rfl rfl rfl hu ?_
    clear hu
    simp only [Act.put, List.setIfInBounds_toArray, List.set_cons_zero, List.set_cons_succ]
    refine wpList_val (v := .bool ((((K != K') || ((U : Int) != (U' : Int))) || (F != F')))) rfl (by go_simp; try rfl) ?_
    simp only [Act.put, List.setIfInBounds_toArray, List.set_cons_zero, List.set_cons_succ]
    refine grp5 (b := (((K != K') || ((U : Int) != (U' : Int))) || (F != F'))) (t := ((S : Int) != (S' : Int))) (j := 19) (dj := 25) (d1 := 26) (d2 := 27) (d3 := 28) (d4 := 29) (d5 := 30) (v1 := .pointer (some ⟨g, 3, none⟩)) (v2 := .int .u32 (S : Int)) (v3 := .pointer (some ⟨g + 1, 3, none⟩)) (v4 := .int .u32 (S' : Int)) rfl rfl ⟨rfl, rfl, by decide⟩ ⟨rfl, rfl, by decide⟩ ⟨rfl, rfl, by decide⟩ ⟨rfl, rfl, by decide⟩ ⟨rfl, rfl, by decide⟩ (fun _ => by (try simp only [Act.put, List.setIfInBounds_toArray, List.set_cons_zero, List.set_cons_succ]); go_simp; first | done | rfl | simp [bne]) (fun _ => by (try simp only [Act.put, List.setIfInBounds_toArray, List.set_cons_zero, List.set_cons_succ]); go_simp; first | done | rfl | simp [bne]) (fun _ => by (try simp only [Act.put, List.setIfInBounds_toArray, List.set_cons_zero, List.set_cons_succ]); go_simp; first | done | rfl | simp [bne]) (fun _ => by (try simp only [Act.put, List.setIfInBounds_toArray, List.set_cons_zero, List.set_cons_succ]); go_simp; first | done | rfl | simp [bne]) (fun _ => by (try simp only [Act.put, List.setIfInBounds_toArray, List.set_cons_zero, List.set_cons_succ]); go_simp; first | done | rfl | simp [bne]) ?_
    intro y26 y27 y28 y29 y30 hu
    simp only [Act.put, List.setIfInBounds_toArray, List.set_cons_zero, List.set_cons_succ]
    refine pick_or (x := .tmp 25) (y := .tmp 30) (b := (((K != K') || ((U : Int) != (U' : Int))) || (F != F'))) (t := ((S : Int) != (S' : Int))) rfl rfl rfl hu ?_
    clear hu
    simp only [Act.put, List.setIfInBounds_toArray, List.set_cons_zero, List.set_cons_succ]
    refine wpList_val (v := .bool (((((K != K') || ((U : Int) != (U' : Int))) || (F != F')) || ((S : Int) != (S' : Int))))) rfl (by go_simp; try rfl) ?_
    simp only [Act.put, List.setIfInBounds_toArray, List.set_cons_zero, List.set_cons_succ]
    refine grp5 (b := ((((K != K') || ((U : Int) != (U' : Int))) || (F != F')) || ((S : Int) != (S' : Int)))) (t := (Z != Z')) (j := 26) (dj := 32) (d1 := 33) (d2 := 34) (d3 := 35) (d4 := 36) (d5 := 37) (v1 := .pointer (some ⟨g, 4, none⟩)) (v2 := .int .i64 Z) (v3 := .pointer (some ⟨g + 1, 4, none⟩)) (v4 := .int .i64 Z') rfl rfl ⟨rfl, rfl, by decide⟩ ⟨rfl, rfl, by decide⟩ ⟨rfl, rfl, by decide⟩ ⟨rfl, rfl, by decide⟩ ⟨rfl, rfl, by decide⟩ (fun _ => by (try simp only [Act.put, List.setIfInBounds_toArray, List.set_cons_zero, List.set_cons_succ]); go_simp; first | done | rfl | simp [bne]) (fun _ => by (try simp only [Act.put, List.setIfInBounds_toArray, List.set_cons_zero, List.set_cons_succ]); go_simp; first | done | rfl | simp [bne]) (fun _ => by (try simp only [Act.put, List.setIfInBounds_toArray, List.set_cons_zero, List.set_cons_succ]); go_simp; first | done | rfl | simp [bne]) (fun _ => by (try simp only [Act.put, List.setIfInBounds_toArray, List.set_cons_zero, List.set_cons_succ]); go_simp; first | done | rfl | simp [bne]) (fun _ => by (try simp only [Act.put, List.setIfInBounds_toArray, List.set_cons_zero, List.set_cons_succ]); go_simp; first | done | rfl | simp [bne]) ?_
    intro y33 y34 y35 y36 y37 hu
    simp only [Act.put, List.setIfInBounds_toArray, List.set_cons_zero, List.set_cons_succ]
    refine pick_or (x := .tmp 32) (y := .tmp 37) (b := ((((K != K') || ((U : Int) != (U' : Int))) || (F != F')) || ((S : Int) != (S' : Int)))) (t := (Z != Z')) rfl rfl rfl hu ?_
    clear hu
    simp only [Act.put, List.setIfInBounds_toArray, List.set_cons_zero, List.set_cons_succ]
    refine wpList_val (v := .bool ((((((K != K') || ((U : Int) != (U' : Int))) || (F != F')) || ((S : Int) != (S' : Int))) || (Z != Z')))) rfl (by go_simp; try rfl) ?_
    simp only [Act.put, List.setIfInBounds_toArray, List.set_cons_zero, List.set_cons_succ]
    refine grp5 (b := (((((K != K') || ((U : Int) != (U' : Int))) || (F != F')) || ((S : Int) != (S' : Int))) || (Z != Z'))) (t := (P != P')) (j := 33) (dj := 39) (d1 := 40) (d2 := 41) (d3 := 42) (d4 := 43) (d5 := 44) (v1 := .pointer (some ⟨g, 5, none⟩)) (v2 := .int .i64 P) (v3 := .pointer (some ⟨g + 1, 5, none⟩)) (v4 := .int .i64 P') rfl rfl ⟨rfl, rfl, by decide⟩ ⟨rfl, rfl, by decide⟩ ⟨rfl, rfl, by decide⟩ ⟨rfl, rfl, by decide⟩ ⟨rfl, rfl, by decide⟩ (fun _ => by (try simp only [Act.put, List.setIfInBounds_toArray, List.set_cons_zero, List.set_cons_succ]); go_simp; first | done | rfl | simp [bne]) (fun _ => by (try simp only [Act.put, List.setIfInBounds_toArray, List.set_cons_zero, List.set_cons_succ]); go_simp; first | done | rfl | simp [bne]) (fun _ => by (try simp only [Act.put, List.setIfInBounds_toArray, List.set_cons_zero, List.set_cons_succ]); go_simp; first | done | rfl | simp [bne]) (fun _ => by (try simp only [Act.put, List.setIfInBounds_toArray, List.set_cons_zero, List.set_cons_succ]); go_simp; first | done | rfl | simp [bne]) (fun _ => by (try simp only [Act.put, List.setIfInBounds_toArray, List.set_cons_zero, List.set_cons_succ]); go_simp; first | done | rfl | simp [bne]) ?_
    intro y40 y41 y42 y43 y44 hu
    simp only [Act.put, List.setIfInBounds_toArray, List.set_cons_zero, List.set_cons_succ]
    refine pick_or (x := .tmp 39) (y := .tmp 44) (b := (((((K != K') || ((U : Int) != (U' : Int))) || (F != F')) || ((S : Int) != (S' : Int))) || (Z != Z'))) (t := (P != P')) rfl rfl rfl hu ?_
    clear hu
    simp only [Act.put, List.setIfInBounds_toArray, List.set_cons_zero, List.set_cons_succ]
    refine wpList_val (v := .bool (((((((K != K') || ((U : Int) != (U' : Int))) || (F != F')) || ((S : Int) != (S' : Int))) || (Z != Z')) || (P != P')))) rfl (by go_simp; try rfl) ?_
    simp only [Act.put, List.setIfInBounds_toArray, List.set_cons_zero, List.set_cons_succ]
    refine grp5 (b := ((((((K != K') || ((U : Int) != (U' : Int))) || (F != F')) || ((S : Int) != (S' : Int))) || (Z != Z')) || (P != P'))) (t := (Y != Y')) (j := 40) (dj := 46) (d1 := 47) (d2 := 48) (d3 := 49) (d4 := 50) (d5 := 51) (v1 := .pointer (some ⟨g, 6, none⟩)) (v2 := .int .i64 Y) (v3 := .pointer (some ⟨g + 1, 6, none⟩)) (v4 := .int .i64 Y') rfl rfl ⟨rfl, rfl, by decide⟩ ⟨rfl, rfl, by decide⟩ ⟨rfl, rfl, by decide⟩ ⟨rfl, rfl, by decide⟩ ⟨rfl, rfl, by decide⟩ (fun _ => by (try simp only [Act.put, List.setIfInBounds_toArray, List.set_cons_zero, List.set_cons_succ]); go_simp; first | done | rfl | simp [bne]) (fun _ => by (try simp only [Act.put, List.setIfInBounds_toArray, List.set_cons_zero, List.set_cons_succ]); go_simp; first | done | rfl | simp [bne]) (fun _ => by (try simp only [Act.put, List.setIfInBounds_toArray, List.set_cons_zero, List.set_cons_succ]); go_simp; first | done | rfl | simp [bne]) (fun _ => by (try simp only [Act.put, List.setIfInBounds_toArray, List.set_cons_zero, List.set_cons_succ]); go_simp; first | done | rfl | simp [bne]) (fun _ => by (try simp only [Act.put, List.setIfInBounds_toArray, List.set_cons_zero, List.set_cons_succ]); go_simp; first | done | rfl | simp [bne]) ?_
    intro y47 y48 y49 y50 y51 hu
    simp only [Act.put, List.setIfInBounds_toArray, List.set_cons_zero, List.set_cons_succ]
    refine pick_or (x := .tmp 46) (y := .tmp 51) (b := ((((((K != K') || ((U : Int) != (U' : Int))) || (F != F')) || ((S : Int) != (S' : Int))) || (Z != Z')) || (P != P'))) (t := (Y != Y')) rfl rfl rfl hu ?_
    clear hu
    simp only [Act.put, List.setIfInBounds_toArray, List.set_cons_zero, List.set_cons_succ]
    refine wpList_val (v := .bool ((((((((K != K') || ((U : Int) != (U' : Int))) || (F != F')) || ((S : Int) != (S' : Int))) || (Z != Z')) || (P != P')) || (Y != Y')))) rfl (by go_simp; try rfl) ?_
    simp only [Act.put, List.setIfInBounds_toArray, List.set_cons_zero, List.set_cons_succ]
    refine grp5 (b := (((((((K != K') || ((U : Int) != (U' : Int))) || (F != F')) || ((S : Int) != (S' : Int))) || (Z != Z')) || (P != P')) || (Y != Y'))) (t := (X != X')) (j := 47) (dj := 53) (d1 := 54) (d2 := 55) (d3 := 56) (d4 := 57) (d5 := 58) (v1 := .pointer (some ⟨g, 7, none⟩)) (v2 := .int .i64 X) (v3 := .pointer (some ⟨g + 1, 7, none⟩)) (v4 := .int .i64 X') rfl rfl ⟨rfl, rfl, by decide⟩ ⟨rfl, rfl, by decide⟩ ⟨rfl, rfl, by decide⟩ ⟨rfl, rfl, by decide⟩ ⟨rfl, rfl, by decide⟩ (fun _ => by (try simp only [Act.put, List.setIfInBounds_toArray, List.set_cons_zero, List.set_cons_succ]); go_simp; first | done | rfl | simp [bne]) (fun _ => by (try simp only [Act.put, List.setIfInBounds_toArray, List.set_cons_zero, List.set_cons_succ]); go_simp; first | done | rfl | simp [bne]) (fun _ => by (try simp only [Act.put, List.setIfInBounds_toArray, List.set_cons_zero, List.set_cons_succ]); go_simp; first | done | rfl | simp [bne]) (fun _ => by (try simp only [Act.put, List.setIfInBounds_toArray, List.set_cons_zero, List.set_cons_succ]); go_simp; first | done | rfl | simp [bne]) (fun _ => by (try simp only [Act.put, List.setIfInBounds_toArray, List.set_cons_zero, List.set_cons_succ]); go_simp; first | done | rfl | simp [bne]) ?_
    intro y54 y55 y56 y57 y58 hu
    simp only [Act.put, List.setIfInBounds_toArray, List.set_cons_zero, List.set_cons_succ]
    refine pick_or (x := .tmp 53) (y := .tmp 58) (b := (((((((K != K') || ((U : Int) != (U' : Int))) || (F != F')) || ((S : Int) != (S' : Int))) || (Z != Z')) || (P != P')) || (Y != Y'))) (t := (X != X')) rfl rfl rfl hu ?_
    clear hu
    simp only [Act.put, List.setIfInBounds_toArray, List.set_cons_zero, List.set_cons_succ]
    refine wpList_val (v := .bool (((((((((K != K') || ((U : Int) != (U' : Int))) || (F != F')) || ((S : Int) != (S' : Int))) || (Z != Z')) || (P != P')) || (Y != Y')) || (X != X')))) rfl (by go_simp; try rfl) ?_
    simp only [Act.put, List.setIfInBounds_toArray, List.set_cons_zero, List.set_cons_succ]
    refine grp5 (b := ((((((((K != K') || ((U : Int) != (U' : Int))) || (F != F')) || ((S : Int) != (S' : Int))) || (Z != Z')) || (P != P')) || (Y != Y')) || (X != X'))) (t := (Q != Q')) (j := 54) (dj := 60) (d1 := 61) (d2 := 62) (d3 := 63) (d4 := 64) (d5 := 65) (v1 := .pointer (some ⟨g, 8, none⟩)) (v2 := .int .i64 Q) (v3 := .pointer (some ⟨g + 1, 8, none⟩)) (v4 := .int .i64 Q') rfl rfl ⟨rfl, rfl, by decide⟩ ⟨rfl, rfl, by decide⟩ ⟨rfl, rfl, by decide⟩ ⟨rfl, rfl, by decide⟩ ⟨rfl, rfl, by decide⟩ (fun _ => by (try simp only [Act.put, List.setIfInBounds_toArray, List.set_cons_zero, List.set_cons_succ]); go_simp; first | done | rfl | simp [bne]) (fun _ => by (try simp only [Act.put, List.setIfInBounds_toArray, List.set_cons_zero, List.set_cons_succ]); go_simp; first | done | rfl | simp [bne]) (fun _ => by (try simp only [Act.put, List.setIfInBounds_toArray, List.set_cons_zero, List.set_cons_succ]); go_simp; first | done | rfl | simp [bne]) (fun _ => by (try simp only [Act.put, List.setIfInBounds_toArray, List.set_cons_zero, List.set_cons_succ]); go_simp; first | done | rfl | simp [bne]) (fun _ => by (try simp only [Act.put, List.setIfInBounds_toArray, List.set_cons_zero, List.set_cons_succ]); go_simp; first | done | rfl | simp [bne]) ?_
    intro y61 y62 y63 y64 y65 hu
    simp only [Act.put, List.setIfInBounds_toArray, List.set_cons_zero, List.set_cons_succ]
    refine pick_or (x := .tmp 60) (y := .tmp 65) (b := ((((((((K != K') || ((U : Int) != (U' : Int))) || (F != F')) || ((S : Int) != (S' : Int))) || (Z != Z')) || (P != P')) || (Y != Y')) || (X != X'))) (t := (Q != Q')) rfl rfl rfl hu ?_
    clear hu
    simp only [Act.put, List.setIfInBounds_toArray, List.set_cons_zero, List.set_cons_succ]
    refine wpList_val (v := .bool ((((((((((K != K') || ((U : Int) != (U' : Int))) || (F != F')) || ((S : Int) != (S' : Int))) || (Z != Z')) || (P != P')) || (Y != Y')) || (X != X')) || (Q != Q')))) rfl (by go_simp; try rfl) ?_
    simp only [Act.put, List.setIfInBounds_toArray, List.set_cons_zero, List.set_cons_succ]
    refine grp5 (b := (((((((((K != K') || ((U : Int) != (U' : Int))) || (F != F')) || ((S : Int) != (S' : Int))) || (Z != Z')) || (P != P')) || (Y != Y')) || (X != X')) || (Q != Q'))) (t := (C != C')) (j := 61) (dj := 67) (d1 := 68) (d2 := 69) (d3 := 70) (d4 := 71) (d5 := 72) (v1 := .pointer (some ⟨g, 9, none⟩)) (v2 := .int .i64 C) (v3 := .pointer (some ⟨g + 1, 9, none⟩)) (v4 := .int .i64 C') rfl rfl ⟨rfl, rfl, by decide⟩ ⟨rfl, rfl, by decide⟩ ⟨rfl, rfl, by decide⟩ ⟨rfl, rfl, by decide⟩ ⟨rfl, rfl, by decide⟩ (fun _ => by (try simp only [Act.put, List.setIfInBounds_toArray, List.set_cons_zero, List.set_cons_succ]); go_simp; first | done | rfl | simp [bne]) (fun _ => by (try simp only [Act.put, List.setIfInBounds_toArray, List.set_cons_zero, List.set_cons_succ]); go_simp; first | done | rfl | simp [bne]) (fun _ => by (try simp only [Act.put, List.setIfInBounds_toArray, List.set_cons_zero, List.set_cons_succ]); go_simp; first | done | rfl | simp [bne]) (fun _ => by (try simp only [Act.put, List.setIfInBounds_toArray, List.set_cons_zero, List.set_cons_succ]); go_simp; first | done | rfl | simp [bne]) (fun _ => by (try simp only [Act.put, List.setIfInBounds_toArray, List.set_cons_zero, List.set_cons_succ]); go_simp; first | done | rfl | simp [bne]) ?_
    intro y68 y69 y70 y71 y72 hu
    simp only [Act.put, List.setIfInBounds_toArray, List.set_cons_zero, List.set_cons_succ]
    refine pick_or (x := .tmp 67) (y := .tmp 72) (b := (((((((((K != K') || ((U : Int) != (U' : Int))) || (F != F')) || ((S : Int) != (S' : Int))) || (Z != Z')) || (P != P')) || (Y != Y')) || (X != X')) || (Q != Q'))) (t := (C != C')) rfl rfl rfl hu ?_
    clear hu
    simp only [Act.put, List.setIfInBounds_toArray, List.set_cons_zero, List.set_cons_succ]
    refine wpList_val (v := .bool (((((((((((K != K') || ((U : Int) != (U' : Int))) || (F != F')) || ((S : Int) != (S' : Int))) || (Z != Z')) || (P != P')) || (Y != Y')) || (X != X')) || (Q != Q')) || (C != C')))) rfl (by go_simp; try rfl) ?_
    simp only [Act.put, List.setIfInBounds_toArray, List.set_cons_zero, List.set_cons_succ]
    refine grp7 (b := ((((((((((K != K') || ((U : Int) != (U' : Int))) || (F != F')) || ((S : Int) != (S' : Int))) || (Z != Z')) || (P != P')) || (Y != Y')) || (X != X')) || (Q != Q')) || (C != C'))) (t := ((rn : Int) != (rn' : Int))) (j := 68) (dj := 74) (d1 := 75) (d2 := 76) (d3 := 77) (d4 := 78) (d5 := 79) (d6 := 80) (d7 := 81) (v1 := .pointer (some ⟨g, 10, none⟩)) (v2 := .slice rA rn rc) (v3 := .int .i64 (rn : Int)) (v4 := .pointer (some ⟨g + 1, 10, none⟩)) (v5 := .slice rA' rn' rc') (v6 := .int .i64 (rn' : Int)) rfl rfl ⟨rfl, rfl, by decide⟩ ⟨rfl, rfl, by decide⟩ ⟨rfl, rfl, by decide⟩ ⟨rfl, rfl, by decide⟩ ⟨rfl, rfl, by decide⟩ ⟨rfl, rfl, by decide⟩ ⟨rfl, rfl, by decide⟩ (fun _ => by (try simp only [Act.put, List.setIfInBounds_toArray, List.set_cons_zero, List.set_cons_succ]); go_simp; first | done | rfl | simp [bne]) (fun _ => by (try simp only [Act.put, List.setIfInBounds_toArray, List.set_cons_zero, List.set_cons_succ]); go_simp; first | done | rfl | simp [bne]) (fun _ => by (try simp only [Act.put, List.setIfInBounds_toArray, List.set_cons_zero, List.set_cons_succ]); go_simp; first | done | rfl | simp [bne]) (fun _ => by (try simp only [Act.put, List.setIfInBounds_toArray, List.set_cons_zero, List.set_cons_succ]); go_simp; first | done | rfl | simp [bne]) (fun _ => by (try simp only [Act.put, List.setIfInBounds_toArray, List.set_cons_zero, List.set_cons_succ]); go_simp; first | done | rfl | simp [bne]) (fun _ => by (try simp only [Act.put, List.setIfInBounds_toArray, List.set_cons_zero, List.set_cons_succ]); go_simp; first | done | rfl | simp [bne]) (fun _ => by (try simp only [Act.put, List.setIfInBounds_toArray, List.set_cons_zero, List.set_cons_succ]); go_simp; first | done | rfl | simp [bne]) ?_
    intro y75 y76 y77 y78 y79 y80 y81 hu
    simp only [Act.put, List.setIfInBounds_toArray, List.set_cons_zero, List.set_cons_succ]
    refine pick_or (x := .tmp 74) (y := .tmp 81) (b := ((((((((((K != K') || ((U : Int) != (U' : Int))) || (F != F')) || ((S : Int) != (S' : Int))) || (Z != Z')) || (P != P')) || (Y != Y')) || (X != X')) || (Q != Q')) || (C != C'))) (t := ((rn : Int) != (rn' : Int))) rfl rfl rfl hu ?_
    clear hu
    simp only [Act.put, List.setIfInBounds_toArray, List.set_cons_zero, List.set_cons_succ]
    refine wpList_val (v := .bool ((((((((((((K != K') || ((U : Int) != (U' : Int))) || (F != F')) || ((S : Int) != (S' : Int))) || (Z != Z')) || (P != P')) || (Y != Y')) || (X != X')) || (Q != Q')) || (C != C')) || ((rn : Int) != (rn' : Int))))) rfl (by go_simp; try rfl) ?_
    simp only [Act.put, List.setIfInBounds_toArray, List.set_cons_zero, List.set_cons_succ]
    refine grp7 (b := (((((((((((K != K') || ((U : Int) != (U' : Int))) || (F != F')) || ((S : Int) != (S' : Int))) || (Z != Z')) || (P != P')) || (Y != Y')) || (X != X')) || (Q != Q')) || (C != C')) || ((rn : Int) != (rn' : Int)))) (t := ((mkS D).toList != (mkS D').toList)) (j := 77) (dj := 83) (d1 := 84) (d2 := 85) (d3 := 86) (d4 := 87) (d5 := 88) (d6 := 89) (d7 := 90) (v1 := .pointer (some ⟨g, 11, none⟩)) (v2 := .slice dA dn dc) (v3 := .string (mkS D)) (v4 := .pointer (some ⟨g + 1, 11, none⟩)) (v5 := .slice dA' dn' dc') (v6 := .string (mkS D')) rfl rfl ⟨rfl, rfl, by decide⟩ ⟨rfl, rfl, by decide⟩ ⟨rfl, rfl, by decide⟩ ⟨rfl, rfl, by decide⟩ ⟨rfl, rfl, by decide⟩ ⟨rfl, rfl, by decide⟩ ⟨rfl, rfl, by decide⟩ (fun _ => by (try simp only [Act.put, List.setIfInBounds_toArray, List.set_cons_zero, List.set_cons_succ]); go_simp; first | done | rfl | simp [bne]) (fun _ => by (try simp only [Act.put, List.setIfInBounds_toArray, List.set_cons_zero, List.set_cons_succ]); go_simp; first | done | rfl | simp [bne]) (fun _ => by (try simp only [Act.put, List.setIfInBounds_toArray, List.set_cons_zero, List.set_cons_succ]); go_simp; first | done | rfl | simp [bne]) (fun _ => by (try simp only [Act.put, List.setIfInBounds_toArray, List.set_cons_zero, List.set_cons_succ]); go_simp; first | done | rfl | simp [bne]) (fun _ => by (try simp only [Act.put, List.setIfInBounds_toArray, List.set_cons_zero, List.set_cons_succ]); go_simp; first | done | rfl | simp [bne]) (fun _ => by (try simp only [Act.put, List.setIfInBounds_toArray, List.set_cons_zero, List.set_cons_succ]); go_simp; first | done | rfl | simp [bne]) (fun _ => by (try simp only [Act.put, List.setIfInBounds_toArray, List.set_cons_zero, List.set_cons_succ]); go_simp; first | done | rfl | simp [bne]) ?_
    intro y84 y85 y86 y87 y88 y89 y90 hu
    simp only [Act.put, List.setIfInBounds_toArray, List.set_cons_zero, List.set_cons_succ]
    refine pick_or (x := .tmp 83) (y := .tmp 90) (b := (((((((((((K != K') || ((U : Int) != (U' : Int))) || (F != F')) || ((S : Int) != (S' : Int))) || (Z != Z')) || (P != P')) || (Y != Y')) || (X != X')) || (Q != Q')) || (C != C')) || ((rn : Int) != (rn' : Int)))) (t := ((mkS D).toList != (mkS D').toList)) rfl rfl rfl hu ?_
    clear hu
    simp only [Act.put, List.setIfInBounds_toArray, List.set_cons_zero, List.set_cons_succ]
    go_wp2_with fail
    go_meet
    exact ⟨congrArg Value.bool HSP.out, rfl⟩
  case rest =>
    obtain ⟨rfl, rfl⟩ := hcut
    clear hs1 hs2 HSP c0 c1 c2 c3 c4 c5 c6 c7 c8 c9 c11 x0 x1 x2 x3 x4 x5 x6 x7 x8 x9 x11
    cases NE with
    | true =>
      have HE := hid (show decide ((⟨K, U, F, S, Z, P, Y, X, Q, C, R, D⟩ : MsgS) = (⟨K', U', F', S', Z', P', Y', X', Q', C', R', D'⟩ : MsgS)) = false from decide_eq_false (fun e => by
        simp only [MsgS.mk.injEq] at e
        obtain ⟨e0, e1, e2, e3, e4, e5, e6, e7, e8, e9, e10, e11⟩ := e
        have h1 := HNE.out
        have h2 := HM.out.1
        have h3 := HM.out.2.1
        rw [e10, h3] at h2
        simp [e0, e1, e2, e3, e4, e5, e6, e7, e8, e9, e11, h2] at h1))
      go_wp2_with fail
      go_ret
      rw [HEQ.out, HE.out]
      exact ⟨rfl, HW.out.2.2.1⟩
    | false =>
      have hall : K = K' ∧ U = U' ∧ F = F' ∧ S = S' ∧ Z = Z' ∧ P = P' ∧ Y = Y' ∧ X = X' ∧ Q = Q' ∧ C = C' ∧ rn = rn' ∧ D = D' := by
        have h1 := HNE.out
        by_cases h : K = K' ∧ U = U' ∧ F = F' ∧ S = S' ∧ Z = Z' ∧ P = P' ∧ Y = Y' ∧ X = X' ∧ Q = Q' ∧ C = C' ∧ rn = rn' ∧ D = D'
        · exact h
        · rw [decide_eq_false h] at h1; cases h1
      have hiff : ((⟨K, U, F, S, Z, P, Y, X, Q, C, R, D⟩ : MsgS) = (⟨K', U', F', S', Z', P', Y', X', Q', C', R', D'⟩ : MsgS)) ↔ R = R' := by
        obtain ⟨e0, e1, e2, e3, e4, e5, e6, e7, e8, e9, e10, e11⟩ := hall
        subst e0 e1 e2 e3 e4 e5 e6 e7 e8 e9 e11
        simp
      have HI := hid hiff
      obtain rfl : rn = rn' := hall.2.2.2.2.2.2.2.2.2.2.1
      clear hall hiff
      go_wp2_with fail
      go_loopw [95] (fun i wr => ∃ k q : Nat, k ≤ rn ∧ i = .int .i64 k ∧ Hid (wr = wc.drewN q ∧ R.take k = R'.take k)) (fun i _ => rn - (intOf i).toNat)
      case atStart => exact ⟨0, 0, by omega, rfl, rfl, rfl⟩
      case round =>
        obtain ⟨k, q, hk, rfl, HQ⟩ := hrel
        obtain rfl := HQ.out.1
        by_cases hlt : k < rn
        · have hk1 : k < R.length := by rw [HM.out.1]; exact hlt
          have hk2 : k < R'.length := by rw [HM.out.2.1]; exact hlt
          obtain ⟨ad, rfl, p1, p2⟩ := cells2 HM.out.2.2.1 k hk1
          obtain ⟨ad', rfl, p3, p4⟩ := cells2 HM.out.2.2.2 k hk2
          have y10 : ∀ q, (wc.drewN q).cell? ⟨g, 10, none⟩ = _ := fun _ => c10
          have y11 : ∀ q, (wc.drewN q).cell? ⟨g + 1, 10, none⟩ = _ := fun _ => x10
          have e1 : ∀ q, (wc.drewN q).cell? (ad.add (k * 2)) = _ := fun _ => p1
          have e2 : ∀ q, (wc.drewN q).cell? ⟨(ad.add (k * 2)).block, (ad.add (k * 2)).off + 1, none⟩ = _ := fun _ => p2
          have e3 : ∀ q, (wc.drewN q).cell? (ad'.add (k * 2)) = _ := fun _ => p3
          have e4 : ∀ q, (wc.drewN q).cell? ⟨(ad'.add (k * 2)).block, (ad'.add (k * 2)).off + 1, none⟩ = _ := fun _ => p4
          obtain ⟨⟨x, x'⟩, hx⟩ : ∃ x, x = R[k] := ⟨_, rfl⟩
          obtain ⟨⟨y, y'⟩, hy⟩ : ∃ y, y = R'[k] := ⟨_, rfl⟩
          rw [← hx] at e1 e2
          rw [← hy] at e3 e4
          simp only at e1 e2 e3 e4
          by_cases hxy : (x, x') = (y, y')
          · have hneq : ∀ W, (binOp .neq 53 (.agg #[.int .i64 x, .int .i64 x']) (.agg #[.int .i64 y, .int .i64 y'])).run Try.prog W = .ok (.bool false) W := fun W => by
              have := neq2 W [x, x'] [y, y'] rfl rfl
              rw [decide_eq_true (by simp at hxy; rw [hxy.1, hxy.2])] at this
              exact this
            have HS := hid (show R.take (k + 1) = R'.take (k + 1) from take_same R R' k HQ.out.2 hk1 hk2 (by rw [← hx, ← hy]; exact hxy))
            clear hx hy hxy p1 p2 p3 p4 hk1 hk2
            go_wp2_with fail
            go_quiet (fail)
            go_wp2_with fail
            go_roundw
            case rel => exact ⟨k + 1, q + nq, by omega, by go_num, by simp, HS.out⟩
            case measure => simp [intOf] <;> omega
          · have hneq : ∀ W, (binOp .neq 53 (.agg #[.int .i64 x, .int .i64 x']) (.agg #[.int .i64 y, .int .i64 y'])).run Try.prog W = .ok (.bool true) W := fun W => by
              have := neq2 W [x, x'] [y, y'] rfl rfl
              rw [decide_eq_false (by intro e; simp at e; exact hxy (by rw [e.1, e.2]))] at this
              exact this
            have HS := hid (show decide ((⟨K, U, F, S, Z, P, Y, X, Q, C, R, D⟩ : MsgS) = (⟨K', U', F', S', Z', P', Y', X', Q', C', R', D'⟩ : MsgS)) = false from decide_eq_false (fun e => hxy (by
              have h := HI.out.1 e
              rw [hx, hy]
              simp only [h])))
            clear hx hy hxy p1 p2 p3 p4 hk1 hk2
            go_wp2_with fail
            go_quiet (fail)
            go_wp2_with fail
            go_ret
            rw [HEQ.out, HS.out]
            exact ⟨rfl, (HW.out.2.2.1.drewN q).drewN nq⟩
        · obtain rfl : k = rn := by omega
          have HS := hid (show decide ((⟨K, U, F, S, Z, P, Y, X, Q, C, R, D⟩ : MsgS) = (⟨K', U', F', S', Z', P', Y', X', Q', C', R', D'⟩ : MsgS)) = true from decide_eq_true (HI.out.2 (by
            have := HQ.out.2
            rwa [List.take_of_length_le (by rw [HM.out.1]; exact Nat.le_refl _), List.take_of_length_le (by rw [HM.out.2.1]; exact Nat.le_refl _)] at this)))
          clear hlt
          go_wp2_with fail
          go_ret
          rw [HEQ.out, HS.out]
          exact ⟨rfl, HW.out.2.2.1.drewN q⟩
end Go.Proofs.Ytamkfjbdcjkchaa

/- The document's Same of a message and of itself, of slices that read alike. -/
import Derived.Test.YtamkfjbdcjkchaaSegS
import Derived.Deep.DeepCutAuto
namespace Go.Proofs.Ytamkfjbdcjkchaa
open Go.RowKit Go.Proofs.HK
set_option linter.unusedVariables false
set_option linter.unusedSimpArgs false
attribute [local go_sem] max2_int min2_int max_two min_two
set_option maxRecDepth 100000 in
set_option maxHeartbeats 3200000 in
theorem refSameEq_calls (K : Int) (U : Nat) (F : Int) (S : Nat) (Z P Y X Q C : Int) (R : List (Int × Int)) (D : List UInt8) (rA dA rA' dA' : Option Addr) (rn rc dn dc rc' dc' : Nat) (w : World)
    (hR : R.length = rn) (hD : D.length = dn) (hr : Cells w rA (rngC R)) (hd : Rd B w dA D) (hr' : Cells w rA' (rngC R)) (hd' : Rd B w dA' D) (hl : rn ≤ 140737488355328) :
    Calls Try.prog 12 #[.agg #[.int .i64 K, .int .u32 (U : Int), .int .i64 F, .int .u32 (S : Int), .int .i64 Z, .int .i64 P, .int .i64 Y, .int .i64 X, .int .i64 Q, .int .i64 C, .slice rA rn rc, .slice dA dn dc], .agg #[.int .i64 K, .int .u32 (U : Int), .int .i64 F, .int .u32 (S : Int), .int .i64 Z, .int .i64 P, .int .i64 Y, .int .i64 X, .int .i64 Q, .int .i64 C, .slice rA' rn rc', .slice dA' dn dc']] w fun e w' => e = .returned (.bool true) ∧ Fr No w w' := by
  obtain ⟨g, hg⟩ : ∃ g, g = w.heap.size := ⟨_, rfl⟩
  obtain ⟨W, hW⟩ : ∃ W, W = (w.alloc (.cells #[.int .i64 K, .int .u32 (U : Int), .int .i64 F, .int .u32 (S : Int), .int .i64 Z, .int .i64 P, .int .i64 Y, .int .i64 X, .int .i64 Q, .int .i64 C, .slice rA rn rc, .slice dA dn dc] 26)).alloc (.cells #[.int .i64 K, .int .u32 (U : Int), .int .i64 F, .int .u32 (S : Int), .int .i64 Z, .int .i64 P, .int .i64 Y, .int .i64 X, .int .i64 Q, .int .i64 C, .slice rA' rn rc', .slice dA' dn dc'] 26) := ⟨_, rfl⟩
  have hb1 : W.heap[g]? = some (.cells #[.int .i64 K, .int .u32 (U : Int), .int .i64 F, .int .u32 (S : Int), .int .i64 Z, .int .i64 P, .int .i64 Y, .int .i64 X, .int .i64 Q, .int .i64 C, .slice rA rn rc, .slice dA dn dc] 26 (0, 0)) := by
    rw [hW, hg]; exact (((Fr.refl No (w.alloc _)).alloc _).block w.heap.size (by simp) (fun h => h)).trans (heap_new w _)
  have hb2 : W.heap[g + 1]? = some (.cells #[.int .i64 K, .int .u32 (U : Int), .int .i64 F, .int .u32 (S : Int), .int .i64 Z, .int .i64 P, .int .i64 Y, .int .i64 X, .int .i64 Q, .int .i64 C, .slice rA' rn rc', .slice dA' dn dc'] 26 (0, 0)) := by
    have := heap_new (w.alloc (.cells #[.int .i64 K, .int .u32 (U : Int), .int .i64 F, .int .u32 (S : Int), .int .i64 Z, .int .i64 P, .int .i64 Y, .int .i64 X, .int .i64 Q, .int .i64 C, .slice rA rn rc, .slice dA dn dc] 26)) (.cells #[.int .i64 K, .int .u32 (U : Int), .int .i64 F, .int .u32 (S : Int), .int .i64 Z, .int .i64 P, .int .i64 Y, .int .i64 X, .int .i64 Q, .int .i64 C, .slice rA' rn rc', .slice dA' dn dc'] 26)
    rw [World.size_alloc, ← hg] at this
    rw [hW]; exact this
  have hf : Fr No w W := by rw [hW]; exact ((Fr.refl No w).alloc _).alloc _
  have hs1 := conv_bytes slU8 u8U strU (hd.fr0 hf) dn dc hD
  have hs2 := conv_bytes slU8 u8U strU (hd'.fr0 hf) dn dc' hD
  have HW := hid (And.intro hW (And.intro hg (And.intro hf (And.intro hb1 hb2))))
  have HM := hid (And.intro hR (And.intro (hr.fr hf (fun _ _ h => h)) (hr'.fr hf (fun _ _ h => h))))
  obtain ⟨c0, c1, c2, c3, c4, c5, c6, c7, c8, c9, c10, c11⟩ := blk12 hb1
  obtain ⟨x0, x1, x2, x3, x4, x5, x6, x7, x8, x9, x10, x11⟩ := blk12 hb2
  clear hW hg hf hb1 hb2 hR hD hr hd hr' hd'
  go_enter Try.func12, Try.ntmps12
  go_upto_region 1 with fail
  rw [← HW.out.1, ← HW.out.2.1]
  go_cut [91] (fun s91 wx => s91 = .bool false ∧ wx = W)
  case first =>
    go_wp2_with fail
    go_meet
    exact ⟨by simp, rfl⟩
  case rest =>
    obtain ⟨rfl, rfl⟩ := hcut
    clear hs1 hs2 c0 c1 c2 c3 c4 c5 c6 c7 c8 c9 c11 x0 x1 x2 x3 x4 x5 x6 x7 x8 x9 x11
    go_wp2_with fail
    go_loopw [95] (fun i wr => ∃ k q : Nat, k ≤ rn ∧ i = .int .i64 k ∧ Hid (wr = wc.drewN q)) (fun i _ => rn - (intOf i).toNat)
    case atStart => exact ⟨0, 0, by omega, rfl, rfl⟩
    case round =>
      obtain ⟨k, q, hk, rfl, HQ⟩ := hrel
      obtain rfl := HQ.out
      by_cases hlt : k < rn
      · have hk1 : k < R.length := by rw [HM.out.1]; exact hlt
        obtain ⟨ad, rfl, p1, p2⟩ := cells2 HM.out.2.1 k hk1
        obtain ⟨ad', rfl, p3, p4⟩ := cells2 HM.out.2.2 k hk1
        have y10 : ∀ q, (wc.drewN q).cell? ⟨g, 10, none⟩ = _ := fun _ => c10
        have y11 : ∀ q, (wc.drewN q).cell? ⟨g + 1, 10, none⟩ = _ := fun _ => x10
        have e1 : ∀ q, (wc.drewN q).cell? (ad.add (k * 2)) = _ := fun _ => p1
        have e2 : ∀ q, (wc.drewN q).cell? ⟨(ad.add (k * 2)).block, (ad.add (k * 2)).off + 1, none⟩ = _ := fun _ => p2
        have e3 : ∀ q, (wc.drewN q).cell? (ad'.add (k * 2)) = _ := fun _ => p3
        have e4 : ∀ q, (wc.drewN q).cell? ⟨(ad'.add (k * 2)).block, (ad'.add (k * 2)).off + 1, none⟩ = _ := fun _ => p4
        obtain ⟨⟨x, x'⟩, hx⟩ : ∃ x, x = R[k] := ⟨_, rfl⟩
        rw [← hx] at e1 e2 e3 e4
        simp only at e1 e2 e3 e4
        have hneq : ∀ W, (binOp .neq 53 (.agg #[.int .i64 x, .int .i64 x']) (.agg #[.int .i64 x, .int .i64 x'])).run Try.prog W = .ok (.bool false) W := fun W => by
          have := neq2 W [x, x'] [x, x'] rfl rfl
          rw [decide_eq_true rfl] at this
          exact this
        have b1 : (0 : Int) ≤ (k : Int) := by omega
        have b2 : (k : Int) < (rn : Int) := by omega
        clear hx p1 p2 p3 p4 hk1
        go_wp2_with fail
        go_quiet (fail)
        go_wp2_with fail
        go_roundw
        case rel => exact ⟨k + 1, q + nq, by omega, by go_num, (by show _ = _; simp)⟩
        case measure => simp [intOf] <;> omega
      · obtain rfl : k = rn := by omega
        clear hlt
        go_wp2_with fail
        go_ret
        exact ⟨rfl, HW.out.2.2.1.drewN q⟩
end Go.Proofs.Ytamkfjbdcjkchaa

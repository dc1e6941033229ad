/- The document's Same of two equal screens. -/
import Derived.Test.YtamkfjbdcjkchaaDoorSRd
namespace Go.Proofs.YtamkfjbdcjkchaaDoor
open Go.RowKit Go.Proofs.HK
set_option linter.unusedVariables false
set_option linter.unusedSimpArgs false
attribute [local go_sem] max2_int min2_int max_two min_two
set_option maxRecDepth 100000 in
set_option maxHeartbeats 3200000 in
theorem same17_calls (W H : Int) (ts : List UInt8) (L : Bool) (C : Int) (I : Bool) (K : Int) (A A' : Option Addr) (n c c' : Nat) (w : World) (hn : ts.length = 3 * n) (hr : Cells w A (ts.map B)) (hr' : Cells w A' (ts.map B)) (hl : n ≤ 46912496117077) :
    Calls Tryd.prog 10 #[.agg #[.int .i64 W, .int .i64 H, .slice A n c, .bool L, .int .i64 C, .bool I, .int .i64 K], .agg #[.int .i64 W, .int .i64 H, .slice A' n c', .bool L, .int .i64 C, .bool I, .int .i64 K]] w fun e w' => e = .returned (.bool true) ∧ Fr No w w' := by
  obtain ⟨g, hg⟩ : ∃ g, g = w.heap.size := ⟨_, rfl⟩
  obtain ⟨X, hX⟩ : ∃ X, X = (w.alloc (.cells #[.int .i64 W, .int .i64 H, .slice A n c, .bool L, .int .i64 C, .bool I, .int .i64 K] 26)).alloc (.cells #[.int .i64 W, .int .i64 H, .slice A' n c', .bool L, .int .i64 C, .bool I, .int .i64 K] 26) := ⟨_, rfl⟩
  have hb1 : X.heap[g]? = some (.cells #[.int .i64 W, .int .i64 H, .slice A n c, .bool L, .int .i64 C, .bool I, .int .i64 K] 26 (0, 0)) := by
    rw [hX, hg]; exact (((Fr.refl No (w.alloc _)).alloc _).block w.heap.size (by simp) (fun h => h)).trans (heap_new w _)
  have hb2 : X.heap[g + 1]? = some (.cells #[.int .i64 W, .int .i64 H, .slice A' n c', .bool L, .int .i64 C, .bool I, .int .i64 K] 26 (0, 0)) := by
    have := heap_new (w.alloc (.cells #[.int .i64 W, .int .i64 H, .slice A n c, .bool L, .int .i64 C, .bool I, .int .i64 K] 26)) (.cells #[.int .i64 W, .int .i64 H, .slice A' n c', .bool L, .int .i64 C, .bool I, .int .i64 K] 26)
    rw [World.size_alloc, ← hg] at this
    rw [hX]; exact this
  have hf : Fr No w X := by rw [hX]; exact ((Fr.refl No w).alloc _).alloc _
  have HW := hid (And.intro hX (And.intro hg (And.intro hf (And.intro hb1 hb2))))
  have HR := hid (And.intro hn (And.intro (hr.fr hf (fun _ _ h => h)) (hr'.fr hf (fun _ _ h => h))))
  obtain ⟨c0, c1, c2, c3, c4, c5, c6, cf⟩ := blk7 hb1
  obtain ⟨x0, x1, x2, x3, x4, x5, x6, xf⟩ := blk7 hb2
  clear hX hg hf hb1 hb2 hn hr hr'
  go_enter Tryd.func10, Tryd.ntmps10
  go_upto_region 1 with fail
  rw [← HW.out.1, ← HW.out.2.1]
  go_cut [54] (fun s54 wx => s54 = .bool false ∧ wx = X)
  case first =>
    go_wp2_with fail
    go_meet
    exact ⟨by simp, rfl⟩
  case rest =>
    obtain ⟨rfl, rfl⟩ := hcut
    clear c0 c1 c3 c4 c5 c6 x0 x1 x3 x4 x5 x6 cf xf
    obtain ⟨wq, rfl⟩ : ∃ x : World, x = wc := ⟨_, rfl⟩
    go_wp2_with fail
    go_loopw [58] (fun i wr => ∃ (k q : Nat), k ≤ n ∧ i = .int .i64 k ∧ Hid (wr = wq.drewN q)) (fun i _ => n - (intOf i).toNat)
    case atStart => exact ⟨0, 0, by omega, rfl, rfl⟩
    case round =>
      obtain ⟨k, q, hk, rfl, HQ⟩ := hrel
      obtain rfl := HQ.out
      by_cases hlt : k < n
      · obtain ⟨ad, rfl, q0, q1, q2⟩ := cells3 HR.out.2.1 k (by rw [HR.out.1]; omega)
        obtain ⟨ad', rfl, r0, r1, r2⟩ := cells3 HR.out.2.2 k (by rw [HR.out.1]; omega)
        obtain ⟨y0, hy0⟩ : ∃ x : Int, x = ((rdB ts (3 * k)).toNat : Int) := ⟨_, rfl⟩
        obtain ⟨y1, hy1⟩ : ∃ x : Int, x = ((rdB ts (3 * k + 1)).toNat : Int) := ⟨_, rfl⟩
        obtain ⟨y2, hy2⟩ : ∃ x : Int, x = ((rdB ts (3 * k + 2)).toNat : Int) := ⟨_, rfl⟩
        rw [← hy0] at q0 r0
        rw [← hy1] at q1 r1
        rw [← hy2] at q2 r2
        have z1 : ∀ q, (wq.drewN q).cell? ⟨g, 2, none⟩ = _ := fun _ => c2
        have z2 : ∀ q, (wq.drewN q).cell? ⟨g + 1, 2, none⟩ = _ := fun _ => x2
        replace q0 : ∀ q, (wq.drewN q).cell? (ad.add (k * 3)) = some (.int .u8 y0) := fun _ => q0
        replace q1 : ∀ q, (wq.drewN q).cell? ⟨(ad.add (k * 3)).block, (ad.add (k * 3)).off + 1, none⟩ = some (.int .u8 y1) := fun _ => q1
        replace q2 : ∀ q, (wq.drewN q).cell? ⟨(ad.add (k * 3)).block, (ad.add (k * 3)).off + 2, none⟩ = some (.int .u8 y2) := fun _ => q2
        replace r0 : ∀ q, (wq.drewN q).cell? (ad'.add (k * 3)) = some (.int .u8 y0) := fun _ => r0
        replace r1 : ∀ q, (wq.drewN q).cell? ⟨(ad'.add (k * 3)).block, (ad'.add (k * 3)).off + 1, none⟩ = some (.int .u8 y1) := fun _ => r1
        replace r2 : ∀ q, (wq.drewN q).cell? ⟨(ad'.add (k * 3)).block, (ad'.add (k * 3)).off + 2, none⟩ = some (.int .u8 y2) := fun _ => r2
        have b1 : (0 : Int) ≤ (k : Int) := by omega
        have b2 : (k : Int) < (n : Int) := by omega
        clear hy0 hy1 hy2 c2 x2
        go_wp2_with fail
        go_quiet (fail)
        go_wp2_with fail
        go_roundw
        case rel => exact ⟨k + 1, q + nq, by omega, by go_num, (by show _ = _; simp)⟩
        case measure => simp [intOf] <;> omega
      · obtain rfl : k = n := by omega
        clear hlt
        go_wp2_with fail
        go_ret
        exact ⟨rfl, HW.out.2.2.1.drewN q⟩
end Go.Proofs.YtamkfjbdcjkchaaDoor

/- AdamBytes' walk. -/
import Derived.Test.YtkhglmmidgfliaaALaw1
import Derived.Test.YtkhglmmidgfliaaDocBy
import Derived.Test.YtkhglmmidgfliaaDecHd
import Derived.Deep.QuietTactic
import Derived.BigQuiet
namespace Go.Proofs.Ytkhglmmidgfliaa
open Go.RowKit Go.Proofs.HK
set_option linter.unusedVariables false
set_option linter.unusedSimpArgs false
attribute [local go_sem] max2_int min2_int max_two min_two
theorem blk5h {W : World} {g : Nat} {v0 v1 v2 v3 v4 : Value} {t : TypeId} (hb : W.heap[g]? = some (.cells #[v0, v1, v2, v3, v4] t (0, 0))) :
    W.cell? ⟨g, 0, none⟩ = some v0 ∧ W.cell? ⟨g, 1, none⟩ = some v1 ∧ W.cell? ⟨g, 2, none⟩ = some v2 ∧ W.cell? ⟨g, 3, none⟩ = some v3 ∧ W.cell? ⟨g, 4, none⟩ = some v4 := by
  simp [World.cell?, hb]
set_option maxRecDepth 100000 in
set_option maxHeartbeats 1600000 in
theorem adamBytes_w (W H C D : Int) (L : Bool) (S : Int) (w : World) : Calls Try.prog 5 #[headV W H C D L, .int .i64 S] w fun e w' => e = .returned (.bool true) ∧ Fr No w w' := by
  unfold headV
  go_enter Try.func5, Try.ntmps5
  go_wp2_with fail
  refine (fixed14_calls _).mono ?_
  rintro e w1 ⟨rfl, hf⟩
  have hg : w.heap.size < w1.heap.size := by have := hf.size; rw [World.size_alloc] at this; omega
  obtain ⟨g, hgg⟩ : ∃ g, g = w.heap.size := ⟨_, rfl⟩
  have hb : w1.heap[g]? = some (.cells #[.int .i64 W, .int .i64 H, .int .i64 C, .int .i64 D, .bool L] 33 (0, 0)) := by
    rw [hgg]; exact (hf.block w.heap.size (by rw [World.size_alloc]; omega) (fun h => h)).trans (heap_new _ _)
  obtain ⟨c0, c1, c2, c3, c4⟩ := blk5h hb
  rw [← hgg] at hg ⊢
  have H1 := hid (((Fr.refl No w).alloc _).then hf)
  obtain ⟨N, hN⟩ : ∃ N, N = bytesS W H D L S := ⟨_, rfl⟩
  have HN := hid hN
  have hself : ((N : Int) == (N : Int)) = true := by simp
  clear hf hb hgg hN
  go_wp2_with fail
  go_region_held3 (fun w' => w'.cell? ⟨g, 0, none⟩ = some (.int .i64 W) ∧ w'.cell? ⟨g, 1, none⟩ = some (.int .i64 H) ∧ w'.cell? ⟨g, 2, none⟩ = some (.int .i64 C) ∧ w'.cell? ⟨g, 3, none⟩ = some (.int .i64 D) ∧ w'.cell? ⟨g, 4, none⟩ = some (.bool L))
    (first | go_keep | (refine ⟨(hf3.cellg g 0 (by have h2 := hf2.size; simp at h2; omega) (fun h => h)).trans ?_, (hf3.cellg g 1 (by have h2 := hf2.size; simp at h2; omega) (fun h => h)).trans ?_, (hf3.cellg g 2 (by have h2 := hf2.size; simp at h2; omega) (fun h => h)).trans ?_, (hf3.cellg g 3 (by have h2 := hf2.size; simp at h2; omega) (fun h => h)).trans ?_, (hf3.cellg g 4 (by have h2 := hf2.size; simp at h2; omega) (fun h => h)).trans ?_⟩ <;> go_keep) | (refine ⟨(hf2.cellg g 0 (by simp; omega) (fun h => h)).trans ?_, (hf2.cellg g 1 (by simp; omega) (fun h => h)).trans ?_, (hf2.cellg g 2 (by simp; omega) (fun h => h)).trans ?_, (hf2.cellg g 3 (by simp; omega) (fun h => h)).trans ?_, (hf2.cellg g 4 (by simp; omega) (fun h => h)).trans ?_⟩ <;> go_keep))
    (first
      | (go_at_call 23; refine (bytes_calls W H C D L S _).mono ?_; rw [← HN.out]; rintro e w2 ⟨rfl, hf2⟩)
      | (go_at_call 24; refine (refBytes_calls W H C D L S _).mono ?_; rw [← HN.out]; rintro e w3 ⟨rfl, hf3⟩))
  go_wp2_with fail
  go_ret
  exact ⟨rfl, (H1.out.drew.then hf2).then hf3⟩
set_option maxRecDepth 100000 in
theorem adamBytes_walk (v : Value) (x : HeadT) (S : Int) (w : World) {base : Nat} (hok : Value.okWide Try.prog w .any base 33 v) (hx : headD.K w x v.cells.toList) (_ : -9223372036854775808 ≤ S ∧ S ≤ 9223372036854775807) : Calls Try.prog 5 #[v, .int .i64 S] w fun e w' => e = .returned (.bool true) ∧ Fr No w w' := by
  rw [headD_val hok hx]
  exact adamBytes_w _ _ _ _ _ _ w
end Go.Proofs.Ytkhglmmidgfliaa

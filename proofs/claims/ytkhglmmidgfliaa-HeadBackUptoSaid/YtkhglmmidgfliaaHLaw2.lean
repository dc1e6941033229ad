/- The walk of HeadMay. -/
import Derived.Test.YtkhglmmidgfliaaHLaw
import Derived.Deep.RegionHeld3
namespace Go.Proofs.Ytkhglmmidgfliaa
open Go.RowKit Go.Proofs.HK
set_option linter.unusedVariables false
set_option linter.unusedSimpArgs false
attribute [local go_sem] max2_int min2_int max_two min_two

set_option maxRecDepth 100000 in
set_option maxHeartbeats 1600000 in
theorem headMay_w (W H C D : Int) (L : Bool) (w : World) : Calls Try.prog 8 #[headV W H C D L] w fun e w' => e = .returned (.bool true) ∧ Fr No w w' := by
  unfold headV
  go_enter Try.func8, Try.ntmps8
  go_wp2_with fail
  refine (fixed12_calls _).mono ?_
  rintro e w1 ⟨rfl, hf⟩
  have hg : w.heap.size < w1.heap.size := by have := hf.size; rw [World.size_alloc] at this; omega
  obtain ⟨g, hgg⟩ : ∃ g, g = w.heap.size := ⟨_, rfl⟩
  have hb : w1.heap[g]? = some (.cells #[.int .i64 W, .int .i64 H, .int .i64 C, .int .i64 D, .bool L] 33 (0, 0)) := by
    rw [hgg]; exact (hf.block w.heap.size (by rw [World.size_alloc]; omega) (fun h => h)).trans (heap_new _ _)
  obtain ⟨c0, c1, c2, c3, c4, _⟩ := blk5 hb
  rw [← hgg] at hg ⊢
  have H1 := hid (((Fr.refl No w).alloc _).then hf)
  have hself : (mayS W H C D == mayS W H C D) = true := by simp
  clear hf hb hgg
  go_wp2_with fail
  go_region_held3 (fun w' => w'.cell? ⟨g, 0, none⟩ = some (.int .i64 W) ∧ w'.cell? ⟨g, 1, none⟩ = some (.int .i64 H) ∧ w'.cell? ⟨g, 2, none⟩ = some (.int .i64 C) ∧ w'.cell? ⟨g, 3, none⟩ = some (.int .i64 D) ∧ w'.cell? ⟨g, 4, none⟩ = some (.bool L))
    (first | go_keep | (refine ⟨(hf4.cellg g 0 (by have h2 := hf2.size; have h3 := hf3.size; simp at h2; omega) (fun h => h)).trans ?_, (hf4.cellg g 1 (by have h2 := hf2.size; have h3 := hf3.size; simp at h2; omega) (fun h => h)).trans ?_, (hf4.cellg g 2 (by have h2 := hf2.size; have h3 := hf3.size; simp at h2; omega) (fun h => h)).trans ?_, (hf4.cellg g 3 (by have h2 := hf2.size; have h3 := hf3.size; simp at h2; omega) (fun h => h)).trans ?_, (hf4.cellg g 4 (by have h2 := hf2.size; have h3 := hf3.size; simp at h2; omega) (fun h => h)).trans ?_⟩ <;> go_keep) | (refine ⟨(hf3.cellg g 0 (by have h2 := hf2.size; simp at h2; omega) (fun h => h)).trans ?_, (hf3.cellg g 1 (by have h2 := hf2.size; simp at h2; omega) (fun h => h)).trans ?_, (hf3.cellg g 2 (by have h2 := hf2.size; simp at h2; omega) (fun h => h)).trans ?_, (hf3.cellg g 3 (by have h2 := hf2.size; simp at h2; omega) (fun h => h)).trans ?_, (hf3.cellg g 4 (by have h2 := hf2.size; simp at h2; omega) (fun h => h)).trans ?_⟩ <;> go_keep) | (refine ⟨(hf2.cellg g 0 (by simp; omega) (fun h => h)).trans ?_, (hf2.cellg g 1 (by simp; omega) (fun h => h)).trans ?_, (hf2.cellg g 2 (by simp; omega) (fun h => h)).trans ?_, (hf2.cellg g 3 (by simp; omega) (fun h => h)).trans ?_, (hf2.cellg g 4 (by simp; omega) (fun h => h)).trans ?_⟩ <;> go_keep))
    (first
      | (go_at_call 28; refine (may_calls W H C D L _).mono ?_; rintro e w2 ⟨rfl, hf2⟩)
      | (go_at_call 29; refine (refMay_calls W H C D L _).mono ?_; rintro e w3 ⟨rfl, hf3⟩)
      | (go_at_call 30; refine (samples_calls C _).mono ?_; rintro e w4 ⟨rfl, hf4⟩)
      | (go_at_call 31; refine (refSamples_calls C _).mono ?_; rintro e w5 ⟨rfl, rfl⟩))
  go_wp2_with fail
  go_ret
  exact ⟨rfl, ((H1.out.drew.then hf2).then hf3).then hf4⟩
end Go.Proofs.Ytkhglmmidgfliaa

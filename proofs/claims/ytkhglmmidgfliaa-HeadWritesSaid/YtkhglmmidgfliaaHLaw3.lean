/- The walk of HeadWrites. -/
import Derived.Test.YtkhglmmidgfliaaHeadW
import Derived.Test.YtkhglmmidgfliaaDecH
namespace Go.Proofs.Ytkhglmmidgfliaa
open Go.RowKit Go.Proofs.HK
set_option linter.unusedVariables false
set_option linter.unusedSimpArgs false
attribute [local go_sem] max2_int min2_int max_two min_two

set_option maxRecDepth 100000 in
set_option maxHeartbeats 1600000 in
theorem headWrites_w (W H C D : Int) (L : Bool) (A : Option Addr) (al : List Int) (n c : Nat) (A' : Option Addr) (cl : List Int) (n' c' : Nat) (w : World) (hn : al.length = n) (hr : Rd II w A al) (hn' : cl.length = n') (hr' : Rd II w A' cl) (hb : I64s cl)
    (hl : n ≤ 17592186043904) (hl' : n' ≤ 17592186043904) :
    Calls Try.prog 9 #[headV W H C D L, .slice A n c, .slice A' n' c'] w fun e w' => e = .returned (.bool true) ∧ Fr No w w' := by
  have HR := hid (And.intro hn (And.intro hr (And.intro hn' (And.intro hr' hb))))
  clear hn hr hn' hr' hb
  unfold headV
  go_enter Try.func9, Try.ntmps9
  go_wp2_with fail
  refine (fixed12_calls _).mono ?_
  rintro e w1 ⟨rfl, hf⟩
  have hg : w.heap.size < w1.heap.size := by have := hf.size; rw [World.size_alloc] at this; omega
  obtain ⟨g, hgg⟩ : ∃ g, g = w.heap.size := ⟨_, rfl⟩
  have hb : w1.heap[g]? = some (.cells #[.int .i64 W, .int .i64 H, .int .i64 C, .int .i64 D, .bool L] 33 (0, 0)) := by
    rw [hgg]; exact (hf.block w.heap.size (by rw [World.size_alloc]; omega) (fun h => h)).trans (heap_new _ _)
  obtain ⟨c0, c1, c2, c3, c4, _⟩ := blk5 hb
  rw [← hgg] at hg ⊢
  have H1 := hid (((Fr.refl No w).alloc _).then hf)
  clear hf hb hgg
  go_wp2_with fail
  go_region_held3 (fun w' => w'.cell? ⟨g, 0, none⟩ = some (.int .i64 W) ∧ w'.cell? ⟨g, 1, none⟩ = some (.int .i64 H) ∧ w'.cell? ⟨g, 2, none⟩ = some (.int .i64 C) ∧ w'.cell? ⟨g, 3, none⟩ = some (.int .i64 D) ∧ w'.cell? ⟨g, 4, none⟩ = some (.bool L))
    (first | go_keep | (refine ⟨(N3.out.2.2.2.1.cellg g 0 (by have h2 := N2.out.2.2.2.1.size; simp at h2; omega) (fun h => h)).trans ?_, (N3.out.2.2.2.1.cellg g 1 (by have h2 := N2.out.2.2.2.1.size; simp at h2; omega) (fun h => h)).trans ?_, (N3.out.2.2.2.1.cellg g 2 (by have h2 := N2.out.2.2.2.1.size; simp at h2; omega) (fun h => h)).trans ?_, (N3.out.2.2.2.1.cellg g 3 (by have h2 := N2.out.2.2.2.1.size; simp at h2; omega) (fun h => h)).trans ?_, (N3.out.2.2.2.1.cellg g 4 (by have h2 := N2.out.2.2.2.1.size; simp at h2; omega) (fun h => h)).trans ?_⟩ <;> go_keep) | (refine ⟨(N2.out.2.2.2.1.cellg g 0 (by simp; omega) (fun h => h)).trans ?_, (N2.out.2.2.2.1.cellg g 1 (by simp; omega) (fun h => h)).trans ?_, (N2.out.2.2.2.1.cellg g 2 (by simp; omega) (fun h => h)).trans ?_, (N2.out.2.2.2.1.cellg g 3 (by simp; omega) (fun h => h)).trans ?_, (N2.out.2.2.2.1.cellg g 4 (by simp; omega) (fun h => h)).trans ?_⟩ <;> go_keep))
    (first
      | (go_at_call 33; refine (writeClear_calls W H C D L A al n c A' cl n' c' _ HR.out.1 ((HR.out.2.1.fr0 H1.out).drewN _) HR.out.2.2.1 ((HR.out.2.2.2.1.fr0 H1.out).drewN _) HR.out.2.2.2.2 hl hl').mono ?_; rintro e w2 ⟨v2, rfl, hnew2⟩; obtain ⟨A2, n2, c2, rfl, N2⟩ := hnew2.use; clear hnew2)
      | (go_at_call 34; refine (refWriteClear_calls W H C D L A al n c A' cl n' c' _ HR.out.1 (((HR.out.2.1.fr0 H1.out).drewN _).fr0 N2.out.2.2.2.1) HR.out.2.2.1 (((HR.out.2.2.2.1.fr0 H1.out).drewN _).fr0 N2.out.2.2.2.1) HR.out.2.2.2.2 hl hl').mono ?_; rintro e w3 ⟨v3, rfl, hnew3⟩; obtain ⟨A3, n3, c3, rfl, N3⟩ := hnew3.use; clear hnew3)
      | (go_at_call 32; refine (same_calls _ _ _ _ _ _ _ _ N2.out.1 N3.out.1 _ (N2.out.2.1.fr0 N3.out.2.2.2.1) N3.out.2.1).mono ?_; rintro e w4 ⟨rfl, rfl⟩))
  go_wp2_with fail
  go_ret
  exact ⟨by simp, ((H1.out.drewN _).then N2.out.2.2.2.1).then N3.out.2.2.2.1⟩
set_option maxRecDepth 100000 in
theorem headWrites_walk (v : Value) (x : HeadT) (A : Option Addr) (xs : List Int) (n c : Nat) (A' : Option Addr) (ys : List Int) (n' c' : Nat) (w : World) {base : Nat} (hok : Value.okWide Try.prog w .any base 33 v) (hx : headD.K w x v.cells.toList)
    (h1 : SlIn II 8 w A xs n c) (hb1 : I64s xs) (h2 : SlIn II 8 w A' ys n' c') (hb2 : I64s ys) :
    Calls Try.prog 9 #[v, .slice A n c, .slice A' n' c'] w fun e w' => e = .returned (.bool true) ∧ Fr No w w' := by
  rw [headD_val hok hx]
  have := h1.reach
  have := h2.reach
  exact headWrites_w _ _ _ _ _ _ _ _ _ _ _ _ _ w h1.len h1.rd h2.len h2.rd hb2 (by omega) (by omega)
end Go.Proofs.Ytkhglmmidgfliaa

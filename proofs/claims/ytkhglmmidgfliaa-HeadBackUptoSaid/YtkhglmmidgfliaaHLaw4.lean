/- The walk of HeadReads. -/
import Derived.Test.YtkhglmmidgfliaaHeadRd
import Derived.Test.YtkhglmmidgfliaaDecH
namespace Go.Proofs.Ytkhglmmidgfliaa
open Go.RowKit Go.WideShapes Go.Proofs.HK
set_option linter.unusedVariables false
set_option linter.unusedSimpArgs false
attribute [local go_sem] max2_int min2_int max_two min_two

theorem headD_ok {W : World} {x : HeadT} {cs : List Value} (hx : headD.K W x cs) : HeadOk x.1 x.2.1 x.2.2.1 x.2.2.2.1 := by
  obtain ⟨e1, e2, h0, _, ⟨rfl, w1⟩, e3, e4, rfl, _, ⟨rfl, w2⟩, e5, e6, rfl, _, ⟨rfl, w3⟩, e7, e8, rfl, _, ⟨rfl, w4⟩, e9, e10, rfl, _, rfl, h6⟩ := hx
  exact ⟨bounds_i64 w1, bounds_i64 w2⟩
theorem rdV_head (bs : List UInt8) : ∃ a b c d l, rdV bs = headV a b c d l := by
  unfold rdV
  split
  · exact ⟨_, _, _, _, _, rfl⟩
  · exact ⟨_, _, _, _, _, rfl⟩
set_option maxRecDepth 100000 in
set_option maxHeartbeats 1600000 in
theorem headReads_w (A : Option Addr) (bs : List UInt8) (n c : Nat) (W H C D : Int) (L : Bool) (hb : HeadOk W H C D) (w : World) (hn : bs.length = n) (hr : Rd B w A bs) (hl : n ≤ 140737488355328) (hnc : n ≤ c) :
    Calls Try.prog 12 #[.slice A n c, headV W H C D L] w fun e w' => e = .returned (.bool true) ∧ Fr No w w' := by
  have HR := hid (And.intro hn (And.intro hr hb))
  clear hn hr hb
  obtain ⟨ra, rb, rc, rd, rl, hv⟩ := rdV_head bs
  have HV := hid hv
  clear hv
  unfold headV
  go_enter Try.func12, Try.ntmps12
  go_wp2_with fail
  refine (fixed12_calls _).mono ?_
  rintro e w1 ⟨rfl, hf⟩
  have hg : w.heap.size < w1.heap.size := by have := hf.size; rw [World.size_alloc] at this; omega
  obtain ⟨g, hgg⟩ : ∃ g, g = w.heap.size := ⟨_, rfl⟩
  have hb : w1.heap[g]? = some (.cells #[.int .i64 W, .int .i64 H, .int .i64 C, .int .i64 D, .bool L] 33 (0, 0)) := by
    rw [hgg]; exact (hf.block w.heap.size (by rw [World.size_alloc]; omega) (fun h => h)).trans (heap_new _ _)
  rw [← hgg] at hg ⊢
  have H1 := hid (And.intro (((Fr.refl No w).alloc _).then hf) hb)
  clear hf hb hgg
  go_wp2_with fail
  refine (read_calls A bs n c HR.out.1 _ (HR.out.2.1.fr0 H1.out.1) hl).mono ?_
  rw [HV.out]
  rintro e w2 ⟨rfl, hf2⟩
  have H2 := hid (And.intro (H1.out.1.then hf2) ((hf2.block g hg (fun h => h)).trans H1.out.2))
  have hs2 := hf2.size
  clear hf2
  unfold headV
  go_wp2_with fail
  obtain ⟨W2, hW2⟩ : ∃ W2, W2 = w2.alloc (.cells #[.int .i64 ra, .int .i64 rb, .int .i64 rc, .int .i64 rd, .bool rl] 33) := ⟨_, rfl⟩
  rw [← hW2]
  obtain ⟨g5, hg5⟩ : ∃ g5, g5 = w2.heap.size := ⟨_, rfl⟩
  rw [← hg5]
  have hF2 : Fr No w2 W2 := by rw [hW2]; exact (Fr.refl _ _).alloc _
  have hb5 : W2.heap[g5]? = some (.cells #[.int .i64 ra, .int .i64 rb, .int .i64 rc, .int .i64 rd, .bool rl] 33 (0, 0)) := by rw [hW2, hg5]; exact heap_new _ _
  have hs5 : g5 < W2.heap.size := (Array.getElem?_eq_some_iff.1 hb5).1
  have hsg : g < W2.heap.size := by have := hF2.size; omega
  have H3 := hid (And.intro (H2.out.1.then hF2) (And.intro ((hF2.block g (by omega) (fun h => h)).trans H2.out.2) hb5))
  clear hW2 hg5 hF2 hb5 H2 H1 hs2
  refine (refRead_calls A bs n c HR.out.1 hnc _ (HR.out.2.1.fr0 H3.out.1) hl).mono ?_
  rw [HV.out]
  rintro e w3 ⟨rfl, hf3⟩
  have hs3 := hf3.size
  obtain ⟨d0, d1, d2, d3, d4⟩ : (∀ o, (w3.alloc o).cell? ⟨g, 0, none⟩ = some (.int .i64 W)) ∧ (∀ o, (w3.alloc o).cell? ⟨g, 1, none⟩ = some (.int .i64 H)) ∧ (∀ o, (w3.alloc o).cell? ⟨g, 2, none⟩ = some (.int .i64 C)) ∧ (∀ o, (w3.alloc o).cell? ⟨g, 3, none⟩ = some (.int .i64 D)) ∧ (∀ o, (w3.alloc o).cell? ⟨g, 4, none⟩ = some (.bool L)) := by
    have hbk : ∀ o, (w3.alloc o).heap[g]? = _ := fun o => ((((Fr.refl No w3).alloc o).block g (by omega) (fun h => h)).trans (hf3.block g hsg (fun h => h))).trans H3.out.2.1
    exact ⟨fun o => (blk5 (hbk o)).1, fun o => (blk5 (hbk o)).2.1, fun o => (blk5 (hbk o)).2.2.1, fun o => (blk5 (hbk o)).2.2.2.1, fun o => (blk5 (hbk o)).2.2.2.2.1⟩
  have H4 := hid (And.intro (H3.out.1.then hf3) (And.intro ((hf3.block g hsg (fun h => h)).trans H3.out.2.1) ((hf3.block g5 hs5 (fun h => h)).trans H3.out.2.2)))
  clear hf3 H3
  unfold headV
  go_wp2_with fail
  obtain ⟨W3, hW3⟩ : ∃ W3, W3 = w3.alloc (.cells #[.int .i64 ra, .int .i64 rb, .int .i64 rc, .int .i64 rd, .bool rl] 33) := ⟨_, rfl⟩
  rw [← hW3]
  obtain ⟨g7, hg7⟩ : ∃ g7, g7 = w3.heap.size := ⟨_, rfl⟩
  rw [← hg7]
  have hF3 : Fr No w3 W3 := by rw [hW3]; exact (Fr.refl _ _).alloc _
  have hb7 : W3.heap[g7]? = some (.cells #[.int .i64 ra, .int .i64 rb, .int .i64 rc, .int .i64 rd, .bool rl] 33 (0, 0)) := by rw [hW3, hg7]; exact heap_new _ _
  have hs7 : g7 < W3.heap.size := (Array.getElem?_eq_some_iff.1 hb7).1
  have hsz := hF3.size
  have H5 := hid (And.intro (H4.out.1.then hF3) (And.intro ((hF3.block g (by omega) (fun h => h)).trans H4.out.2.1) (And.intro ((hF3.block g5 (by omega) (fun h => h)).trans H4.out.2.2) hb7)))
  have hsg' : g < W3.heap.size := by omega
  have hs5' : g5 < W3.heap.size := by omega
  clear hW3 hg7 hF3 hb7 H4 d0 d1 d2 d3 d4 hs3 hsg hs5 hsz hg
  refine (write_calls W H C D L HR.out.2.2 _).mono ?_
  rintro e w4 ⟨v4, rfl, hnew4⟩
  have hs4 := hnew4.2.size
  have hb4 := (hnew4.2.block g hsg' (fun h => h)).trans H5.out.2.1
  obtain ⟨e0, e1, e2, e3, e4, _⟩ := blk5 hb4
  have H6 := hid (And.intro (H5.out.1.then hnew4.2) (And.intro ((hnew4.2.block g5 hs5' (fun h => h)).trans H5.out.2.2.1) ((hnew4.2.block g7 hs7 (fun h => h)).trans H5.out.2.2.2)))
  obtain ⟨A4, n4, c4, rfl, N4⟩ := hnew4.use
  clear hnew4 hb4 H5
  go_wp2_with fail
  refine (refWrite_calls W H C D L HR.out.2.2 _).mono ?_
  rintro e w5 ⟨v5, rfl, hnew5⟩
  obtain ⟨x0, x1, x2, x3, x4, _⟩ := blk5 ((hnew5.2.block g5 (by omega) (fun h => h)).trans H6.out.2.1)
  obtain ⟨y0, y1, y2, y3, y4, _⟩ := blk5 ((hnew5.2.block g7 (by omega) (fun h => h)).trans H6.out.2.2)
  have H7 := hid (H6.out.1.then hnew5.2)
  obtain ⟨A5, n5, c5, rfl, N5⟩ := hnew5.use
  clear hnew5 H6 e0 e1 e2 e3 e4
  obtain ⟨rE, hrE⟩ : ∃ rE, rE = rdE bs := ⟨_, rfl⟩
  obtain ⟨wE, hwE⟩ : ∃ wE, wE = wrE W H C D := ⟨_, rfl⟩
  rw [← hrE, ← hwE]
  clear hrE hwE
  go_wp2_with (go_at_call 32; refine (same_calls _ _ _ _ _ _ _ _ N4.out.1 N5.out.1 _ (N4.out.2.1.fr0 N5.out.2.2.2.1) N5.out.2.1).mono ?_; rintro e w6 ⟨rfl, rfl⟩)
  go_ret
  exact ⟨by simp, H7.out⟩
set_option maxRecDepth 100000 in
theorem headReads_walk (A : Option Addr) (bs : List UInt8) (n c : Nat) (v : Value) (x : HeadT) (w : World) {base : Nat} (h1 : SlIn B 1 w A bs n c) (hok : Value.okWide Try.prog w .any base 33 v) (hx : headD.K w x v.cells.toList) :
    Calls Try.prog 12 #[.slice A n c, v] w fun e w' => e = .returned (.bool true) ∧ Fr No w w' := by
  rw [headD_val hok hx]
  have := h1.reach
  exact headReads_w _ _ _ _ _ _ _ _ _ (headD_ok hx) w h1.len h1.rd (by omega) h1.cap
end Go.Proofs.Ytkhglmmidgfliaa

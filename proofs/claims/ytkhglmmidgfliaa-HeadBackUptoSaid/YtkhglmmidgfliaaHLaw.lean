/- The walks of the laws of layer 12, first part: fixed, HeadMay. -/
import Derived.Test.YtkhglmmidgfliaaHead3
import Derived.Test.YtkhglmmidgfliaaOpen
namespace Go.Proofs.Ytkhglmmidgfliaa
open Go.RowKit Go.Proofs.HK
set_option linter.unusedVariables false
set_option linter.unusedSimpArgs false
attribute [local go_sem] max2_int min2_int max_two min_two

theorem fix_a : rdV [0, 0, 0, 2, 0, 0, 0, 3, 8, 2, 0, 0, 1] = headV 2 3 2 8 true ∧ rdE [0, 0, 0, 2, 0, 0, 0, 3, 8, 2, 0, 0, 1] = 0 := by
  have h : rdOk [0, 0, 0, 2, 0, 0, 0, 3, 8, 2, 0, 0, 1] := by decide
  rw [(rd_good h).1, (rd_good h).2]
  exact ⟨rfl, rfl⟩
theorem fix_b : rdV [0, 0, 0, 2, 0, 0, 0, 3, 3, 2, 0, 0, 1] = headV 0 0 0 0 false ∧ rdE [0, 0, 0, 2, 0, 0, 0, 3, 3, 2, 0, 0, 1] = 11 := by
  have h : ¬ rdOk [0, 0, 0, 2, 0, 0, 0, 3, 3, 2, 0, 0, 1] := by decide
  exact rd_bad h
def byA : List UInt8 := [0, 0, 0, 2, 0, 0, 0, 3, 8, 2, 0, 0, 1]
def byB2 : List UInt8 := [0, 0, 0, 2, 0, 0, 0, 3, 3, 2, 0, 0, 1]
theorem lenA : byA.length = 13 := rfl
theorem lenB : byB2.length = 13 := rfl
theorem vA : rdV byA = headV 2 3 2 8 true := fix_a.1
theorem eA : rdE byA = 0 := fix_a.2
theorem vB : rdV byB2 = headV 0 0 0 0 false := fix_b.1
theorem eB : rdE byB2 = 11 := fix_b.2
theorem rd_lit (w : World) (bs : List UInt8) (e : TypeId) (l : Array Value) (h : l = (bs.map B).toArray) : Rd B (w.alloc (.cells l e)) (some ⟨w.heap.size, 0, none⟩) bs := rd_new B w bs e l h
theorem litA : (#[.int .u8 0, .int .u8 0, .int .u8 0, .int .u8 2, .int .u8 0, .int .u8 0, .int .u8 0, .int .u8 3, .int .u8 8, .int .u8 2, .int .u8 0, .int .u8 0, .int .u8 1] : Array Value) = (byA.map B).toArray := rfl
theorem litB : (#[.int .u8 0, .int .u8 0, .int .u8 0, .int .u8 2, .int .u8 0, .int .u8 0, .int .u8 0, .int .u8 3, .int .u8 3, .int .u8 2, .int .u8 0, .int .u8 0, .int .u8 1] : Array Value) = (byB2.map B).toArray := rfl
set_option maxRecDepth 100000 in
set_option maxHeartbeats 800000 in
theorem fixed12_calls (w : World) : Calls Try.prog 27 #[] w fun e w' => e = .returned (.bool true) ∧ Fr No w w' := by
  have e3 : samS 6 = 4 := by decide
  go_enter Try.func27, Try.ntmps27
  go_wp2_with fail
  rw [litA]
  refine (read_calls _ byA _ _ lenA _ (rd_lit w byA _ _ rfl) (by decide)).mono ?_
  rw [vA, eA]
  rintro e w1 ⟨rfl, hf⟩
  have H1 := hid (((Fr.refl No w).alloc _).then hf)
  clear hf
  unfold headV
  go_wp2_with fail
  rw [litB]
  have hrdB : ∀ o : Obj, Rd B ((w1.alloc o).alloc (.cells (byB2.map B).toArray 5)) (some ⟨w1.heap.size + 1, 0, none⟩) byB2 := fun o => by
    have := rd_lit (w1.alloc o) byB2 5 _ rfl
    rw [World.size_alloc] at this
    exact this
  refine (read_calls _ byB2 _ _ lenB _ (hrdB _) (by decide)).mono ?_
  rw [vB, eB]
  rintro e w2 ⟨rfl, hf⟩
  have hf2 : Fr No w1 w2 := (((Fr.refl No w1).alloc _).alloc _).then hf
  have hb0 : ((w1.alloc (.cells #[.int .i64 2, .int .i64 3, .int .i64 2, .int .i64 8, .bool true] 33)).alloc (.cells (byB2.map B).toArray 5)).heap[w1.heap.size]? = some (.cells #[.int .i64 2, .int .i64 3, .int .i64 2, .int .i64 8, .bool true] 33 (0, 0)) :=
    (((Fr.refl No _).alloc _).block w1.heap.size (by rw [World.size_alloc]; omega) (fun h => h)).trans (heap_new _ _)
  obtain ⟨c0, c1, c2, c3, c4, _⟩ := blk5 ((hf.block w1.heap.size (by rw [World.size_alloc, World.size_alloc]; omega) (fun h => h)).trans hb0)
  have hsz : w1.heap.size < w2.heap.size := lt_of_cell c0
  have a0 : ∀ o i v, w2.cell? ⟨w1.heap.size, i, none⟩ = some v → (w2.alloc o).cell? ⟨w1.heap.size, i, none⟩ = some v := fun o i v h => (((Fr.refl No w2).alloc o).cellg _ i hsz (fun h => h)).trans h
  have d0 := fun o => a0 o _ _ c0
  have d1 := fun o => a0 o _ _ c1
  have d2 := fun o => a0 o _ _ c2
  have d3 := fun o => a0 o _ _ c3
  have d4 := fun o => a0 o _ _ c4
  have H2 := hid (H1.out.then hf2)
  clear hrdB hf hf2 hb0 a0
  unfold headV
  go_wp2_with (go_at_call 30; refine (samples_calls _ _).mono ?_; rw [e3]; rintro e w3 ⟨rfl, hf3⟩)
  go_ret
  exact ⟨rfl, (H2.out.alloc _).then hf3⟩
end Go.Proofs.Ytkhglmmidgfliaa

/- The calls whose answers the document fixes, of pixel; PixelPacks' walk. -/
import Derived.Test.YtdbbkdlocmafgaaOf
import Derived.Test.YtdbbkdlocmafgaaRPack
import Derived.Test.YtdbbkdlocmafgaaOpen
namespace Go.Proofs.Ytdbbkdlocmafgaa
open Go.RowKit Go.Proofs.HK
set_option linter.unusedVariables false
set_option linter.unusedSimpArgs false
attribute [local go_sem] max2_int min2_int max_two min_two

def rOne (D : Int) : RS := ⟨1, 1, 0, D, false, none, [], 0, none, [], 0, none, [], 0, none, [], 0⟩
theorem rOne_ok (D : Int) (w : World) : (rOne D).ok w := ⟨Cells.nil, Rd.nil, Rd.nil, Rd.nil, by simp [rOne], by simp [rOne], by simp [rOne], by simp [rOne], by simp [rOne], by simp [rOne], by simp [rOne], by simp [rOne]⟩
theorem rOne_v (D : Int) : (rOne D).v = .agg #[.int .i64 1, .int .i64 1, .int .i64 0, .int .i64 D, .bool false, .slice none 0 0, .slice none 0 0, .slice none 0 0, .slice none 0 0] := rfl
theorem fx_pack : packV [1, 0, 1] 1 = [160] ∧ packE [1, 0, 1] 1 = 0 := by decide
theorem fx_of : ofE (rOne 2) [1] = 0 ∧ ofC (rOne 2) [1] = (21845, 21845, 21845, 65535) := by decide
theorem fx_ofv : (ofC (rOne 2) [1]).v = .agg #[.int .u16 21845, .int .u16 21845, .int .u16 21845, .int .u16 65535] := by rw [fx_of.2]; rfl
theorem lit3 : (#[.int .i64 1, .int .i64 0, .int .i64 1] : Array Value) = (([1, 0, 1] : List Int).map II).toArray := rfl
set_option maxRecDepth 100000 in
set_option maxHeartbeats 1600000 in
theorem fixed15_calls (w : World) : Calls Try.prog 10 #[] w fun e w' => e = .returned (.bool true) ∧ Fr No w w' := by
  go_enter Try.func10, Try.ntmps10
  go_wp2_with fail
  refine (pack_calls _ [1, 0, 1] 3 3 1 _ rfl (rd_new II w [1, 0, 1] _ _ lit3) (by decide)).mono ?_
  rw [fx_pack.1, fx_pack.2]
  rintro e w1 ⟨v, rfl, hN⟩
  obtain ⟨A, n, c, rfl, HN⟩ := hN.use
  have H1 := hid (((Fr.refl No w).alloc _).then HN.out.2.2.2.1)
  clear hN
  go_wp2_with fail
  rw [← rOne_v]
  refine (of_calls (rOne 2) _ [1] 1 1 _ (rOne_ok _ _) rfl (rd_new II w1 [1] _ _ rfl) (by decide)).mono ?_
  rw [fx_of.1, fx_ofv]
  rintro e w2 ⟨rfl, hf2⟩
  have H2 := hid (((Fr.refl No w1).alloc _).then hf2)
  clear hf2
  go_wp2_with fail
  refine (same_calls _ _ [160] [160] n 1 c 1 HN.out.1 rfl _ ((HN.out.2.1.fr0 H2.out).fr0 (((Fr.refl No w2).alloc _).alloc _)) ?_).mono ?_
  · have := rd_new B (w2.alloc (.cells #[.int .u16 21845, .int .u16 21845, .int .u16 21845, .int .u16 65535] 38)) [160] 5 _ rfl
    rw [World.size_alloc] at this
    exact this
  have hself : decide (([160] : List UInt8) = [160]) = true := by decide
  rw [hself]
  rintro e w3 ⟨rfl, rfl⟩
  have hb0 : ((w2.alloc (.cells #[.int .u16 21845, .int .u16 21845, .int .u16 21845, .int .u16 65535] 38)).alloc (.cells #[.int .u8 160] 5)).heap[w2.heap.size]? = some (.cells #[.int .u16 21845, .int .u16 21845, .int .u16 21845, .int .u16 65535] 38 (0, 0)) :=
    (((Fr.refl No _).alloc _).block w2.heap.size (by rw [World.size_alloc]; omega) (fun h => h)).trans (heap_new _ _)
  obtain ⟨⟨c0, c1, c2, c3⟩, _⟩ := blk4c hb0
  clear hb0 hself
  go_wp2_with fail
  go_ret
  exact ⟨rfl, ((H1.out.then H2.out).alloc _).alloc _⟩
end Go.Proofs.Ytdbbkdlocmafgaa

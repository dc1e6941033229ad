/- What is fixed of tokens. -/
import Derived.Test.YtponiapdpecioaaTokR
import Derived.Test.YtponiapdpecioaaTokS
import Derived.Test.YtponiapdpecioaaTokP2
import Derived.Lib.SlBytesConst
namespace Go.Proofs.Ytponiapdpecioaa
open Go.RowKit Go.Proofs.HK
set_option linter.unusedVariables false
set_option linter.unusedSimpArgs false

theorem rd_mark (w : World) (xs : List UInt8) (e : TypeId) (l : Array Value) (h : l = (xs.map B).toArray) (m : Nat × Nat) : Rd B (w.alloc (.cells l e m)) (some ⟨w.heap.size, 0, none⟩) xs := by
  subst h
  have hb := heap_new w (.cells (xs.map B).toArray e m)
  intro _
  refine ⟨_, rfl, fun j hj => ?_⟩
  rw [add_lit, Nat.zero_add]
  unfold World.cell?
  rw [hb]
  simp [hj]
theorem tok12 : tokE 1 0 = 0 ∧ tokB 1 2 [] = sealB [1, 0, 0, 0, 2, 0, 0, 0, 0] := by
  have h : tokE 1 0 = 0 := by decide
  refine ⟨h, ?_⟩
  unfold tokB
  rw [show ([] : List UInt8).length = 0 from rfl, if_pos h]
  congr 1
set_option maxRecDepth 100000 in
set_option maxHeartbeats 1600000 in
theorem fixed25_calls (w : World) : Calls Try.prog 9 #[] w fun e w' => e = .returned (.bool true) ∧ Fr No w w' := by
  have hw1 : ∀ W, Calls Try.prog 10 #[.agg #[.int .i64 1, .int .u32 2, .slice none 0 0]] W fun e w' => ∃ v, e = .returned (.tuple #[v, .int .i64 0]) ∧ New B W w' v (sealB [1, 0, 0, 0, 2, 0, 0, 0, 0]) := fun W => by
    have := write_calls 1 2 [] none 0 0 W rfl Rd.nil (by decide)
    rw [tok12.1, tok12.2] at this
    exact this
  have hT := trd_tok 1 2 [] tok12.1 (by decide)
  rw [tok12.2] at hT
  have hL : (sealB [1, 0, 0, 0, 2, 0, 0, 0, 0]).length = 13 := by rw [sealB_length]; rfl
  have HW := hid hw1
  have hcv : ∀ W : World, (convert 23 23 (.slice (some ⟨W.heap.size, 0, none⟩) 1 1)).run Try.prog (W.alloc (.cells #[.int .u8 120] 5)) = .ok (.slice (some ⟨W.heap.size, 0, none⟩) 1 1) (W.alloc (.cells #[.int .u8 120] 5 (1, 2))) := fun W => Lib.run_convert_bytes_const W 23 5 #[.int .u8 120] 1 1 slU8.und u8U
  have HT := hid (And.intro hT hL)
  clear hw1 hT hL
  go_enter Try.func9, Try.ntmps9
  go_wp2_with fail
  refine (HW.out _).mono ?_
  rintro e w1 ⟨v1, rfl, hnew⟩
  obtain ⟨A1, n1, c1, rfl, N1⟩ := hnew.use
  clear hnew
  obtain rfl : n1 = 13 := by rw [← N1.out.1, HT.out.2]
  go_wp2_with fail
  refine (read_calls A1 _ 13 c1 _ N1.out.1 N1.out.2.1 N1.out.2.2.1 (by decide)).mono ?_
  rw [HT.out.1.1, HT.out.1.2]
  rintro e w2 ⟨v2, rfl, hnew2⟩
  obtain ⟨A2, n2, c2, rfl, N2⟩ := hnew2.use
  clear hnew2
  go_wp2_with fail
  obtain ⟨gt, hgt⟩ : ∃ g, g = w2.heap.size := ⟨_, rfl⟩
  obtain ⟨X, hX⟩ : ∃ X, X = w2.alloc (.cells #[.int .i64 1, .int .u32 2, .slice A2 n2 c2] 25) := ⟨_, rfl⟩
  have hbX : X.heap[gt]? = some (.cells #[.int .i64 1, .int .u32 2, .slice A2 n2 c2] 25 (0, 0)) := by rw [hX, hgt]; exact heap_new _ _
  have hfX : Fr No w1 X := by rw [hX]; exact N2.out.2.2.2.1.alloc _
  rw [← hX, ← hgt]
  have HX := hid (And.intro hbX hfX)
  clear hX hbX hfX hgt
  refine (snew_calls _).mono ?_
  rintro e w4 ⟨rfl, hs4, hf4⟩
  obtain ⟨gs, hgs⟩ : ∃ g, g = X.heap.size := ⟨_, rfl⟩
  rw [← hgs] at hs4 ⊢
  have HGS := hid hgs
  have hgts : gt < X.heap.size := (Array.getElem?_eq_some_iff.1 HX.out.1).1
  have H4 := hid (And.intro hs4 hf4)
  clear hs4 hf4 hgs
  go_wp2_with fail
  refine (sput_calls gs [] [] [120] _ 1 1 _ (H4.out.1.fr (S := No) ((Fr.refl _ _).alloc _) (fun _ _ h => h) (fun h => h)) rfl (rd_mark w4 [120] _ _ rfl _) (by decide)).mono ?_
  rintro e w5 ⟨rfl, ⟨T, hs5, hT5⟩, hf5⟩
  have H5 := hid (And.intro hs5 hf5)
  clear hs5 hf5 hT5
  go_wp2_with fail
  refine (scrash_calls gs [120] [] true false _ H5.out.1).mono ?_
  rintro e w6 ⟨rfl, hs6, hf6⟩
  have hgs := HGS.out
  have hF6 : Fr (HK.One gs) X w6 := ((H4.out.2.any).then (((Fr.refl _ _).alloc _).then H5.out.2)).then hf6
  have hb6 : w6.heap[gt]? = some (.cells #[.int .i64 1, .int .u32 2, .slice A2 n2 c2] 25 (0, 0)) := (hF6.block gt hgts (fun e => by have e : gt = gs := e; omega)).trans HX.out.1
  have hF16 : Fr No w1 w6 := HX.out.2.trans hF6 (fun q hq e => by have e : q = gs := e; have := HX.out.2.size; omega)
  have H6 := hid (And.intro hs6 (And.intro hF16 (And.intro hb6 hgts)))
  clear hs6 hf6 hF6 hb6 hF16 hgts hgs
  go_wp2_with fail
  refine (sealed_calls _ [1, 0, 0, 0, 2, 0, 0, 0, 0] 9 9 _ rfl (rd_new B w6 [1, 0, 0, 0, 2, 0, 0, 0, 0] _ _ rfl) (by decide)).mono ?_
  rintro e w7 ⟨v7, rfl, hnew7⟩
  obtain ⟨A7, n7, c7, rfl, N7⟩ := hnew7.use
  clear hnew7
  obtain rfl : n7 = 13 := by rw [← N7.out.1, HT.out.2]
  have hF67 : Fr No w6 w7 := ((Fr.refl No w6).alloc _).then N7.out.2.2.2.1
  obtain ⟨⟨d0, d1, d2⟩, _⟩ := blk3s ((hF67.block gt (Array.getElem?_eq_some_iff.1 H6.out.2.2.1).1 (fun h => h)).trans H6.out.2.2.1)
  have H7 := hid hF67
  clear hF67
  go_wp2_with fail
  refine (same_calls _ _ _ _ _ _ _ _ N1.out.1 N7.out.1 _ (N1.out.2.1.fr0 (H6.out.2.1.then H7.out)) N7.out.2.1).mono ?_
  rw [decide_eq_true (show sealB [1, 0, 0, 0, 2, 0, 0, 0, 0] = sealB [1, 0, 0, 0, 2, 0, 0, 0, 0] from rfl)]
  rintro e w8 ⟨rfl, hw8⟩
  rw [hw8]
  clear hw8 w8
  go_wp2_with fail
  refine (sget_calls gs _ _ _ _ (H6.out.1.fr H7.out (fun _ _ h => h) (fun h => h))).mono ?_
  rintro e w9 ⟨v9, rfl, hnew9⟩
  obtain ⟨A9, n9, c9, rfl, N9⟩ := hnew9.use
  clear hnew9
  obtain rfl : n9 = 0 := by rw [← N9.out.1]; rfl
  clear d0 d1 d2
  go_wp2_with fail
  refine (sbusy_calls gs _ _ _ _ ((H6.out.1.fr H7.out (fun _ _ h => h) (fun h => h)).fr N9.out.2.2.2.1 (fun _ _ h => h) (fun h => h))).mono ?_
  rintro e w10 ⟨rfl, hw10⟩
  rw [hw10]
  clear hw10 w10
  go_wp2_with fail
  go_ret
  exact ⟨rfl, ((N1.out.2.2.2.1.then H6.out.2.1).then H7.out).then N9.out.2.2.2.1⟩
end Go.Proofs.Ytponiapdpecioaa

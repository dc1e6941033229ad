/- PixelBack: for every input the law returns true, and each argument reads as it did. No condition of its own beyond the row's. -/
import Derived.Test.YtdbbkdlocmafgaaRows
import Derived.Test.YtdbbkdlocmafgaaPLaw7
import Derived.Test.YtdbbkdlocmafgaaOpen
namespace Go.Proofs.Ytdbbkdlocmafgaa.pixelBack
open Go.ChangeShapes Go.WideShapes Go.ChangeAt Go.RowKit Go.Proofs.HK
set_option linter.unusedVariables false
theorem own : ownKnob Try.prog.godebug = none := by kernel_rfl
theorem laidOut : laidOutB Try.prog = true := by kernel_rfl
set_option maxRecDepth 100000 in
theorem lifted (os : Os) (started : os.Started) (H : Type) (enc : TypeId × Value → H) :
    ReturnsInHanded {} Try.checked os 8 .any (Rows.pixelBackSpec.pre6 enc Try.prog Try.f8 Rows.pixelBackRow.domain false) (Rows.pixelBackSpec.post enc Try.prog Try.f8 false true false false) := by
  refine returnsInHanded_of_change_sized (C := Try.checked) own started (by kernel_rfl) Try.func8
    (ChangeSpec.witness6 (enc := enc) (C := Try.checked) false ⟨#[], #[.slice none 0 0, .int .u8 0, .slice none 0 0], []⟩ 8 (by kernel_rfl) (by kernel_rfl) (by kernel_rfl) (by kernel_rfl)) ?_
  intro W base args ds gs before hval0 hW hcnd hsz0 _
  have hval : ∀ (j : Nat) t v, Try.f8.params[j]? = some t → args[j]? = some v → Value.okWide Try.prog W .any base t v := hval0
  have hsz : (DataW.weightsEach Try.prog (Try.f8.params.toList ++ Rows.pixelBackSpec.plain.varTypes Try.prog) (ds ++ gs)).all (· ≤ reachBytes) = true := hsz0
  have hW' := hW
  obtain ⟨p, q, hA0, hV, rfl, hfz, hnd⟩ := hW
  have hA : DataW.TrodAll enc Try.prog W 0 (fun _ => true) true Try.f8.params.toList args.toList ds p := hA0
  rw [Try.params8] at hA hval hsz
  obtain ⟨v0, vs0, d0, ds0, p0, q0, hargs, rfl, rfl, h0, r0⟩ := trodAll_cons hA
  obtain ⟨v1, vs1, d1, ds1, p1, q1, rfl, rfl, rfl, h1, r1⟩ := trodAll_cons r0
  obtain ⟨v2, vs2, d2, ds2, p2, q2, rfl, rfl, rfl, h2, r2⟩ := trodAll_cons r1
  obtain ⟨rfl, rfl, rfl⟩ := trodAll_nil r2
  obtain rfl : args = #[v0, v1, v2] := by cases args; simp_all
  obtain ⟨rfl, rfl⟩ := trodVars_none hV
  obtain ⟨A0, n0, c0, rfl⟩ := okWide_slice Try.underlying22 (hval 0 22 v0 rfl rfl)
  have k0 := h0
  have lt0 : ∀ x ∈ p0, x.block < W.heap.size := by obtain ⟨m, hm⟩ := k0; exact DataW.trod_lt m _ _ _ hm
  obtain ⟨fl0, hf0⟩ := h0
  obtain ⟨x0, hx0⟩ := (Dec.slice (Dec.int (k := .i64) Try.underlying3) (sz := 1) (bytes := 8) Try.underlying22 (by kernel_rfl) (by kernel_rfl)).ok enc W 0 (fun _ => true) true fl0 _ _ hf0 (fun m hm => by simpa using List.all_eq_true.1 hsz m (DataW.weights_mem_each (j := 0) rfl rfl m hm))
  have s0 : SlM (Dec.int (k := .i64) Try.underlying3).K 1 8 W A0 x0 n0 c0 := by
    obtain ⟨A, n, c, e, hs⟩ := hx0
    simp only [Value.cells, List.cons.injEq, Value.slice.injEq, and_true] at e
    obtain ⟨rfl, rfl, rfl⟩ := e
    exact hs
  obtain ⟨a1, rfl, rfl, rfl, w1⟩ := open_int Try.underlying5 (hval 1 5 v1 rfl rfl) h1
  obtain ⟨A2, n2, c2, rfl⟩ := okWide_slice Try.underlying24 (hval 2 24 v2 rfl rfl)
  have k2 := h2
  have lt2 : ∀ x ∈ p2, x.block < W.heap.size := by obtain ⟨m, hm⟩ := k2; exact DataW.trod_lt m _ _ _ hm
  obtain ⟨fl2, hf2⟩ := h2
  obtain ⟨x2, hx2⟩ := (Dec.slice (Dec.u8 Try.underlying5) (sz := 1) (bytes := 1) Try.underlying24 (by kernel_rfl) (by kernel_rfl)).ok enc W 0 (fun _ => true) true fl2 _ _ hf2 (fun m hm => by simpa using List.all_eq_true.1 hsz m (DataW.weights_mem_each (j := 2) rfl rfl m hm))
  have s2 : SlM (Dec.u8 Try.underlying5).K 1 1 W A2 x2 n2 c2 := by
    obtain ⟨A, n, c, e, hs⟩ := hx2
    simp only [Value.cells, List.cons.injEq, Value.slice.injEq, and_true] at e
    obtain ⟨rfl, rfl, rfl⟩ := e
    exact hs
  clear hA0 hval0
  refine (pixelBack_walk A0 x0 n0 c0 a1 A2 x2 n2 c2 W (s0.sl (fun _ _ h => h.1)) (fun i hi => by obtain ⟨_, _, _, _, _, hk⟩ := s0.at_ i hi; exact bounds_i64 hk.2) (bounds_u8 w1) (s2.sl (fun _ _ h => h))).mono fun e W' ⟨he, fr⟩ => ?_
  have bel := fr.to_below
  subst he
  exact ⟨_, rfl, _, _, _, [], _, [], hW', trodAll_mk1 (shut_bool Try.underlying4 _), (trodAll_cons_mk (Below.trod laidOut (by kernel_rfl) (of_decide_eq_true (by kernel_rfl)) k0 bel lt0) (trodAll_cons_mk (shut_int Try.underlying5 w1) (trodAll_cons_mk (Below.trod laidOut (by kernel_rfl) (of_decide_eq_true (by kernel_rfl)) k2 bel lt2) trodAll_mk0))), rfl, bel.frame _, fun h => by cases h⟩
theorem over : Rows.pixelBackRow.holds Try.pinned (OpenSpec.ofChange Rows.pixelBackSpec) :=
  OpenClaim.holds_of_wide 8 Try.f8 rfl rfl rfl rfl rfl rfl rfl ⟨rfl, rfl, rfl, rfl, rfl⟩ rfl rfl rfl rfl rfl (by kernel_rfl) Try.func8 (by kernel_rfl)
    (of_decide_eq_true (by kernel_rfl)) (by unfold Func.isWrapper; first | (rw [if_pos (by decide +kernel)]; kernel_rfl) | (rw [if_neg (by decide +kernel)]; exact ⟨rfl, rfl⟩))
    (fun os started H enc _ => lifted os started H enc)
theorem proved : Rows.PixelBackSaid := over
#print axioms proved
end Go.Proofs.Ytdbbkdlocmafgaa.pixelBack

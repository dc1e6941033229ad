/- PixelPacks: for every input of bulk at most 1048576 the law returns true, and each argument reads as it did. No condition beyond that bound. -/
import Derived.Test.YtdbbkdlocmafgaaRows
import Derived.Test.YtdbbkdlocmafgaaPLaw2
import Derived.Test.YtdbbkdlocmafgaaOpen
import Derived.JoinedCond
import Derived.Deep.CondSized
import Derived.Test.YtdbbkdlocmafgaaBulk1
namespace Go.Proofs.Ytdbbkdlocmafgaa.pixelPacks
open Go.ChangeShapes Go.WideShapes Go.ChangeAt Go.RowKit Go.Proofs.HK
set_option linter.unusedVariables false
theorem own : ownKnob Try.prog.godebug = none := by kernel_rfl
theorem laidOut : laidOutB Try.prog = true := by kernel_rfl
set_option maxRecDepth 100000 in
theorem lifted (os : Os) (started : os.Started) (H : Type) (enc : TypeId × Value → H) (F : Stop.Interp) :
    ReturnsInHanded {} Try.checked os 3 .any ((Rows.OpenSpec.upto Rows.pixelPacksSpec).pre6 enc Try.prog Try.f3 Rows.pixelPacksUptoRow.domain false) (((Rows.OpenSpec.upto Rows.pixelPacksSpec).at F).post enc Try.prog Try.f3 false true false false) := by
  refine returnsInHanded_of_cond_sized (C := Try.checked) (s := Rows.OpenSpec.upto Rows.pixelPacksSpec) (k := Rows.uptoSmall) rfl own started (by kernel_rfl) Try.func3
    (OpenSpec.witness (enc := enc) (C := Try.checked) (s := Rows.OpenSpec.upto Rows.pixelPacksSpec) (k := Rows.uptoSmall) rfl false ⟨#[], #[.slice none 0 0, .int .i64 0], []⟩ 8 (by kernel_rfl) (by kernel_rfl) (by kernel_rfl)
      (x := ([.nil, .lit (.int .i64 0)], [], [])) (by kernel_rfl) rfl (by kernel_rfl)) ?_
  intro W base args ds gs before hval0 hW hcnd hbulk hsz0 _
  show Calls _ _ _ _ fun e W' => ∃ v, e = .returned v ∧ Rows.pixelPacksSpec.post enc Try.prog Try.f3 false true false false W args v W'
  have hval : ∀ (j : Nat) t v, Try.f3.params[j]? = some t → args[j]? = some v → Value.okWide Try.prog W .any base t v := hval0
  have hsz : (DataW.weightsEach Try.prog (Try.f3.params.toList ++ Rows.pixelPacksSpec.plain.varTypes Try.prog) (ds ++ gs)).all (· ≤ reachBytes) = true := hsz0
  have hW' := hW
  obtain ⟨p, q, hA0, hV, rfl, hfz, hnd⟩ := hW
  have hA : DataW.TrodAll enc Try.prog W 0 (fun _ => true) true Try.f3.params.toList args.toList ds p := hA0
  rw [Try.params3] at hA hval hsz
  obtain ⟨v0, vs0, d0, ds0, p0, q0, hargs, rfl, rfl, h0, r0⟩ := trodAll_cons hA
  obtain ⟨v1, vs1, d1, ds1, p1, q1, rfl, rfl, rfl, h1, r1⟩ := trodAll_cons r0
  obtain ⟨rfl, rfl, rfl⟩ := trodAll_nil r1
  obtain rfl : args = #[v0, v1] := by cases args; simp_all
  obtain ⟨rfl, rfl⟩ := trodVars_none hV
  obtain ⟨A0, n0, c0, rfl⟩ := okWide_slice Try.underlying22 (hval 0 22 v0 rfl rfl)
  have k0 := h0
  have lt0 : ∀ x ∈ p0, x.block < W.heap.size := by obtain ⟨m, hm⟩ := k0; exact DataW.trod_lt m _ _ _ hm
  obtain ⟨fl0, hf0⟩ := h0
  obtain ⟨x0, hx0⟩ := (Dec.slice (Dec.int (k := .i64) Try.underlying3) (sz := 1) (bytes := 8) Try.underlying22 (by kernel_rfl) (by kernel_rfl)).ok enc W 0 (fun _ => true) true fl0 _ _ hf0 (fun m hm => by simpa using List.all_eq_true.1 hsz m (DataW.weights_mem_each (j := 0) rfl rfl m hm))
  have s0 : SlM (Dec.int (k := .i64) Try.underlying3).K 1 8 W A0 x0 n0 c0 := by
    obtain ⟨A, n, c, e, hs⟩ := hx0
    simp only [Value.cells, List.cons.injEq, Value.slice.injEq, and_true] at e
    obtain ⟨rfl, rfl, rfl⟩ := e
    exact hs
  obtain ⟨a1, rfl, rfl, rfl, w1⟩ := open_int Try.underlying3 (hval 1 3 v1 rfl rfl) h1
  clear hA0 hval0
  refine (pixelPacks_walk A0 x0 n0 c0 a1 W (s0.sl (fun _ _ h => h.1)) (fun i hi => by obtain ⟨_, _, _, _, _, hk⟩ := s0.at_ i hi; exact bounds_i64 hk.2) (bulk_le Try.underlying22 hf0 hbulk (by simp)) (bounds_i64 w1)).mono fun e W' ⟨he, fr⟩ => ?_
  have bel := fr.to_below
  subst he
  exact ⟨_, rfl, _, _, _, [], _, [], hW', trodAll_mk1 (shut_bool Try.underlying4 _), (trodAll_cons_mk (Below.trod laidOut (by kernel_rfl) (of_decide_eq_true (by kernel_rfl)) k0 bel lt0) (trodAll_cons_mk (shut_int Try.underlying3 w1) trodAll_mk0)), rfl, bel.frame _, fun h => by cases h⟩
theorem over : Rows.pixelPacksUptoRow.holds Try.pinned (Rows.OpenSpec.upto Rows.pixelPacksSpec) :=
  OpenClaim.holds_of_cond 3 Try.f3 rfl rfl rfl rfl rfl rfl rfl ⟨rfl, rfl, rfl, rfl, rfl⟩ rfl rfl rfl rfl rfl (by kernel_rfl) Try.func3 (by kernel_rfl)
    (of_decide_eq_true (by kernel_rfl)) (by unfold Func.isWrapper; first | (rw [if_pos (by decide +kernel)]; kernel_rfl) | (rw [if_neg (by decide +kernel)]; exact ⟨rfl, rfl⟩))
    (fun os started H enc _ F => lifted os started H enc F)
theorem proved : Rows.PixelPacksUptoSaid := over
#print axioms proved
end Go.Proofs.Ytdbbkdlocmafgaa.pixelPacks

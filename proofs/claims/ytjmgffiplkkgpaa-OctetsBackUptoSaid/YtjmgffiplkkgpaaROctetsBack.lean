/- OctetsBack: for every input of bulk at most 1048576 the law returns true, and each argument reads as it did. No condition beyond that bound. -/
import Derived.Test.YtjmgffiplkkgpaaRows
import Derived.Test.YtjmgffiplkkgpaaOBack
import Derived.Test.YtjmgffiplkkgpaaOpen
import Derived.JoinedCond
import Derived.Deep.CondSized
import Derived.Test.YtjmgffiplkkgpaaBulk1
namespace Go.Proofs.Ytjmgffiplkkgpaa.octetsBack
open Go.ChangeShapes Go.WideShapes Go.ChangeAt Go.RowKit Go.Proofs.HK
set_option linter.unusedVariables false
theorem own : ownKnob Try.prog.godebug = none := by kernel_rfl
theorem laidOut : laidOutB Try.prog = true := by kernel_rfl
set_option maxRecDepth 100000 in
theorem lifted (os : Os) (started : os.Started) (H : Type) (enc : TypeId × Value → H) (F : Stop.Interp) :
    ReturnsInHanded {} Try.checked os 9 .any ((Rows.OpenSpec.upto Rows.octetsBackSpec).pre6 enc Try.prog Try.f9 Rows.octetsBackUptoRow.domain false) (((Rows.OpenSpec.upto Rows.octetsBackSpec).at F).post enc Try.prog Try.f9 false true false false) := by
  refine returnsInHanded_of_cond_sized (C := Try.checked) (s := Rows.OpenSpec.upto Rows.octetsBackSpec) (k := Rows.uptoSmall) rfl own started (by kernel_rfl) Try.func9
    (OpenSpec.witness (enc := enc) (C := Try.checked) (s := Rows.OpenSpec.upto Rows.octetsBackSpec) (k := Rows.uptoSmall) rfl false ⟨#[], #[.int .i64 0, .int .u8 0, .slice none 0 0, .slice none 0 0], []⟩ 8 (by kernel_rfl) (by kernel_rfl) (by kernel_rfl)
      (x := ([.lit (.int .i64 0), .lit (.int .u8 0), .nil, .nil], [], [])) (by kernel_rfl) rfl (by kernel_rfl)) ?_
  intro W base args ds gs before hval0 hW hcnd hbulk hsz0 _
  show Calls _ _ _ _ fun e W' => ∃ v, e = .returned v ∧ Rows.octetsBackSpec.post enc Try.prog Try.f9 false true false false W args v W'
  have hval : ∀ (j : Nat) t v, Try.f9.params[j]? = some t → args[j]? = some v → Value.okWide Try.prog W .any base t v := hval0
  have hsz : (DataW.weightsEach Try.prog (Try.f9.params.toList ++ Rows.octetsBackSpec.plain.varTypes Try.prog) (ds ++ gs)).all (· ≤ reachBytes) = true := hsz0
  have hW' := hW
  obtain ⟨p, q, hA0, hV, rfl, hfz, hnd⟩ := hW
  have hA : DataW.TrodAll enc Try.prog W 0 (fun _ => true) true Try.f9.params.toList args.toList ds p := hA0
  rw [Try.params9] at hA hval hsz
  obtain ⟨v0, vs0, d0, ds0, p0, q0, hargs, rfl, rfl, h0, r0⟩ := trodAll_cons hA
  obtain ⟨v1, vs1, d1, ds1, p1, q1, rfl, rfl, rfl, h1, r1⟩ := trodAll_cons r0
  obtain ⟨v2, vs2, d2, ds2, p2, q2, rfl, rfl, rfl, h2, r2⟩ := trodAll_cons r1
  obtain ⟨v3, vs3, d3, ds3, p3, q3, rfl, rfl, rfl, h3, r3⟩ := trodAll_cons r2
  obtain ⟨rfl, rfl, rfl⟩ := trodAll_nil r3
  obtain rfl : args = #[v0, v1, v2, v3] := by cases args; simp_all
  obtain ⟨rfl, rfl⟩ := trodVars_none hV
  obtain ⟨a0, rfl, rfl, rfl, w0⟩ := open_int Try.underlying3 (hval 0 3 v0 rfl rfl) h0
  obtain ⟨a1, rfl, rfl, rfl, w1⟩ := open_int Try.underlying5 (hval 1 5 v1 rfl rfl) h1
  obtain ⟨A2, n2, c2, rfl⟩ := okWide_slice Try.underlying22 (hval 2 22 v2 rfl rfl)
  have k2 := h2
  have lt2 : ∀ x ∈ p2, x.block < W.heap.size := by obtain ⟨m, hm⟩ := k2; exact DataW.trod_lt m _ _ _ hm
  obtain ⟨fl2, hf2⟩ := h2
  obtain ⟨x2, hx2⟩ := (Dec.slice (Dec.u8 Try.underlying5) (sz := 1) (bytes := 1) Try.underlying22 (by kernel_rfl) (by kernel_rfl)).ok enc W 0 (fun _ => true) true fl2 _ _ hf2 (fun m hm => by simpa using List.all_eq_true.1 hsz m (DataW.weights_mem_each (j := 2) rfl rfl m hm))
  have s2 : SlM (Dec.u8 Try.underlying5).K 1 1 W A2 x2 n2 c2 := by
    obtain ⟨A, n, c, e, hs⟩ := hx2
    simp only [Value.cells, List.cons.injEq, Value.slice.injEq, and_true] at e
    obtain ⟨rfl, rfl, rfl⟩ := e
    exact hs
  obtain ⟨A3, n3, c3, rfl⟩ := okWide_slice Try.underlying22 (hval 3 22 v3 rfl rfl)
  have k3 := h3
  have lt3 : ∀ x ∈ p3, x.block < W.heap.size := by obtain ⟨m, hm⟩ := k3; exact DataW.trod_lt m _ _ _ hm
  obtain ⟨fl3, hf3⟩ := h3
  obtain ⟨x3, hx3⟩ := (Dec.slice (Dec.u8 Try.underlying5) (sz := 1) (bytes := 1) Try.underlying22 (by kernel_rfl) (by kernel_rfl)).ok enc W 0 (fun _ => true) true fl3 _ _ hf3 (fun m hm => by simpa using List.all_eq_true.1 hsz m (DataW.weights_mem_each (j := 3) rfl rfl m hm))
  have s3 : SlM (Dec.u8 Try.underlying5).K 1 1 W A3 x3 n3 c3 := by
    obtain ⟨A, n, c, e, hs⟩ := hx3
    simp only [Value.cells, List.cons.injEq, Value.slice.injEq, and_true] at e
    obtain ⟨rfl, rfl, rfl⟩ := e
    exact hs
  clear hA0 hval0
  refine (octetsBack_walk a0 a1 A2 x2 n2 c2 A3 x3 n3 c3 W (bounds_i64 w0) (bounds_u8 w1) (s2.sl (fun _ _ h => h)) (bulk_le Try.underlying22 hf2 hbulk (by simp)) (s3.sl (fun _ _ h => h)) (bulk_le Try.underlying22 hf3 hbulk (by simp))).mono fun e W' ⟨he, fr⟩ => ?_
  have bel := fr.to_below
  subst he
  exact ⟨_, rfl, _, _, _, [], _, [], hW', trodAll_mk1 (shut_bool Try.underlying4 _), (trodAll_cons_mk (shut_int Try.underlying3 w0) (trodAll_cons_mk (shut_int Try.underlying5 w1) (trodAll_cons_mk (Below.trod laidOut (by kernel_rfl) (of_decide_eq_true (by kernel_rfl)) k2 bel lt2) (trodAll_cons_mk (Below.trod laidOut (by kernel_rfl) (of_decide_eq_true (by kernel_rfl)) k3 bel lt3) trodAll_mk0)))), rfl, bel.frame _, fun h => by cases h⟩
theorem over : Rows.octetsBackUptoRow.holds Try.pinned (Rows.OpenSpec.upto Rows.octetsBackSpec) :=
  OpenClaim.holds_of_cond 9 Try.f9 rfl rfl rfl rfl rfl rfl rfl ⟨rfl, rfl, rfl, rfl, rfl⟩ rfl rfl rfl rfl rfl (by kernel_rfl) Try.func9 (by kernel_rfl)
    (of_decide_eq_true (by kernel_rfl)) (by unfold Func.isWrapper; first | (rw [if_pos (by decide +kernel)]; kernel_rfl) | (rw [if_neg (by decide +kernel)]; exact ⟨rfl, rfl⟩))
    (fun os started H enc _ F => lifted os started H enc F)
theorem proved : Rows.OctetsBackUptoSaid := over
#print axioms proved
end Go.Proofs.Ytjmgffiplkkgpaa.octetsBack

/- ScreenReads: for every input the law returns true, and each argument reads as it did. No condition of its own beyond the row's. -/
import Derived.Test.YtamkfjbdcjkchaaDoorRows
import Derived.Test.YtamkfjbdcjkchaaDoorScLaw3
import Derived.Test.YtamkfjbdcjkchaaDoorOpen
import Derived.Test.YtamkfjbdcjkchaaDoorSLaid
import Derived.Test.YtamkfjbdcjkchaaDoorCards
import Derived.Test.YtamkfjbdcjkchaaDoorTie
namespace Go.Proofs.YtamkfjbdcjkchaaDoor.screenReads
open Go.ChangeShapes Go.WideShapes Go.ChangeAt Go.RowKit Go.Proofs.HK
set_option linter.unusedVariables false
theorem own : ownKnob Tryd.prog.godebug = none := by kernel_rfl
theorem laidOut : laidOutB Tryd.prog = true := by kernel_rfl
set_option maxRecDepth 100000 in
theorem lifted (os : Os) (started : os.Started) (H : Type) (enc : TypeId × Value → H) :
    ReturnsInHanded {} Tryd.checked os 3 .any (fun w args => (Rows.screenReadsSpec.pre enc Tryd.prog Tryd.f3 [] false w args ∧ laidMetH Tryd.prog laidL w) ∧ sizedMet enc Tryd.prog Tryd.f3 (OpenSpec.ofChange Rows.screenReadsSpec) false w args) (Rows.screenReadsSpec.post enc Tryd.prog Tryd.f3 false true false false) := by
  refine returnsInHanded_of_row (C := Tryd.checked) (s := OpenSpec.ofChange Rows.screenReadsSpec) (F := fun _ _ _ => 0) (conds := []) (laid := laidL) own started (by kernel_rfl) Tryd.func3
    (ChangeSpec.witness_shaped (enc := enc) (C := Tryd.checked) (os := os) (X := fun w _ => laidMetH Tryd.prog laidL w) false (World.doorLaid Tryd.prog 4000 os) #[.slice none 0 0] 8 rfl (World.shaped_of_RefB (by kernel_rfl) (by kernel_rfl)) (by kernel_rfl) (by kernel_rfl) (by kernel_rfl) (door_met os _)) ?_
  intro W base args ds gs before hval0 hW hcnd hcond hsz0 hL hsh _
  show Calls _ _ _ _ fun e W' => ∃ v, e = .returned v ∧ Rows.screenReadsSpec.post enc Tryd.prog Tryd.f3 false true false false W args v W'
  have hval : ∀ (j : Nat) t v, Tryd.f3.params[j]? = some t → args[j]? = some v → Value.okWide Tryd.prog W .any base t v := hval0
  have hsz : (DataW.weightsEach Tryd.prog (Tryd.f3.params.toList ++ Rows.screenReadsSpec.plain.varTypes Tryd.prog) (ds ++ gs)).all (· ≤ reachBytes) = true := hsz0
  have hW' := hW
  obtain ⟨p, q, hA0, hV, rfl, hfz, hnd⟩ := hW
  have hA : DataW.TrodAll enc Tryd.prog W 0 (fun _ => true) true Tryd.f3.params.toList args.toList ds p := hA0
  rw [Tryd.params3] at hA hval hsz
  obtain ⟨v0, vs0, d0, ds0, p0, q0, hargs, rfl, rfl, h0, r0⟩ := trodAll_cons hA
  obtain ⟨rfl, rfl, rfl⟩ := trodAll_nil r0
  obtain rfl : args = #[v0] := by cases args; simp_all
  obtain ⟨rfl, rfl⟩ := trodVars_none hV
  obtain ⟨A0, n0, c0, rfl⟩ := okWide_slice Tryd.underlying22 (hval 0 22 v0 rfl rfl)
  have k0 := h0
  have lt0 : ∀ x ∈ p0, x.block < W.heap.size := by obtain ⟨m, hm⟩ := k0; exact DataW.trod_lt m _ _ _ hm
  obtain ⟨fl0, hf0⟩ := h0
  obtain ⟨x0, hx0⟩ := (Dec.slice (Dec.u8 Tryd.underlying5) (sz := 1) (bytes := 1) Tryd.underlying22 (by kernel_rfl) (by kernel_rfl)).ok enc W 0 (fun _ => true) true fl0 _ _ hf0 (fun m hm => by simpa using List.all_eq_true.1 hsz m (DataW.weights_mem_each (j := 0) rfl rfl m hm))
  have s0 : SlM (Dec.u8 Tryd.underlying5).K 1 1 W A0 x0 n0 c0 := by
    obtain ⟨A, n, c, e, hs⟩ := hx0
    simp only [Value.cells, List.cons.injEq, Value.slice.injEq, and_true] at e
    obtain ⟨rfl, rfl, rfl⟩ := e
    exact hs
  clear hA0 hval0
  refine (screenReads_walk A0 x0 n0 c0 W (s0.sl (fun _ _ h => h)) (tab_of_laid hL)).mono fun e W' ⟨he, fr⟩ => ?_
  have bel := fr.to_below
  subst he
  exact ⟨_, rfl, _, _, _, [], _, [], hW', trodAll_mk1 (shut_bool Tryd.underlying4 _), (trodAll_cons_mk (Below.trod laidOut (by kernel_rfl) (of_decide_eq_true (by kernel_rfl)) k0 bel lt0) trodAll_mk0), rfl, bel.frame _, fun h => by cases h⟩
theorem over : Rows.screenReadsRow.holds Tryd.pinned (OpenSpec.ofChange Rows.screenReadsSpec) :=
  OpenClaim.holds_of_wide 3 Tryd.f3 rfl rfl rfl rfl rfl rfl rfl ⟨rfl, rfl, rfl, rfl, rfl⟩ rfl rfl rfl rfl rfl (by kernel_rfl) Tryd.func3 (by kernel_rfl)
    (of_decide_eq_true (by kernel_rfl)) (by unfold Func.isWrapper; first | (rw [if_pos (by decide +kernel)]; kernel_rfl) | (rw [if_neg (by decide +kernel)]; exact ⟨rfl, rfl⟩))
    (fun os started H enc _ => lifted os started H enc)
theorem proved : Rows.ScreenReadsCardSaid :=
  Claim7.holds_tied_plain_at .later [] [.data, .data] true (true, "2c294d22b1f72c8cf2bc2d8b20d20b246f33fdb7e86d6ab1b9672f3fbfdfde75") false
    over (fun _ h => by cases h) (by kernel_rfl) (fun _ h => by cases h) screenReads_row_tie rfl ⟨rfl, rfl⟩ (by kernel_rfl) rfl
    (fun f fn hf hfn => by
      obtain rfl : f = 3 := Option.some.inj ((show Tryd.prog.funcNamed "halftone/halftonelaw17.ScreenReads" = some 3 by kernel_rfl).symm.trans hf) |>.symm
      obtain rfl : fn = Tryd.f3 := (Option.some.inj (Tryd.func3.symm.trans hfn)).symm
      exact ⟨by kernel_rfl, fun j t ht => by
        rw [Tryd.params3] at ht
        have h3 : t = 22 := by
          match j, ht with
          | 0, ht => exact (Option.some.inj ht).symm
          | j + 1, ht => simp at ht
        rcases h3 with rfl
        · exact (show Tryd.prog.wantsStandIn 22 = false by kernel_rfl)⟩)
    (by kernel_rfl)
#print axioms proved
end Go.Proofs.YtamkfjbdcjkchaaDoor.screenReads

/- AdamOnce's walk. -/
import Derived.Test.YtkhglmmidgfliaaALaw3
import Derived.Test.YtkhglmmidgfliaaOnce
namespace Go.Proofs.Ytkhglmmidgfliaa
open Go.RowKit Go.Proofs.HK
set_option linter.unusedVariables false
set_option linter.unusedSimpArgs false
attribute [local go_sem] max2_int min2_int max_two min_two
theorem siz_small (X Y : Nat) (h1 : 1 ≤ X) (h2 : X ≤ 256) (h3 : 1 ≤ Y) (h4 : Y ≤ 256) : sizS X Y = true := by
  have h : X * Y ≤ 256 * 256 := Nat.mul_le_mul h2 h4
  have h' : (X : Int) * (Y : Int) ≤ 65536 := by rw [← Int.natCast_mul]; omega
  exact decide_eq_true ⟨by omega, by omega, by omega, by omega, h'⟩
theorem once_its (X Y : Nat) (laced : Bool) (h1 : 1 ≤ X) (h2 : X ≤ 256) (h3 : 1 ≤ Y) (h4 : Y ≤ 256) : OnceL (itsOf X Y laced) X Y 7 ∧ OnceL (itsWov X Y laced) X Y 4 := by
  have hs := siz_small X Y h1 h2 h3 h4
  cases laced with
  | false =>
    have e : itsOf X Y false = itemsF 0 [⟨0, 0, 1, 1, X, Y⟩] := by unfold itsOf psOf; rw [hs]; simp
    have e2 : itsWov X Y false = itemsF 0 [⟨0, 0, 1, 1, X, Y⟩] := by rw [← e]; unfold itsWov itsOf psWov; rw [if_neg (by simp)]
    rw [e, e2]
    exact ⟨once_plain _ _ _ (by omega) h1, once_plain _ _ _ (by omega) h1⟩
  | true =>
    have e : itsOf X Y true = itemsF 0 (psL X Y 7) := by unfold itsOf psOf; rw [hs]; simp
    have e2 : itsWov X Y true = itemsF 0 (psW X Y 4) := by unfold itsWov psWov; rw [hs]; simp
    rw [e, e2]
    exact ⟨once_png _ _ h1, once_gif _ _ h1⟩
set_option maxRecDepth 100000 in
set_option maxHeartbeats 1600000 in
theorem adamOnce_walk (a b : Int) (laced : Bool) (w : World) (ha : 0 ≤ a ∧ a ≤ 255) (hb : 0 ≤ b ∧ b ≤ 255) : Calls Try.prog 6 #[.int .u8 a, .int .u8 b, .bool laced] w fun e w' => e = .returned (.bool true) ∧ Fr No w w' := by
  obtain ⟨ha0, ha1⟩ := ha
  obtain ⟨hb0, hb1⟩ := hb
  obtain ⟨X, hX⟩ : ∃ X : Nat, 1 + a = X := ⟨(1 + a).toNat, by omega⟩
  obtain ⟨Y, hY⟩ : ∃ X : Nat, 1 + b = X := ⟨(1 + b).toNat, by omega⟩
  have x1 : 1 ≤ X := by omega
  have x2 : X ≤ 256 := by omega
  have y1 : 1 ≤ Y := by omega
  have y2 : Y ≤ 256 := by omega
  obtain ⟨M, hM⟩ : ∃ M, M = X * Y := ⟨_, rfl⟩
  have hM2 : M ≤ 65536 := by rw [hM]; exact Nat.mul_le_mul x2 y2
  have hMw : IntKind.i64.wrap ((X : Int) * (Y : Int)) = (M : Int) := by rw [← Int.natCast_mul, ← hM]; exact w64 _ (by omega) (by omega)
  have hMn : ¬ ((M : Int) > 65536) := by omega
  have HO := hid (once_its X Y laced x1 x2 y1 y2)
  clear hM
  go_enter Try.func6, Try.ntmps6
  go_wp2_with fail
  refine (fixed14_calls _).mono ?_
  rintro e w1 ⟨rfl, hf1⟩
  go_wp2_with fail
  refine (lawLines_calls X Y laced _).mono ?_
  rintro e w2 ⟨A2, k2, c2, ob2, xs2, rfl, hN2, hf2⟩
  have hk2 : k2 ≤ 409600 := by rw [← hN2.len]; exact itsOf_le _ _ _
  go_wp2_with fail
  obtain ⟨p1, p2, p3, p4⟩ := hN2.same (Fr.refl _ _) (itsOf_len X Y laced)
  refine (once_calls A2 k2 c2 X Y 7 _ xs2 _ p1 p2 p3 HO.out.1 hk2 (itsOf_len X Y laced) x2 y2 (by omega)).mono ?_
  clear p1 p2 p3 p4
  rintro e w3 ⟨rfl, hf3⟩
  go_wp2_with fail
  refine (lawWoven_calls X Y laced _).mono ?_
  rintro e w4 ⟨A4, k4, c4, ob4, xs4, rfl, hN4, hf4⟩
  have hk4 : k4 ≤ 409600 := by rw [← hN4.len]; exact its_lelawWoven _ _ _
  go_wp2_with fail
  obtain ⟨p1, p2, p3, p4⟩ := hN4.same (Fr.refl _ _) (itsWov_len X Y laced)
  refine (once_calls A4 k4 c4 X Y 4 _ xs4 _ p1 p2 p3 HO.out.2 hk4 (itsWov_len X Y laced) x2 y2 (by omega)).mono ?_
  clear p1 p2 p3 p4
  rintro e w5 ⟨rfl, hf5⟩
  go_wp2_with fail
  go_ret
  exact ⟨rfl, (((hf1.then hf2).then hf3).then hf4).then hf5⟩
end Go.Proofs.Ytkhglmmidgfliaa

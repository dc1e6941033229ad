/- AdamLines' walk. -/
import Derived.Test.YtkhglmmidgfliaaALaw1
import Derived.Test.YtkhglmmidgfliaaLawLs
import Derived.Test.YtkhglmmidgfliaaLawWv
import Derived.Test.YtkhglmmidgfliaaDocSm
namespace Go.Proofs.Ytkhglmmidgfliaa
open Go.RowKit Go.Proofs.HK
set_option linter.unusedVariables false
set_option linter.unusedSimpArgs false
attribute [local go_sem] max2_int min2_int max_two min_two
theorem NewL.same {w w' : World} {lo : Nat} {its : List (Nat × List (Nat × Nat))} {A : Option Addr} {k c : Nat} {ob : Option Nat} {xs : List LN} (h : NewL w lo its A k c ob xs) (hf : Fr No w w') (h4 : ∀ it ∈ its, it.2.length ≤ 4096) :
    LnsIn w' A xs ∧ xs.length = k ∧ xs.map LN.it = its ∧ ∀ x ∈ xs, x.s.length ≤ 4096 :=
  ⟨h.inn.fr0 hf, h.xlen, h.2.1, fun x hx => h4 x.it (by rw [← h.2.1]; exact List.mem_map.2 ⟨x, hx, rfl⟩)⟩
theorem itsOf_len (W H : Int) (laced : Bool) : ∀ it ∈ itsOf W H laced, it.2.length ≤ 4096 := fun it h => itemsF_len _ (psOf_ok W H laced).1 0 it h
theorem itsWov_len (W H : Int) (laced : Bool) : ∀ it ∈ itsWov W H laced, it.2.length ≤ 4096 := fun it h => itemsF_len _ (psWov_ok W H laced).1 0 it h
set_option maxRecDepth 100000 in
set_option maxHeartbeats 1600000 in
theorem adamLines_walk (W H : Int) (laced : Bool) (w : World) (_ : -9223372036854775808 ≤ W ∧ W ≤ 9223372036854775807) (_ : -9223372036854775808 ≤ H ∧ H ≤ 9223372036854775807) : Calls Try.prog 4 #[.int .i64 W, .int .i64 H, .bool laced] w fun e w' => e = .returned (.bool true) ∧ Fr No w w' := by
  go_enter Try.func4, Try.ntmps4
  go_wp2_with fail
  refine (fixed14_calls _).mono ?_
  rintro e w1 ⟨rfl, hf1⟩
  go_wp2_with fail
  refine (refLines_calls W H laced _).mono ?_
  rintro e w2 ⟨A2, k2, c2, ob2, xs2, rfl, hN2, hf2⟩
  have hk2 : k2 ≤ 409600 := by rw [← hN2.len]; exact itsOf_le _ _ _
  have hlen2 := hid hN2.len
  go_wp2_with fail
  refine (lawLines_calls W H laced _).mono ?_
  rintro e w3 ⟨A3, k3, c3, ob3, xs3, rfl, hN3, hf3⟩
  obtain rfl : k2 = k3 := hN2.len.symm.trans hN3.len
  go_wp2_with fail
  obtain ⟨x1, x2, x3, x4⟩ := hN3.same (Fr.refl _ _) (itsOf_len W H laced)
  obtain ⟨y1, y2, y3, y4⟩ := hN2.same hf3 (itsOf_len W H laced)
  refine (refSame_calls A3 A2 k2 c3 c2 xs3 xs2 _ x1 y1 x2 (x3.trans y3.symm) hk2 x4).mono ?_
  clear x1 x2 x3 x4 y1 y2 y3 y4
  rintro e w4 ⟨rfl, hf4⟩
  go_wp2_with fail
  refine (lawWoven_calls W H laced _).mono ?_
  rintro e w5 ⟨A5, k5, c5, ob5, xs5, rfl, hN5, hf5⟩
  have hk5 : k5 ≤ 409600 := by rw [← hN5.len]; exact its_lelawWoven _ _ _
  go_wp2_with fail
  refine (refWoven_calls W H laced _).mono ?_
  rintro e w6 ⟨A6, k6, c6, ob6, xs6, rfl, hN6, hf6⟩
  obtain rfl : k5 = k6 := hN5.len.symm.trans hN6.len
  go_wp2_with fail
  obtain ⟨x1, x2, x3, x4⟩ := hN5.same hf6 (itsWov_len W H laced)
  obtain ⟨y1, y2, y3, y4⟩ := hN6.same (Fr.refl _ _) (itsWov_len W H laced)
  refine (refSame_calls A5 A6 k5 c5 c6 xs5 xs6 _ x1 y1 x2 (x3.trans y3.symm) hk5 x4).mono ?_
  clear x1 x2 x3 x4 y1 y2 y3 y4
  rintro e w7 ⟨rfl, hf7⟩
  go_wp2_with fail
  refine (count_calls W H laced _).mono ?_
  rw [hlen2.out]
  rintro e w8 ⟨rfl, hf8⟩
  have hself : ((k2 : Int) == (k2 : Int)) = true := by simp
  go_wp2_with fail
  go_ret
  exact ⟨rfl, ((((((hf1.then hf2).then hf3).then hf4).then hf5).then hf6).then hf7).then hf8⟩
end Go.Proofs.Ytkhglmmidgfliaa

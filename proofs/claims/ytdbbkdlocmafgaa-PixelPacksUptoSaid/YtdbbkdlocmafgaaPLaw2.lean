/- PixelPacks' walk. -/
import Derived.Test.YtdbbkdlocmafgaaPLaw1
namespace Go.Proofs.Ytdbbkdlocmafgaa
open Go.RowKit Go.Proofs.HK
set_option linter.unusedVariables false
set_option linter.unusedSimpArgs false
attribute [local go_sem] max2_int min2_int max_two min_two
set_option maxRecDepth 100000 in
set_option maxHeartbeats 1600000 in
theorem pixelPacks_walk (A : Option Addr) (xs : List Int) (n c : Nat) (d : Int) (w : World) (s0 : SlIn (Value.int .i64) 8 w A xs n c) (_ : ∀ i (h : i < xs.length), -9223372036854775808 ≤ xs[i] ∧ xs[i] ≤ 9223372036854775807) (hn : n ≤ 1048576) (_ : -9223372036854775808 ≤ d ∧ d ≤ 9223372036854775807) :
    Calls Try.prog 3 #[.slice A n c, .int .i64 d] w fun e w' => e = .returned (.bool true) ∧ Fr No w w' := by
  have hr : Rd II w A xs := s0.rd
  have HR := hid (And.intro hr s0.len)
  obtain ⟨E, hE⟩ : ∃ E, E = packE xs d := ⟨_, rfl⟩
  have HE := hid hE
  have hself : (E == E) = true := by simp
  clear hr s0 hE
  go_enter Try.func3, Try.ntmps3
  go_wp2_with fail
  refine (fixed15_calls _).mono ?_
  rintro e w1 ⟨rfl, hf1⟩
  go_wp2_with fail
  refine (pack_calls A xs n c d _ HR.out.2 (HR.out.1.fr0 hf1) (by omega)).mono ?_
  rw [← HE.out]
  rintro e w2 ⟨v2, rfl, hN2⟩
  obtain ⟨A2, n2, c2, rfl, HN2⟩ := hN2.use
  clear hN2
  go_wp2_with fail
  refine (refPack_calls A xs n c d _ HR.out.2 (HR.out.1.fr0 (hf1.then HN2.out.2.2.2.1)) hn).mono ?_
  rw [← HE.out]
  rintro e w3 ⟨v3, rfl, hN3⟩
  obtain ⟨A3, n3, c3, rfl, HN3⟩ := hN3.use
  clear hN3
  go_wp2_with fail
  have hd : decide (packV xs d = packV xs d) = true := by simp
  refine (same_calls _ _ _ _ _ _ _ _ HN2.out.1 HN3.out.1 _ (HN2.out.2.1.fr0 HN3.out.2.2.2.1) HN3.out.2.1).mono ?_
  rw [hd]
  rintro e w4 ⟨rfl, rfl⟩
  go_wp2_with fail
  go_ret
  exact ⟨rfl, (hf1.then HN2.out.2.2.2.1).then HN3.out.2.2.2.1⟩
end Go.Proofs.Ytdbbkdlocmafgaa

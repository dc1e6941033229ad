/- PixelUnpacks' walk. -/
import Derived.Test.YtdbbkdlocmafgaaPLaw1
import Derived.Test.YtdbbkdlocmafgaaRUnp
namespace Go.Proofs.Ytdbbkdlocmafgaa
open Go.RowKit Go.Proofs.HK
set_option linter.unusedVariables false
set_option linter.unusedSimpArgs false
attribute [local go_sem] max2_int min2_int max_two min_two
theorem unpV_len (bs : List UInt8) (d n : Int) : (unpV bs d n).length ≤ bs.length * 8 := by
  unfold unpV
  by_cases h : unpE bs d n = 0
  · rw [if_pos h, List.length_map, List.length_range]
    unfold unpE at h
    by_cases h1 : depB d = false ∨ n < 0
    · rw [if_pos h1] at h; exact absurd h (by decide)
    · rw [if_neg h1] at h
      by_cases h2 : n > (bs.length : Int) * 8 / d
      · rw [if_pos h2] at h; exact absurd h (by decide)
      · have h3 : (bs.length : Int) * 8 / d ≤ (bs.length : Int) * 8 := Int.ediv_le_self _ (by omega)
        omega
  · rw [if_neg h]; simp
set_option maxRecDepth 100000 in
set_option maxHeartbeats 1600000 in
theorem pixelUnpacks_walk (A : Option Addr) (xs : List UInt8) (m c : Nat) (d n : Int) (w : World) (s0 : SlIn B 1 w A xs m c) (hm : m ≤ 1048576) (_ : -9223372036854775808 ≤ d ∧ d ≤ 9223372036854775807) (_ : -9223372036854775808 ≤ n ∧ n ≤ 9223372036854775807) :
    Calls Try.prog 7 #[.slice A m c, .int .i64 d, .int .i64 n] w fun e w' => e = .returned (.bool true) ∧ Fr No w w' := by
  have HR := hid (And.intro s0.rd s0.len)
  obtain ⟨E, hE⟩ : ∃ E, E = unpE xs d n := ⟨_, rfl⟩
  have HE := hid hE
  have hself : (E == E) = true := by simp
  clear s0 hE
  go_enter Try.func7, Try.ntmps7
  go_wp2_with fail
  refine (fixed15_calls _).mono ?_
  rintro e w1 ⟨rfl, hf1⟩
  go_wp2_with fail
  refine (unpack_calls A xs m c d n _ HR.out.2 (HR.out.1.fr0 hf1) (by omega)).mono ?_
  rw [← HE.out]
  rintro e w2 ⟨v2, rfl, hN2⟩
  obtain ⟨A2, n2, c2, rfl, HN2⟩ := hN2.use
  clear hN2
  go_wp2_with fail
  refine (refUnpack_calls A xs m c d n _ HR.out.2 (HR.out.1.fr0 (hf1.then HN2.out.2.2.2.1)) (by omega)).mono ?_
  rw [← HE.out]
  rintro e w3 ⟨v3, rfl, hN3⟩
  obtain ⟨A3, n3, c3, rfl, HN3⟩ := hN3.use
  clear hN3
  go_wp2_with fail
  have hd : decide (unpV xs d n = unpV xs d n) = true := by simp
  refine (sameInts_calls _ _ _ _ _ _ _ _ HN2.out.1 HN3.out.1 _ (HN2.out.2.1.fr0 HN3.out.2.2.2.1) HN3.out.2.1 (by have := unpV_len xs d n; rw [HN2.out.1, HR.out.2] at this; omega)).mono ?_
  rw [hd]
  rintro e w4 ⟨rfl, q, rfl⟩
  go_wp2_with fail
  go_ret
  exact ⟨rfl, ((hf1.then HN2.out.2.2.2.1).then HN3.out.2.2.2.1).drewN q⟩
end Go.Proofs.Ytdbbkdlocmafgaa

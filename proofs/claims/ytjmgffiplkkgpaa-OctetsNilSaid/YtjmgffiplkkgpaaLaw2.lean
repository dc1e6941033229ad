/- The walks of the laws of layer 2. -/
import Derived.Test.YtjmgffiplkkgpaaRefC
import Derived.Test.YtjmgffiplkkgpaaOpen
namespace Go.Proofs.Ytjmgffiplkkgpaa
open Go.RowKit Go.Proofs.HK
set_option linter.unusedVariables false
set_option linter.unusedSimpArgs false
attribute [local go_sem] max2_int min2_int max_two min_two

theorem fixed2_calls (w : World) : Calls Try.prog 14 #[] w fun e w' => e = .returned (.bool true) ∧ Fr No w w' := by
  have e1 : bigS [1, 2, 3] 0 2 = 258 := by decide
  have e2 : littleS [1, 2, 3] 0 2 = 513 := by decide
  have e3 : fitsS 3 0 2 = 0 := by decide
  have e4 : fitsS 3 2 2 = 2 := by decide
  have e5 : numB [1, 2, 3] 0 0 2 = 258 := by decide
  have e6 : numP [1, 2, 3] 0 0 2 = 2 := by decide
  have e7 : numE [1, 2, 3] 0 0 2 = 0 := by decide
  have e8 : leftS [1, 2, 3] 2 0 = 1 := by decide
  have e9 : numL [1, 2, 3] 2 0 2 = 0 := by decide
  have e10 : numP [1, 2, 3] 2 0 2 = 2 := by decide
  have e11 : numE [1, 2, 3] 2 0 2 = 2 := by decide
  have e12 : leftS [1, 2, 3] 2 2 = 0 := by decide
  have E6 := hid e6
  have E7 := hid e7
  have E10 := hid e10
  have E11 := hid e11
  clear e6 e7 e10 e11
  go_enter Try.func14, Try.ntmps14
  go_wp2_with fail
  refine (big_calls _ [1, 2, 3] _ _ rfl _ _ _ (rd_new B w [1, 2, 3] _ _ rfl) (by decide)).mono ?_
  rintro e w1 ⟨rfl, hw⟩
  have hf : Fr No w w1 := by rw [hw]; exact (Fr.refl _ _).alloc _
  have HF := hid hf
  clear hf hw
  go_wp2_with fail
  refine (little_calls _ [1, 2, 3] _ _ rfl _ _ _ (rd_new B w1 [1, 2, 3] _ _ rfl) (by decide)).mono ?_
  rintro e w2 ⟨rfl, hw⟩
  have hf : Fr No w w2 := by rw [hw]; exact HF.out.alloc _
  clear HF
  have HF := hid hf
  clear hf hw
  go_wp2_with fail
  refine (big_calls _ [1, 2, 3] _ _ rfl _ _ _ (rd_new B w2 [1, 2, 3] _ _ rfl) (by decide)).mono ?_
  rintro e w3 ⟨rfl, hw⟩
  have hf : Fr No w w3 := by rw [hw]; exact HF.out.alloc _
  clear HF
  have HF := hid hf
  clear hf hw
  go_wp2_with fail
  refine (new_calls _ [1, 2, 3] _ _ rfl _ (rd_new B w3 [1, 2, 3] _ _ rfl) (by decide)).mono ?_
  rintro e w4 ⟨g, rfl, hg, hc, hf⟩
  have hgw : w.heap.size ≤ g := by have := HF.out.size; simp at hg; omega
  have hf4 : Fr No w w4 := (HF.out.alloc _).then hf
  clear HF hf hg
  have HH := hid (And.intro hc hf4)
  clear hc hf4
  go_wp2_with fail
  refine (cbig_calls _ _ _ _ _ _ HH.out.1).mono ?_
  rw [E6.out, E7.out]
  rintro e w5 ⟨rfl, hc, hf⟩
  have hf5 : Fr No w w5 := HH.out.2.trans hf (fun k hk e => by have : k = g := e; omega)
  clear HH hf
  have HH := hid (And.intro hc hf5)
  clear hc hf5
  go_wp2_with fail
  refine (left_calls _ _ _ _ _ HH.out.1).mono ?_
  rintro e w6 ⟨rfl, n6, hw⟩
  have hc : Cur w6 g [1, 2, 3] 2 0 := by rw [hw]; exact HH.out.1.drewN _
  have hf6 : Fr No w w6 := by rw [hw]; exact HH.out.2.drewN _
  clear HH hw
  have HH := hid (And.intro hc hf6)
  clear hc hf6
  go_wp2_with fail
  refine (clittle_calls _ _ _ _ _ _ HH.out.1).mono ?_
  rw [E10.out, E11.out]
  rintro e w7 ⟨rfl, hc, hf⟩
  have hf7 : Fr No w w7 := HH.out.2.trans hf (fun k hk e => by have : k = g := e; omega)
  clear HH hf
  have HH := hid (And.intro hc hf7)
  clear hc hf7
  go_wp2_with fail
  refine (err_calls _ _ _ _ _ HH.out.1).mono ?_
  rintro e w8 ⟨rfl, rfl⟩
  go_wp2_with fail
  refine (left_calls _ _ _ _ _ HH.out.1).mono ?_
  rintro e w9 ⟨rfl, n9, hw⟩
  have hf9 : Fr No w w9 := by rw [hw]; exact HH.out.2.drewN _
  clear HH hw
  have HH := hid hf9
  clear hf9
  go_wp2
  go_ret
  exact ⟨rfl, HH.out⟩

theorem octetsNil_walk (n er : Int) (w : World) (b0 : -9223372036854775808 ≤ n ∧ n ≤ 9223372036854775807) (b1 : -9223372036854775808 ≤ er ∧ er ≤ 9223372036854775807) : Calls Try.prog 7 #[.int .i64 n, .int .i64 er] w fun e w' => e = .returned (.bool true) ∧ Fr No w w' := by
  go_enter Try.func7, Try.ntmps7
  go_wp2_with fail
  refine (fixed2_calls _).mono ?_
  rintro e w1 ⟨rfl, hf⟩
  have HF := hid hf
  clear hf
  go_wp2_with (first
    | (go_at_call 32; refine (fail_nil _ _).mono ?_; rintro e w' ⟨rfl, rfl⟩)
    | (go_at_call 25; refine (cbig_nil _ _).mono ?_; rintro e w' ⟨rfl, rfl⟩)
    | (go_at_call 27; refine (clittle_nil _ _).mono ?_; rintro e w' ⟨rfl, rfl⟩)
    | (go_at_call 30; refine (cbytes_nil _ _).mono ?_; rintro e w' ⟨rfl, rfl⟩)
    | (go_at_call 35; refine (left_nil _).mono ?_; rintro e w' ⟨rfl, rfl⟩)
    | (go_at_call 34; refine (err_nil _).mono ?_; rintro e w' ⟨rfl, rfl⟩))
  go_ret
  exact ⟨rfl, HF.out⟩

theorem octetsNumbers_walk (A : Option Addr) (bs : List UInt8) (n0 c : Nat) (at_ n : Int) (w : World) (s0 : SlIn B 1 w A bs n0 c) (b1 : -9223372036854775808 ≤ at_ ∧ at_ ≤ 9223372036854775807) (b2 : -9223372036854775808 ≤ n ∧ n ≤ 9223372036854775807) :
    Calls Try.prog 3 #[.slice A n0 c, .int .i64 at_, .int .i64 n] w fun e w' => e = .returned (.bool true) ∧ Fr No w w' := by
  obtain ⟨rfl, hr, hlc, hl⟩ := s0
  have HR := hid hr
  clear hr
  go_enter Try.func3, Try.ntmps3
  go_wp2_with fail
  refine (fixed2_calls _).mono ?_
  rintro e w1 ⟨rfl, hf⟩
  have HR1 := hid (HR.out.fr0 hf)
  have HF := hid hf
  clear hf HR
  go_wp2_with (first
    | (go_at_call 15; refine (big_calls _ _ _ _ rfl _ _ _ HR1.out (by omega)).mono ?_; rintro e w' ⟨rfl, rfl⟩)
    | (go_at_call 17; refine (little_calls _ _ _ _ rfl _ _ _ HR1.out (by omega)).mono ?_; rintro e w' ⟨rfl, rfl⟩)
    | (go_at_call 16; refine (refBig_calls _ _ _ _ rfl _ _ _ HR1.out (by omega) hlc).mono ?_; rintro e w' ⟨rfl, rfl⟩)
    | (go_at_call 18; refine (refLittle_calls _ _ _ _ rfl _ _ _ HR1.out (by omega) hlc).mono ?_; rintro e w' ⟨rfl, hf2⟩; have HF2 := hid hf2; clear hf2))
  go_ret
  exact ⟨rfl, HF.out.then HF2.out⟩
end Go.Proofs.Ytjmgffiplkkgpaa

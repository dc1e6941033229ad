/- Bits that are set, and zeros at the end, of numbers up to 256. -/
import Derived.Test.YtamkfjbdcjkchaaDoorSRdP
namespace Go.Proofs.YtamkfjbdcjkchaaDoor
open Go.RowKit Go.Proofs.HK
set_option linter.unusedVariables false
set_option linter.unusedSimpArgs false
attribute [local go_sem] max2_int min2_int max_two min_two
def oc1 (n : Int) : Int := IntKind.u64.wrap (bits .and .u64 (n / 2) 6148914691236517205 + bits .and .u64 n 6148914691236517205)
def oc2 (a : Int) : Int := IntKind.u64.wrap (bits .and .u64 (a / 4) 3689348814741910323 + bits .and .u64 a 3689348814741910323)
def oc3 (a : Int) : Int := bits .and .u64 (IntKind.u64.wrap (a / 16 + a)) 1085102592571150095
def oc4 (a : Int) : Int := IntKind.u64.wrap (a + a / 256)
def oc5 (a : Int) : Int := IntKind.u64.wrap (a + a / 65536)
def oc6 (a : Int) : Int := IntKind.u64.wrap (a + a / 4294967296)
def ocI (n : Int) : Int := bits .and .i64 (wrap64 (oc6 (oc5 (oc4 (oc3 (oc2 (oc1 n))))))) 127
def p2L : List Nat := [2, 4, 8, 16, 32, 64, 128, 256]
theorem oc_p2 : ∀ n : Fin 257, 2 ≤ n.val → decide (ocI ((n.val : Nat) : Int) = 1) = decide (n.val ∈ p2L) := by decide +kernel
set_option maxRecDepth 100000 in
theorem ones64_calls (n : Nat) (h : n ≤ 256) (w : World) : Calls Tryd.prog 38 #[.int .u64 (n : Int)] w fun e w' => e = .returned (.int .i64 (ocI (n : Int))) ∧ w' = w := by
  obtain ⟨a1, h1⟩ : ∃ a, a = oc1 (n : Int) := ⟨_, rfl⟩
  obtain ⟨a2, h2⟩ : ∃ a, a = oc2 a1 := ⟨_, rfl⟩
  obtain ⟨a3, h3⟩ : ∃ a, a = oc3 a2 := ⟨_, rfl⟩
  obtain ⟨a4, h4⟩ : ∃ a, a = oc4 a3 := ⟨_, rfl⟩
  obtain ⟨a5, h5⟩ : ∃ a, a = oc5 a4 := ⟨_, rfl⟩
  obtain ⟨a6, h6⟩ : ∃ a, a = oc6 a5 := ⟨_, rfl⟩
  have HE := hid (show ocI (n : Int) = bits .and .i64 (wrap64 a6) 127 from by rw [h6, h5, h4, h3, h2, h1]; rfl)
  have e1 : IntKind.u64.wrap (bits .and .u64 ((n : Int) / 2) 6148914691236517205 + bits .and .u64 (n : Int) 6148914691236517205) = a1 := h1.symm
  have e2 : IntKind.u64.wrap (bits .and .u64 (a1 / 4) 3689348814741910323 + bits .and .u64 a1 3689348814741910323) = a2 := h2.symm
  have e3 : bits .and .u64 (IntKind.u64.wrap (a2 / 16 + a2)) 1085102592571150095 = a3 := h3.symm
  have e4 : IntKind.u64.wrap (a3 + a3 / 256) = a4 := h4.symm
  have e5 : IntKind.u64.wrap (a4 + a4 / 65536) = a5 := h5.symm
  have e6 : IntKind.u64.wrap (a5 + a5 / 4294967296) = a6 := h6.symm
  clear h1 h2 h3 h4 h5 h6
  go_enter Tryd.func38, Tryd.ntmps38
  go_wp2_with fail
  go_ret
  rw [HE.out]
  exact ⟨rfl, rfl⟩
theorem ones_calls (n : Nat) (h : n ≤ 256) (w : World) : Calls Tryd.prog 26 #[.int .u64 (n : Int)] w fun e w' => e = .returned (.int .i64 (ocI (n : Int))) ∧ w' = w := by
  have hw : IntKind.u64.wrap (n : Int) = (n : Int) := by rw [IntKind.wrap_u64]; omega
  go_enter Tryd.func26, Tryd.ntmps26
  go_wp2_with fail
  refine (ones64_calls n h _).mono ?_
  rintro e w2 ⟨rfl, hw2⟩
  rw [hw2]
  clear hw2 w2
  go_wp2_with fail
  go_ret
  exact ⟨rfl, rfl⟩
/-- The library's table. -/
def dbL : List Nat := [0, 1, 56, 2, 57, 49, 28, 3, 61, 58, 42, 50, 38, 29, 17, 4, 62, 47, 59, 36, 45, 43, 51, 22, 53, 39, 33, 30, 24, 18, 12, 5, 63, 55, 48, 27, 60, 41, 37, 16, 46, 35, 44, 21, 52, 32, 23, 11, 54, 26, 40, 15, 34, 20, 31, 10, 25, 14, 19, 9, 13, 8, 7, 6]
/-- It stands in the world, where the program lays it. -/
def TabW (w : World) : Prop := ∀ (i v : Nat), dbL[i]? = some v → w.cell? ⟨1, i, none⟩ = some (.int .u8 (v : Int))
theorem TabW.fr {w w' : World} (h : TabW w) (hf : Fr No w w') : TabW w' := fun i v hi => by
  have h1 := h i v hi
  exact (hf.cell (lt_of_cell h1) (fun h => h)).trans h1
def tzN (n : Nat) : Nat := n.log2
set_option maxRecDepth 100000 in
theorem trail64_calls (n : Nat) (h : n ∈ p2L) (w : World) (hw : TabW w) : Calls Tryd.prog 40 #[.int .u64 (n : Int)] w fun e w' => e = .returned (.int .i64 (tzN n : Int)) ∧ w' = w := by
  unfold p2L at h
  simp only [List.mem_cons, List.not_mem_nil, or_false] at h
  rcases h with rfl | rfl | rfl | rfl | rfl | rfl | rfl | rfl
  · have c := hw 1 1 rfl
    have hx : IntKind.u64.wrap (bits .and .u64 2 (IntKind.u64.wrap (-2)) * 285870213051353865) / 288230376151711744 = (1 : Int) := by decide +kernel
    clear hw
    go_enter Tryd.func40, Tryd.ntmps40
    go_wp2_with fail
    go_ret
    exact ⟨rfl, rfl⟩
  · have c := hw 3 2 rfl
    have hx : IntKind.u64.wrap (bits .and .u64 4 (IntKind.u64.wrap (-4)) * 285870213051353865) / 288230376151711744 = (3 : Int) := by decide +kernel
    clear hw
    go_enter Tryd.func40, Tryd.ntmps40
    go_wp2_with fail
    go_ret
    exact ⟨rfl, rfl⟩
  · have c := hw 7 3 rfl
    have hx : IntKind.u64.wrap (bits .and .u64 8 (IntKind.u64.wrap (-8)) * 285870213051353865) / 288230376151711744 = (7 : Int) := by decide +kernel
    clear hw
    go_enter Tryd.func40, Tryd.ntmps40
    go_wp2_with fail
    go_ret
    exact ⟨rfl, rfl⟩
  · have c := hw 15 4 rfl
    have hx : IntKind.u64.wrap (bits .and .u64 16 (IntKind.u64.wrap (-16)) * 285870213051353865) / 288230376151711744 = (15 : Int) := by decide +kernel
    clear hw
    go_enter Tryd.func40, Tryd.ntmps40
    go_wp2_with fail
    go_ret
    exact ⟨rfl, rfl⟩
  · have c := hw 31 5 rfl
    have hx : IntKind.u64.wrap (bits .and .u64 32 (IntKind.u64.wrap (-32)) * 285870213051353865) / 288230376151711744 = (31 : Int) := by decide +kernel
    clear hw
    go_enter Tryd.func40, Tryd.ntmps40
    go_wp2_with fail
    go_ret
    exact ⟨rfl, rfl⟩
  · have c := hw 63 6 rfl
    have hx : IntKind.u64.wrap (bits .and .u64 64 (IntKind.u64.wrap (-64)) * 285870213051353865) / 288230376151711744 = (63 : Int) := by decide +kernel
    clear hw
    go_enter Tryd.func40, Tryd.ntmps40
    go_wp2_with fail
    go_ret
    exact ⟨rfl, rfl⟩
  · have c := hw 62 7 rfl
    have hx : IntKind.u64.wrap (bits .and .u64 128 (IntKind.u64.wrap (-128)) * 285870213051353865) / 288230376151711744 = (62 : Int) := by decide +kernel
    clear hw
    go_enter Tryd.func40, Tryd.ntmps40
    go_wp2_with fail
    go_ret
    exact ⟨rfl, rfl⟩
  · have c := hw 61 8 rfl
    have hx : IntKind.u64.wrap (bits .and .u64 256 (IntKind.u64.wrap (-256)) * 285870213051353865) / 288230376151711744 = (61 : Int) := by decide +kernel
    clear hw
    go_enter Tryd.func40, Tryd.ntmps40
    go_wp2_with fail
    go_ret
    exact ⟨rfl, rfl⟩
theorem p2_le {n : Nat} (h : n ∈ p2L) : n ≤ 256 := by
  unfold p2L at h
  simp only [List.mem_cons, List.not_mem_nil, or_false] at h
  omega
theorem trail_calls (n : Nat) (h : n ∈ p2L) (w : World) (hw : TabW w) : Calls Tryd.prog 27 #[.int .u64 (n : Int)] w fun e w' => e = .returned (.int .i64 (tzN n : Int)) ∧ w' = w := by
  have hn := p2_le h
  have hww : IntKind.u64.wrap (n : Int) = (n : Int) := by rw [IntKind.wrap_u64]; omega
  have HW := hid (And.intro h hw)
  clear h hw
  go_enter Tryd.func27, Tryd.ntmps27
  go_wp2_with fail
  refine (trail64_calls n HW.out.1 _ HW.out.2).mono ?_
  rintro e w2 ⟨rfl, hw2⟩
  rw [hw2]
  clear hw2 w2
  go_wp2_with fail
  go_ret
  exact ⟨rfl, rfl⟩
end Go.Proofs.YtamkfjbdcjkchaaDoor

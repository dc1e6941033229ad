/- The contracts of layer 1, bits, second part: the reader's asks. -/
import Derived.Test.YtjmgffiplkkgpaaBits
namespace Go.Proofs.Ytjmgffiplkkgpaa
open Go.RowKit Go.Proofs.HK
set_option linter.unusedVariables false
set_option linter.unusedSimpArgs false
attribute [local go_sem] max2_int min2_int max_two min_two

/-- What Look answers. -/
def lookS (V T : Nat) (i : Int) : Int := if i < 0 ∨ (T : Int) ≤ i then -1 else ((V / 2 ^ i.toNat % 2 : Nat) : Int)
theorem lookS_lo {V T : Nat} {i : Int} (h : i < 0 ∨ (T : Int) ≤ i) : lookS V T i = -1 := if_pos h
theorem lookS_in {V T k : Nat} (h : k < T) : lookS V T (k : Int) = ((V / 2 ^ k % 2 : Nat) : Int) := by
  unfold lookS
  rw [if_neg (by omega), Int.toNat_natCast]

theorem look_nil (w : World) (i : Int) : Calls Try.prog 51 #[.pointer none, .int .i64 i] w fun e w' => e = .returned (.int .i64 (-1)) ∧ ∃ n, w' = w.drewN n := by
  by_cases h1 : i < 0
  · go_enter Try.func51, Try.ntmps51
    go_wp2_with fail
    go_ret
    exact ⟨rfl, 0, rfl⟩
  · have h2 : 0 ≤ i := by omega
    go_enter Try.func51, Try.ntmps51
    go_wp2_with (go_at_call 23; refine (have_nil _).mono ?_; rintro e w' ⟨rfl, k, rfl⟩)
    go_ret
    exact ⟨rfl, _, rfl⟩

theorem look_calls (w : World) (g : Nat) (ob : Option Nat) (V T : Nat) (h : RdV w g ob V T) (i : Int) :
    Calls Try.prog 51 #[.pointer (some ⟨g, 0, none⟩), .int .i64 i] w fun e w' => e = .returned (.int .i64 (lookS V T i)) ∧ ∃ n, w' = w.drewN n := by
  by_cases h1 : i < 0
  · have hl := hid (lookS_lo (V := V) (T := T) (.inl h1))
    clear h
    go_enter Try.func51, Try.ntmps51
    go_wp2_with fail
    go_ret
    exact ⟨ri hl.out.symm, 0, rfl⟩
  have h2 : 0 ≤ i := by omega
  by_cases h3 : (T : Int) ≤ i
  · have hl := hid (lookS_lo (V := V) (T := T) (.inr h3))
    have HV := hid h
    clear h
    go_enter Try.func51, Try.ntmps51
    go_wp2_with (go_at_call 23; refine (have_calls _ _ _ _ _ HV.out).mono ?_; rintro e w' ⟨rfl, k, rfl⟩)
    go_ret
    exact ⟨ri hl.out.symm, _, rfl⟩
  obtain ⟨k, rfl⟩ := Int.eq_ofNat_of_zero_le h2
  have hk : k < T := by omega
  have hl := hid (lookS_in (V := V) hk)
  have HV := hid h
  obtain ⟨bs, off, h, e1, e2⟩ := h
  have h8 := h.le8
  have hlen := h.len
  obtain ⟨A0, n0, c0, hn0, h0, h1', f0, f1, hrow, hb⟩ := h.cells
  have ho8 := h.off8
  have hq : (k + off) / 8 < n0 := by unfold rT at e2; omega
  have hcap := hrow.rd.2.1
  obtain ⟨ad, rfl, hcell⟩ := hrow.rd.1.atN ((k + off) / 8) (by omega)
  have hw : IntKind.i64.wrap ((k : Int) + (off : Int)) = (k : Int) + (off : Int) := w64 _ (by omega) (by unfold rT at e2; omega)
  have hb8 := B_lt (rdB bs ((k + off) / 8))
  have hv := rV_look bs off k
  rw [e1] at hv
  have hv := hid hv
  clear h hrow hb hlen h8 hk e1 e2
  go_enter Try.func51, Try.ntmps51
  go_wp2_with (first | fail | (go_at_call 23; refine (have_calls _ _ _ _ _ HV.out).mono ?_; rintro e w' ⟨rfl, j, rfl⟩))
  go_ret
  refine ⟨ri ?_, _, rfl⟩
  have hx := look_num (rdB bs ((k + off) / 8)).toNat (k + off) (rdB bs ((k + off) / 8)).toNat_lt (by have := HV.out.T_le; omega)
  rw [Int.natCast_add] at hx
  rw [hl.out, ← hv.out]
  exact hx

/-- What Take answers. -/
def takeOk (T : Nat) (n : Int) : Prop := 0 ≤ n ∧ n ≤ 32 ∧ n ≤ (T : Int)
theorem take_nil (w : World) (n : Int) : Calls Try.prog 22 #[.pointer none, .int .i64 n] w fun e w' => e = .returned (.tuple #[.int .i64 0, .bool false]) ∧ w' = w := by
  go_enter Try.func22, Try.ntmps22
  go_wp2_with fail
  go_ret2
  exact ⟨rfl, rfl⟩
theorem take_no (w : World) (g : Nat) (ob : Option Nat) (V T : Nat) (h : RdV w g ob V T) (n : Int) (hn : ¬ takeOk T n) :
    Calls Try.prog 22 #[.pointer (some ⟨g, 0, none⟩), .int .i64 n] w fun e w' => e = .returned (.tuple #[.int .i64 0, .bool false]) ∧ ∃ n, w' = w.drewN n := by
  have HV := hid h
  clear h
  unfold takeOk at hn
  by_cases h1 : n < 0
  · clear hn
    go_enter Try.func22, Try.ntmps22
    go_wp2_with fail
    go_ret2
    exact ⟨rfl, 0, rfl⟩
  have h1' : 0 ≤ n := by omega
  by_cases h2 : 32 < n
  · clear hn
    go_enter Try.func22, Try.ntmps22
    go_wp2_with fail
    go_ret2
    exact ⟨rfl, 0, rfl⟩
  have h2' : n ≤ 32 := by omega
  have h3 : (T : Int) < n := by omega
  clear hn
  go_enter Try.func22, Try.ntmps22
  go_wp2_with (go_at_call 23; refine (have_calls _ _ _ _ _ HV.out).mono ?_; rintro e w' ⟨rfl, k, rfl⟩)
  go_ret2
  exact ⟨rfl, _, rfl⟩

theorem take_calls (w : World) (g : Nat) (ob : Option Nat) (V T : Nat) (h : RdV w g ob V T) (n : Nat) (hn : n ≤ 32) (hT : n ≤ T) :
    Calls Try.prog 22 #[.pointer (some ⟨g, 0, none⟩), .int .i64 n] w fun e w' => e = .returned (.tuple #[.int .i64 ((V % 2 ^ n : Nat) : Int), .bool true]) ∧ RdV w' g ob (V / 2 ^ n) (T - n) ∧ Fr (One g) w w' := by
  have HV := hid h
  obtain ⟨bs, off, h, e1, e2⟩ := h
  obtain ⟨A0, n0, c0, hn0, h0, h1', f0, f1, hrow, hb⟩ := h.cells
  have ho8 := h.off8
  have hcap := hrow.rd.2.1
  have HR := hid hrow
  have hn0' : n0 ≤ 140737488355328 := by have := h.len; omega
  have hv := rV_take bs off n ho8 hn
  rw [e1] at hv
  have hv := hid hv
  have HN := hid hn0
  have hn1 : (n : Int) ≤ 32 := by omega
  have hn2 : (n : Int) ≤ (T : Int) := by omega
  clear h hrow hb e1 e2 hn0
  go_enter Try.func22, Try.ntmps22
  go_wp2_with (go_at_call 23; refine (have_calls _ _ _ _ _ HV.out).mono ?_; rintro e w' ⟨rfl, j, rfl⟩)
  go_loop [6, 7] (fun v i => ∃ k : Nat, k ≤ 5 ∧ k ≤ n0 ∧ i = .int .i64 k ∧ v = .int .u64 (le (bs.take k) : Nat)) (fun _ i => 5 - (intOf i).toNat)
  case atStart => exact ⟨0, by omega, by omega, rfl, rfl⟩
  case round =>
    obtain ⟨k, hk, hk2, rfl, rfl⟩ := hrel
    by_cases hlt : k < 5 ∧ k < n0
    · obtain ⟨ad, rfl, hc⟩ := HR.out.rd.1.atN k (by rw [HN.out]; omega)
      have hb := B_lt (rdB bs k)
      have hlen : (bs.take k).length = k := by rw [List.length_take, HN.out]; omega
      have hst : le (bs.take (k + 1)) = le (bs.take k) + (rdB bs k).toNat * 256 ^ k := by
        rw [take_snocB _ _ (by rw [HN.out]; omega), le_snoc, hlen]
      have hor := le_or64 (le (bs.take k)) (rdB bs k).toNat k (by omega) (by have := le_lt (bs.take k); rwa [hlen] at this) (by omega)
      rw [← hst] at hor
      have HO := hid hor
      have h64 : IntKind.u64.wrap (8 * (k : Int)) = 8 * (k : Int) := by rw [IntKind.wrap_u64]; omega
      clear hor hst hlen
      go_wp2
      go_round
      case rel => exact ⟨k + 1, by omega, by omega, by go_num, by rw [← HO.out]⟩
      case measure => simp [intOf]; omega
    · have hL : le (bs.take k) = le (bs.take 5) := by
        by_cases h5 : k = 5
        · rw [h5]
        · rw [List.take_of_length_le (by rw [HN.out]; omega), List.take_of_length_le (by rw [HN.out]; omega)]
      have hL5 : le (bs.take 5) < 2 ^ 40 := by
        have h1 := le_lt (bs.take 5)
        have h2 : (bs.take 5).length ≤ 5 := by rw [List.length_take]; omega
        have h3 : 256 ^ (bs.take 5).length ≤ 256 ^ 5 := Nat.pow_le_pow_right (by omega) h2
        omega
      have hnum := hid (take_num (le (bs.take 5)) off n hL5 hn)
      have h32 : V % 2 ^ n < 2 ^ 32 := Nat.lt_of_lt_of_le (Nat.mod_lt _ (Nat.two_pow_pos n)) (Nat.pow_le_pow_right (by decide) hn)
      have HT := hid hT
      have H32 := hid h32
      have HL := hid hL
      clear hL hL5 h32 hT
      go_wp2_with (go_at_call 60; refine (skip_calls _ _ _ _ _ (HV.out.fr (S := No) ((Fr.refl _ _).drewN _) (fun h => h) (fun _ _ h => h)) n HT.out).mono ?_; rintro e w' ⟨rfl, hr', hf'⟩)
      all_goals
        go_ret2
        refine ⟨?_, hr', ?_⟩
        · rw [HL.out, hnum.out, hv.out]
          have := H32.out
          have e : wrap64 ((V % 2 ^ n : Nat) : Int) = ((V % 2 ^ n : Nat) : Int) := by unfold wrap64; omega
          rw [e]
          rfl
        · exact ((Fr.refl _ _).drewN _).then hf'

theorem ralign_nil (w : World) : Calls Try.prog 47 #[.pointer none] w fun e w' => e = .returned (.int .i64 0) ∧ w' = w := by
  go_enter Try.func47, Try.ntmps47
  go_wp2_with fail
  go_ret
  exact ⟨rfl, rfl⟩
/-- Align: to a byte's beginning: as many bits are gone as T has above a multiple of 8. -/
theorem ralign_calls (w : World) (g : Nat) (ob : Option Nat) (V T : Nat) (h : RdV w g ob V T) :
    Calls Try.prog 47 #[.pointer (some ⟨g, 0, none⟩)] w fun e w' => e = .returned (.int .i64 ((T % 8 : Nat) : Int)) ∧ RdV w' g ob (V / 2 ^ (T % 8)) (T - T % 8) ∧ Fr (One g) w w' := by
  have HV := hid h
  obtain ⟨bs, off, h, e1, e2⟩ := h
  obtain ⟨A0, n0, c0, hn0, h0, h1', f0, f1, hrow, hb⟩ := h.cells
  have ho8 := h.off8
  have h8 := h.le8
  by_cases hz : off = 0
  · have hm : T % 8 = 0 := by unfold rT at e2; omega
    have HM := hid hm
    clear h hrow hb e1 e2 hn0 h8 ho8 hm f0 f1 h0
    subst hz
    go_enter Try.func47, Try.ntmps47
    go_wp2_with fail
    go_ret
    rw [HM.out]
    refine ⟨rfl, ?_, Fr.refl _ _⟩
    rw [Nat.pow_zero, Nat.div_one, Nat.sub_zero]
    exact HV.out
  · have hm : T % 8 = 8 - off := by unfold rT at e2; omega
    have HM := hid hm
    have hT : T % 8 ≤ T := Nat.mod_le _ _
    rw [hm] at hT
    have HT := hid hT
    have e8 : (8 : Int) - (off : Int) = ((8 - off : Nat) : Int) := by omega
    have E8 := hid e8
    clear h hrow hb e1 e2 hn0 h8 hm f0 f1 h0 hT e8
    go_enter Try.func47, Try.ntmps47
    go_wp2_with (go_at_call 60; rw [E8.out]; refine (skip_calls _ _ _ _ _ HV.out (8 - off) HT.out).mono ?_; rintro e w' ⟨rfl, hr', hf'⟩)
    go_ret
    rw [HM.out]
    exact ⟨rfl, hr', hf'⟩

theorem rbytes_nil (w : World) (n : Int) : Calls Try.prog 54 #[.pointer none, .int .i64 n] w fun e w' => e = .returned (.slice none 0 0) ∧ w' = w := by
  go_enter Try.func54, Try.ntmps54
  go_wp2_with fail
  go_ret
  exact ⟨rfl, rfl⟩
/-- How many bytes Bytes takes. -/
def rbN (T : Nat) (n : Int) : Nat := if T % 8 = 0 then min n.toNat (T / 8) else 0
theorem rbytes_calls (w : World) (g : Nat) (ob : Option Nat) (V T : Nat) (h : RdV w g ob V T) (n : Int) :
    Calls Try.prog 54 #[.pointer (some ⟨g, 0, none⟩), .int .i64 n] w fun e w' => ∃ v bs, e = .returned v ∧ NewR B w w' v bs ∧ le bs = V % 256 ^ rbN T n ∧ bs.length = rbN T n ∧ RdV w' g ob (V / 2 ^ (8 * rbN T n)) (T - 8 * rbN T n) ∧ Fr (One g) w w' := by
  have HV := hid h
  obtain ⟨bs, off, h, e1, e2⟩ := h
  obtain ⟨A0, n0, c0, hn0, h0, h1', f0, f1, hrow, hb⟩ := h.cells
  have ho8 := h.off8
  have h8 := h.le8
  by_cases hz : off ≠ 0 ∨ n < 1
  · have hm : rbN T n = 0 := by
      unfold rbN
      split
      · unfold rT at e2; omega
      · rfl
    have HM := hid hm
    have hfin : ∃ v bs, (.returned (.slice none 0 0) : Ending) = .returned v ∧ NewR B w w v bs ∧ le bs = V % 256 ^ rbN T n ∧ bs.length = rbN T n ∧ RdV w g ob (V / 2 ^ (8 * rbN T n)) (T - 8 * rbN T n) ∧ Fr (One g) w w := by
      rw [hm]
      refine ⟨_, [], rfl, NewR.nil, by simp [le, Nat.mod_one], rfl, ?_, Fr.refl _ _⟩
      rw [Nat.mul_zero, Nat.pow_zero, Nat.div_one, Nat.sub_zero]
      exact HV.out
    have HF := hid hfin
    clear h hrow hb e1 e2 hn0 h8 hm f0 f1 h0 hfin
    by_cases h1 : off = 0
    · have h2 : n < 1 := by omega
      clear hz
      subst h1
      go_enter Try.func54, Try.ntmps54
      go_wp2_with fail
      go_ret
      exact HF.out
    · clear hz
      go_enter Try.func54, Try.ntmps54
      go_wp2_with fail
      go_ret
      exact HF.out
  · obtain rfl : off = 0 := by omega
    obtain ⟨k, rfl⟩ := Int.eq_ofNat_of_zero_le (show 0 ≤ n by omega)
    have hT : T = 8 * n0 := by unfold rT at e2; omega
    obtain ⟨m, hm0⟩ : ∃ m, m = min k n0 := ⟨_, rfl⟩
    have hm : rbN T k = m := by
      unfold rbN
      rw [hm0, if_pos (by omega)]
      omega
    have hmn : m ≤ n0 := by omega
    have hcap := hrow.rd.2.1
    have hmin : mn (k : Int) (n0 : Int) = (m : Int) := by unfold mn; split <;> omega
    have hcut := cut_h slB A0 n0 c0 (m : Int) m rfl (by omega)
    have hk1 : 1 ≤ (k : Int) := by omega
    have hlen := h.len
    have h8m : IntKind.i64.wrap (8 * (m : Int)) = 8 * (m : Int) := w64 _ (by omega) (by omega)
    have hle : le (bs.take m) = V % 256 ^ m := by rw [le_take, ← e1]; unfold rV; rw [Nat.pow_zero, Nat.div_one]
    have HH := hid (And.intro hrow (And.intro hle (And.intro hT (And.intro hmn (And.intro hn0 hlen)))))
    have HM := hid hm
    have hzn : k ≠ 0 := by omega
    have hall : ∀ o, (w.alloc o).cell? ⟨g, 0, none⟩ = some (.slice A0 n0 c0) := fun o => by
      rw [← h0]; exact ((Fr.refl No w).alloc o).cellg g 0 h.lt (fun h => h)
    clear h hrow hb e1 e2 hm0 h8 hm f0 f1 hz hmn hle hlen hcap hT hn0
    go_enter Try.func54, Try.ntmps54
    go_wp2_with (first
      | (at_builtin; refine wpList_app slB rfl (.tmp 26) (.tmp 32) rfl rfl (Row.new w 1 0 [] _ rfl (by omega)) rfl (show ((bs.take m).map B).length = m * 1 by rw [List.length_map, List.length_take, HH.out.2.2.2.2.1]; have := HH.out.2.2.2.1; omega) (Rd.cells.1 ((HH.out.1.rd.1.alloc _).take m)) (oneB _) (by have := HH.out.2.2.2; omega) (by have := HH.out.2.2.2; omega) ?_; intro A1 c1 w1 ob1 hv1 hf1 hob1; simp only [Nat.zero_add, List.nil_append, World.size_alloc] at hv1 hob1 ⊢; have hfN : Fr No w w1 := (((Fr.refl No w).alloc _).fresh hf1 (fun k e => by injection e with e; omega)); have HA := hid (And.intro hv1 (And.intro hfN hob1)); clear hv1 hf1 hob1 hfN)
      | (go_at_call 60; rw [show (8 : Int) * (m : Int) = ((8 * m : Nat) : Int) by omega]; refine (skip_calls _ _ _ _ _ (HV.out.fr HA.out.2.1 (fun h => h) (fun _ _ h => h)) (8 * m) (by have := HH.out.2.2; omega)).mono ?_; rintro e w' ⟨rfl, hr', hf'⟩))
    go_ret
    have hob1 : ∀ k, ob1 = some k → w.heap.size ≤ k := some_le (m := w.heap.size) (HA.out.2.2.imp id (fun ⟨k, a, b⟩ => ⟨k, a, by omega⟩)) (Nat.le_refl _)
    have hsz := HV.out.lt
    refine ⟨_, bs.take m, rfl, NewR.mk' rfl (by rw [List.length_take, HH.out.2.2.2.2.1]; have := HH.out.2.2.2.1; omega) (HA.out.1.fr hf' (fun k hk e => ?_)) hob1, ?_, ?_, ?_, HA.out.2.1.any.then hf'⟩
    · have := hob1 k hk
      have e : k = g := e
      omega
    · rw [HM.out]; exact HH.out.2.1
    · rw [HM.out, List.length_take, HH.out.2.2.2.2.1]; have := HH.out.2.2.2.1; omega
    · rw [HM.out]; exact hr'
end Go.Proofs.Ytjmgffiplkkgpaa

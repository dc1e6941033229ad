/- The contract of the document's Unpack (NOT DONE: the loop is a sorry). -/
import Derived.Test.YtdbbkdlocmafgaaUnp
import Derived.BigRegion
namespace Go.Proofs.Ytdbbkdlocmafgaa
open Go.RowKit Go.Proofs.HK
set_option linter.unusedVariables false
set_option linter.unusedSimpArgs false
attribute [local go_sem] max2_int min2_int max_two min_two

set_option maxRecDepth 100000 in
set_option maxHeartbeats 3200000 in
theorem refUnpack_calls (A : Option Addr) (bs : List UInt8) (m c : Nat) (d n : Int) (w : World) (hm : bs.length = m) (hr : Rd B w A bs) (hl : m ≤ 2097152) :
    Calls Try.prog 20 #[.slice A m c, .int .i64 d, .int .i64 n] w (RetIE w (unpV bs d n) (unpE bs d n)) := by
  have HR := hid (And.intro hm hr)
  clear hm hr
  by_cases hd : depB d = true
  · by_cases hn : n < 0
    · have HE := hid (show unpE bs d n = 1 by unfold unpE; rw [if_pos (.inr hn)])
      have HD := hid hd
      clear hd
      go_enter Try.func20, Try.ntmps20
      go_wp2_with fail
      refine (refDepth_calls d _).mono ?_
      rw [HD.out]
      rintro e w1 ⟨rfl, rfl⟩
      go_wp2_with fail
      go_ret2
      exact retIE_none HE.out (by decide) (Fr.refl _ _)
    · obtain ⟨dn, rfl, hdn⟩ : ∃ dn : Nat, d = dn ∧ (dn = 1 ∨ dn = 2 ∨ dn = 4 ∨ dn = 8 ∨ dn = 16) := ⟨d.toNat, by have := of_decide_eq_true hd; omega, by have := of_decide_eq_true hd; omega⟩
      obtain ⟨nn, rfl⟩ : ∃ nn : Nat, n = nn := ⟨n.toNat, by omega⟩
      have hd1 : 1 ≤ dn := by omega
      have hd2 : dn ≤ 16 := by omega
      by_cases hgt : (nn : Int) > (m : Int) * 8 / (dn : Int)
      · have HE := hid (show unpE bs dn nn = 2 by unfold unpE; rw [if_neg (by rw [hd]; simp), HR.out.1, if_pos hgt])
        have HD := hid hd
        rw [Int.mul_comm] at hgt
        clear hd hdn
        go_enter Try.func20, Try.ntmps20
        go_wp2_with fail
        refine (refDepth_calls dn _).mono ?_
        rw [HD.out]
        rintro e w1 ⟨rfl, rfl⟩
        go_wp2_with fail
        go_ret2
        exact retIE_none HE.out (by decide) (Fr.refl _ _)
      · have HE := hid (show unpE bs dn nn = 0 by unfold unpE; rw [if_neg (by rw [hd]; simp), HR.out.1, if_neg hgt])
        have hnm : nn * dn ≤ m * 8 := by
          have h1 : (nn : Int) ≤ (m : Int) * 8 / (dn : Int) := by omega
          have h2 := (Int.le_ediv_iff_mul_le (by omega : (0 : Int) < (dn : Int))).1 h1
          exact_mod_cast h2
        have hn2 : nn ≤ 16777216 := by
          have : nn * 1 ≤ nn * dn := Nat.mul_le_mul_left _ hd1
          omega
        have HD := hid (And.intro hd (And.intro hdn hnm))
        clear hd hdn hnm
        rw [Int.mul_comm] at hgt
        have hx1 : decide ((nn : Int) < 0) = false := decide_eq_false (by omega)
        have hx2 : decide (8 * (m : Int) / (dn : Int) < (nn : Int)) = false := decide_eq_false (by omega)
        go_enter Try.func20, Try.ntmps20
        go_wp2_with fail
        refine (refDepth_calls dn _).mono ?_
        rw [HD.out.1]
        rintro e w1 ⟨rfl, rfl⟩
        go_wp2_with fail
        have HG := hid hgt
        clear hgt
        go_loopw [8, 9] (fun l i wr => ∃ (k : Nat) (A1 : Option Addr) (c1 : Nat) (ob1 : Option Nat), i = .int .i64 k ∧ l = .slice A1 k c1 ∧
          Hid (k ≤ nn ∧ Row wr 1 (.slice A1 k c1) ob1 k ((List.range k).map (fun j => Value.int .i64 ((rdN bs (j * dn) dn : Nat) : Int))) ∧ (∀ j, ob1 = some j → w1.heap.size ≤ j) ∧ Fr No w1 wr)) (fun _ i _ => nn - (intOf i).toNat)
        case atStart => exact ⟨0, none, 0, none, rfl, rfl, by omega, by simpa using Row.nil _ _, fun _ h => (by cases h), Fr.refl _ _⟩
        case round =>
          obtain ⟨k, A1, c1, ob1, rfl, rfl, HQ⟩ := hrel
          by_cases hlt : k < nn
          · have hlt' : (k : Int) < (nn : Int) := by omega
            obtain ⟨p, hp⟩ : ∃ p, p = k * dn := ⟨_, rfl⟩
            have hpm : p + dn ≤ m * 8 := by
              have h1 : (k + 1) * dn ≤ nn * dn := Nat.mul_le_mul_right _ hlt
              rw [Nat.succ_mul, ← hp] at h1
              exact Nat.le_trans h1 HD.out.2.2
            have hkw : IntKind.i64.wrap ((k : Int) * (dn : Int)) = (p : Int) := by rw [← Int.natCast_mul, ← hp]; exact w64 _ (by omega) (by omega)
            have hkw2 : IntKind.i64.wrap (((k : Int) + 1) * (dn : Int)) = ((p : Int) + (dn : Int)) := by
              rw [show ((k : Int) + 1) * (dn : Int) = ((p + dn : Nat) : Int) by rw [hp]; push_cast; rw [Int.add_mul, Int.one_mul]]
              rw [w64 _ (by omega) (by omega)]; omega
            have HP := hid hp
            clear hp
            go_wp2_with fail
            go_loopw [10, 11] (fun v i wr2 => ∃ (j V t : Nat), i = .int .i64 (t : Int) ∧ v = .int .i64 V ∧ Hid (t = p + j ∧ j ≤ dn ∧ V = rdN bs p j ∧ Row wr2 1 (.slice A1 k c1) ob1 k ((List.range k).map (fun j => Value.int .i64 ((rdN bs (j * dn) dn : Nat) : Int))) ∧ Fr No w1 wr2)) (fun _ i _ => p + dn - (intOf i).toNat)
            case atStart => exact ⟨0, 0, p, rfl, rfl, rfl, by omega, rfl, HQ.out.2.1, HQ.out.2.2.2⟩
            case round =>
              obtain ⟨j, V, t, rfl, rfl, HJ⟩ := hrel
              have ht := HJ.out.1
              have hjd := HJ.out.2.1
              by_cases hj : j < dn
              · have ht1 : (t : Int) < (p : Int) + (dn : Int) := by omega
                have ht8 : t / 8 < m := by omega
                have ht2 : t ≤ 16777300 := by omega
                obtain ⟨b, hb⟩ : ∃ b, b = byN bs (t / 8) := ⟨_, rfl⟩
                obtain ⟨bd, rfl, c0⟩ : ∃ bd, A = some bd ∧ wr.cell? (bd.add (t / 8)) = some (.int .u8 (b : Int)) := by
                  obtain ⟨bd, e, hc⟩ := (HR.out.2.fr0 HJ.out.2.2.2.2) (by rw [HR.out.1]; omega)
                  have hl8 : t / 8 < bs.length := by rw [HR.out.1]; exact ht8
                  exact ⟨bd, e, by rw [hc _ hl8, hb]; unfold byN; simp [B, List.getD, hl8]⟩
                have hVl : V < 65536 := by
                  have h1 := rdN_lt bs p j
                  have h2 : 2 ^ j ≤ 2 ^ 16 := Nat.pow_le_pow_right (by decide) (by omega)
                  rw [HJ.out.2.2.1]; exact Nat.lt_of_lt_of_le h1 h2
                clear ht hjd
                go_wp2_with fail
                have hz : byN bs (t / 8) < 256 := byN_lt _ _
                obtain ⟨x, hx⟩ : ∃ x, x = byN bs (t / 8) / 2 ^ (7 - t % 8) := ⟨_, rfl⟩
                have hx2 : x ≤ 256 := by rw [hx]; exact Nat.le_trans (Nat.div_le_self _ _) (by omega)
                have e2 : (byN bs (t / 8) : Int) / 2 ^ (7 - t % 8) = (x : Int) := by rw [hx]; simp
                have e3 : rdN bs p (j + 1) = 2 * V + x % 2 := by rw [hx, HJ.out.2.2.1, HJ.out.1]; rfl
                rw [e2]
                clear e2 hx
                have e4 : wrap64 (2 * (V : Int) + (wrap64 (x : Int)).tmod 2) = ((2 * V + x % 2 : Nat) : Int) := by
                  rw [w64i (x : Int) (by omega) (by omega), show Int.tmod (x : Int) 2 = ((x % 2 : Nat) : Int) from (Int.ofNat_tmod x 2).symm, w64i _ (by omega) (by omega)]
                  omega
                rw [e4, ← e3]
                refine ⟨⟨j + 1, _, t + 1, by go_num, rfl, by have := HJ.out.1; omega, by omega, rfl, HJ.out.2.2.2.1, HJ.out.2.2.2.2⟩, by simp [intOf] <;> omega⟩
              · obtain rfl : j = dn := by omega
                have ht1 : ¬ ((t : Int) < (p : Int) + (j : Int)) := by omega
                clear ht hjd hj
                have hk2 : k ≤ 16777216 := by omega
                go_wp2_with (at_builtin; refine wpList_app1 slII rfl (.tmp 57) (.tmp 59) rfl rfl HJ.out.2.2.2.1 rfl (m := 1) (c := 1) (ys := [.int .i64 (V : Int)]) rfl (by simp [Value.oneCell']) (by omega) (by omega) ?_; intro A3 c3 w3 ob3 hrow3 hfr3 hob3)
                go_roundw
                case rel =>
                  refine ⟨k + 1, A3, c3, ob3, by go_num, rfl, by omega, ?_, fun q hq => ?_, HJ.out.2.2.2.2.fresh hfr3 HQ.out.2.2.1⟩
                  · rw [List.range_succ, List.map_append]
                    rw [show [k].map (fun i => Value.int .i64 ((rdN bs (i * j) j : Nat) : Int)) = [Value.int .i64 (V : Int)] by simp [HJ.out.2.2.1, HP.out]]
                    exact hrow3
                  · rcases hob3 with h | ⟨i, h, hi⟩
                    · exact HQ.out.2.2.1 q (by rw [← h]; exact hq)
                    · rw [h] at hq; injection hq with hq; have := HJ.out.2.2.2.2.size; omega
                case measure => simp [intOf] <;> omega
          · obtain rfl : k = nn := by have := HQ.out.1; omega
            have hge : ¬ ((k : Int) < (k : Int)) := by omega
            clear hlt
            have h1 := HQ.out.2.1
            rw [← (unp_all HE.out).1] at h1
            have H1 := hid h1
            clear h1
            go_wp2_with fail
            go_ret2
            exact ⟨_, (by first | exact congrArg (fun z => Ending.returned (.tuple #[_, .int .i64 z])) (Eq.symm HE.out)), ⟨_, _, _, _, rfl, (unp_all HE.out).2, H1.out, HQ.out.2.2.1⟩, HQ.out.2.2.2⟩
  · have hd0 : depB d = false := by cases h : depB d <;> simp_all
    have HE := hid (show unpE bs d n = 1 by unfold unpE; rw [if_pos (.inl hd0)])
    have HD := hid hd0
    clear hd hd0
    go_enter Try.func20, Try.ntmps20
    go_wp2_with fail
    refine (refDepth_calls d _).mono ?_
    rw [HD.out]
    rintro e w1 ⟨rfl, rfl⟩
    go_wp2_with fail
    go_ret2
    exact retIE_none HE.out (by decide) (Fr.refl _ _)
end Go.Proofs.Ytdbbkdlocmafgaa

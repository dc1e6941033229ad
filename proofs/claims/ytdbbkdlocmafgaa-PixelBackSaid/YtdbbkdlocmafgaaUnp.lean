/- The contract of Unpack. -/
import Derived.Test.YtdbbkdlocmafgaaUnpP
import Derived.Test.YtdbbkdlocmafgaaPack
import Derived.BigRegion
namespace Go.Proofs.Ytdbbkdlocmafgaa
open Go.RowKit Go.Proofs.HK
set_option linter.unusedVariables false
set_option linter.unusedSimpArgs false
attribute [local go_sem] max2_int min2_int max_two min_two

def RetIE (w : World) (xs : List Int) (er : Int) (e : Ending) (w' : World) : Prop := ∃ v, e = .returned (.tuple #[v, .int .i64 er]) ∧ New II w w' v xs
theorem i64zero : (Try.prog.info? 3).map (·.zero) = some (some (.int .i64 0)) := by kernel_rfl
theorem retIE_none {w w' : World} {bs : List UInt8} {d n E : Int} (h : unpE bs d n = E) (h0 : E ≠ 0) (hf : Fr No w w') : RetIE w (unpV bs d n) (unpE bs d n) (.returned (.tuple #[.slice none 0 0, .int .i64 E])) w' := by
  refine ⟨_, by rw [h], ?_⟩
  unfold unpV
  rw [if_neg (by rw [h]; exact h0)]
  exact ⟨NewR.nil, hf⟩
theorem Row.setU {w : World} {ad : Addr} {n c : Nat} {ob : Option Nat} {cs : List Value} (h : Row w 1 (.slice (some ad) n c) ob n cs) (k : Nat) (hk : k < n) (a : Value) :
    (∃ old, w.cell? (ad.add k) = some old) ∧ w.frozen? (ad.add k) = false ∧ Row (w.setCell (ad.add k) a) 1 (.slice (some ad) n c) ob n (cs.set k a) ∧ Fr (fun q => ob = some q) w (w.setCell (ad.add k) a) := by
  obtain ⟨g, o, old, e1, e2, e3, e4, e5⟩ := Row.set h k hk a
  injection e1 with e1
  subst e1
  have ha : (⟨g, o, none⟩ : Addr).add k = ⟨g, o + k, none⟩ := add_lit _ _ _
  rw [ha]
  exact ⟨⟨_, e3⟩, e4, e5, (Fr.refl _ w).setCell (p := ⟨g, o + k, none⟩) (fun _ => e2) a⟩
theorem unp_step {bs : List UInt8} {cs : List Value} {n k d V : Nat} (hl : cs.length = n * 1) (hk : k < n) (h : cs.take k = (List.range k).map (fun j => Value.int .i64 ((rdN bs (j * d) d : Nat) : Int))) (hV : V = rdN bs (k * d) d) :
    (cs.set k (.int .i64 (V : Int))).take (k + 1) = (List.range (k + 1)).map (fun j => Value.int .i64 ((rdN bs (j * d) d : Nat) : Int)) := by
  rw [List.take_succ_eq_append_getElem (by simp; omega), List.take_set_of_le (Nat.le_refl _), h, List.range_succ, List.map_append]
  simp [hV]
theorem unp_all {bs : List UInt8} {n d : Nat} (h : unpE bs d n = 0) : (unpV bs d n).map II = (List.range n).map (fun j => Value.int .i64 ((rdN bs (j * d) d : Nat) : Int)) ∧ (unpV bs d n).length = n := by
  unfold unpV
  rw [if_pos h]
  simp [II]
set_option maxRecDepth 100000 in
set_option maxHeartbeats 3200000 in
theorem unpack_calls (A : Option Addr) (bs : List UInt8) (m c : Nat) (d n : Int) (w : World) (hm : bs.length = m) (hr : Rd B w A bs) (hl : m ≤ 2097152) :
    Calls Try.prog 19 #[.slice A m c, .int .i64 d, .int .i64 n] w (RetIE w (unpV bs d n) (unpE bs d n)) := by
  have HR := hid (And.intro hm hr)
  clear hm hr
  by_cases hd : depB d = true
  · by_cases hn : n < 0
    · have HE := hid (show unpE bs d n = 1 by unfold unpE; rw [if_pos (.inr hn)])
      have HD := hid hd
      clear hd
      go_enter Try.func19, Try.ntmps19
      go_wp2_with fail
      refine (deep_calls d _).mono ?_
      rw [HD.out]
      rintro e w1 ⟨rfl, rfl⟩
      go_wp2_with fail
      go_ret2
      exact retIE_none HE.out (by decide) (Fr.refl _ _)
    · obtain ⟨dn, rfl, hdn⟩ : ∃ dn : Nat, d = dn ∧ (dn = 1 ∨ dn = 2 ∨ dn = 4 ∨ dn = 8 ∨ dn = 16) := ⟨d.toNat, by have := of_decide_eq_true hd; omega, by have := of_decide_eq_true hd; omega⟩
      obtain ⟨nn, rfl⟩ : ∃ nn : Nat, n = nn := ⟨n.toNat, by omega⟩
      have hd1 : 1 ≤ dn := by omega
      have hd2 : dn ≤ 16 := by omega
      by_cases hgt : (nn : Int) > (m : Int) * 8 / (dn : Int)
      · have HE := hid (show unpE bs dn nn = 2 by unfold unpE; rw [if_neg (by rw [hd]; simp), HR.out.1, if_pos hgt])
        have HD := hid hd
        clear hd hdn
        go_enter Try.func19, Try.ntmps19
        go_wp2_with fail
        refine (deep_calls dn _).mono ?_
        rw [HD.out]
        rintro e w1 ⟨rfl, rfl⟩
        go_wp2_with fail
        go_ret2
        exact retIE_none HE.out (by decide) (Fr.refl _ _)
      · have HE := hid (show unpE bs dn nn = 0 by unfold unpE; rw [if_neg (by rw [hd]; simp), HR.out.1, if_neg hgt])
        have hnm : nn * dn ≤ m * 8 := by
          have h1 : (nn : Int) ≤ (m : Int) * 8 / (dn : Int) := by omega
          have h2 := (Int.le_ediv_iff_mul_le (by omega : (0 : Int) < (dn : Int))).1 h1
          exact_mod_cast h2
        have hn2 : nn ≤ 16777216 := by
          have : nn * 1 ≤ nn * dn := Nat.mul_le_mul_left _ hd1
          omega
        have HD := hid (And.intro hd (And.intro hdn hnm))
        clear hd hdn hnm
        have hx1 : decide ((nn : Int) < 0) = false := decide_eq_false (by omega)
        have hx2 : decide ((m : Int) * 8 / (dn : Int) < (nn : Int)) = false := decide_eq_false (by omega)
        go_enter Try.func19, Try.ntmps19
        go_wp2_with fail
        refine (deep_calls dn _).mono ?_
        rw [HD.out.1]
        rintro e w1 ⟨rfl, rfl⟩
        go_wp2_with (at_make; refine wpList_mk slII i64zero rfl rfl (.tmp 25) (.tmp 25) rfl rfl rfl (n := nn) rfl rfl (by omega) (by omega) ?_; intro w2 hrow2 hfr2)
        obtain ⟨gs, hgs⟩ : ∃ g, g = w1.heap.size := ⟨_, rfl⟩
        obtain ⟨ad, had⟩ : ∃ ad : Addr, ad = ⟨gs, 0, none⟩ := ⟨_, rfl⟩
        rw [← hgs, ← had] at hrow2
        rw [← hgs, ← had]
        have H2 := hid (And.intro hrow2 (And.intro hfr2 hgs))
        clear hrow2 hfr2 hgs had
        have HG := hid hgt
        clear hgt
        by_cases h16 : dn = 16
        · subst h16
          rw [show ((16 : Nat) : Int) = (16 : Int) from rfl]
          go_loopw [29] (fun i wr => ∃ (k : Nat) (cs : List Value), i = .int .i64 k ∧ Hid (k ≤ nn ∧ Row wr 1 (.slice (some ad) nn nn) (some gs) nn cs ∧ cs.take k = (List.range k).map (fun j => Value.int .i64 ((rdN bs (j * 16) 16 : Nat) : Int)) ∧ Fr (fun q => some gs = some q) w2 wr)) (fun i _ => nn - (intOf i).toNat)
          case atStart => exact ⟨0, _, rfl, Nat.zero_le _, H2.out.1, by simp, Fr.refl _ _⟩
          case round =>
            obtain ⟨k, cs, rfl, HQ⟩ := hrel
            by_cases hlt : k < nn
            · have hlt' : (k : Int) < (nn : Int) := by omega
              have hkm : 2 * k + 1 < m := by have := HD.out.2.2; omega
              obtain ⟨bd, rfl, hcb⟩ : ∃ bd, A = some bd ∧ ∀ j (hj : j < bs.length), wr.cell? (bd.add j) = some (B bs[j]) := by
                have hf := H2.out.2.1.trans HQ.out.2.2.2 (fun q hq (e : some gs = some q) => by have := H2.out.2.2; injection e; omega)
                exact (HR.out.2.fr0 hf) (by rw [HR.out.1]; omega)
              have hm0 : 2 * k < bs.length := by rw [HR.out.1]; omega
              have hm1 : 2 * k + 1 < bs.length := by rw [HR.out.1]; omega
              obtain ⟨b0, hb0⟩ : ∃ b, b = byN bs (2 * k) := ⟨_, rfl⟩
              obtain ⟨b1, hb1⟩ : ∃ b, b = byN bs (2 * k + 1) := ⟨_, rfl⟩
              have c0 : wr.cell? (bd.add (2 * k)) = some (.int .u8 (b0 : Int)) := by rw [hcb _ hm0, hb0]; unfold byN; simp [B, List.getD, hm0]
              have c1 : wr.cell? (bd.add (2 * k + 1)) = some (.int .u8 (b1 : Int)) := by rw [hcb _ hm1, hb1]; unfold byN; simp [B, List.getD, hm1]
              obtain ⟨V, hV⟩ : ∃ V, V = rdN bs (k * 16) 16 := ⟨_, rfl⟩
              obtain ⟨⟨old, o1⟩, o2, o3, o4⟩ := Row.setU HQ.out.2.1 k hlt (.int .i64 (V : Int))
              have hbl0 : b0 < 256 := by rw [hb0]; exact byN_lt _ _
              have hbl1 : b1 < 256 := by rw [hb1]; exact byN_lt _ _
              have HV := hid (And.intro hV (And.intro o3 (And.intro o4 (And.intro hb0 hb1))))
              clear hV o3 o4 hb0 hb1 hcb hm0 hm1
              rw [show 2 * k + 1 = k * 16 / 8 + 1 by omega] at c1
              rw [show 2 * k = k * 16 / 8 by omega] at c0
              have c1' : wr.cell? ⟨bd.block, bd.off + (k * 16 / 8 + 1), none⟩ = some (.int .u8 (b1 : Int)) := c1
              go_wp2_with fail
              have hst : (cs.set k (.int .i64 (V : Int))).take (k + 1) = (List.range (k + 1)).map (fun j => Value.int .i64 ((rdN bs (j * 16) 16 : Nat) : Int)) := unp_step HQ.out.2.1.1 hlt HQ.out.2.2.1 HV.out.1
              have hor : bits .or .i64 ((b0 : Int) * 256) (b1 : Int) = (V : Int) := by
                rw [show (b0 : Int) * 256 = ((b0 * 256 : Nat) : Int) by simp, or_join (b0 * 256) b1 8 (by omega) (by omega) (by omega) (by omega), HV.out.1, rdN_16, ← HV.out.2.2.2.1, ← HV.out.2.2.2.2]
              have HO := hid hor
              have HS := hid hst
              clear hor hst
              go_region
              rw [HO.out]
              go_wp2_with fail
              go_roundw
              case rel => exact ⟨k + 1, _, by go_num, by omega, (HV.out.2.1.fr (Fr.refl No _).drew (fun _ _ h => h)), HS.out, (HQ.out.2.2.2.then HV.out.2.2.1).drew⟩
              case measure => simp [intOf] <;> omega
            · obtain rfl : k = nn := by have := HQ.out.1; omega
              have hge : ¬ ((k : Int) < (k : Int)) := by omega
              clear hlt
              have h1 := HQ.out.2.1
              have h2 := HQ.out.2.2.1
              rw [List.take_of_length_le (by rw [h1.1]; omega)] at h2
              rw [h2, ← (unp_all HE.out).1] at h1
              have H1 := hid h1
              clear h1 h2
              go_wp2_with fail
              go_ret2
              refine ⟨_, (by first | exact congrArg (fun z => Ending.returned (.tuple #[_, .int .i64 z])) (Eq.symm HE.out)), ⟨_, _, _, _, rfl, (unp_all HE.out).2, H1.out, fun q hq => by injection hq with hq; have := H2.out.2.2; omega⟩, H2.out.2.1.trans HQ.out.2.2.2 (fun q hq e => by have := H2.out.2.2; injection e with e; omega)⟩
        · have hn16 : ((dn : Int) == 16) = false := by rw [beq_eq_false_iff_ne]; omega
          have HN16 := hid h16
          clear h16
          go_loopw [29] (fun i wr => ∃ (k : Nat) (cs : List Value), i = .int .i64 k ∧ Hid (k ≤ nn ∧ Row wr 1 (.slice (some ad) nn nn) (some gs) nn cs ∧ cs.take k = (List.range k).map (fun j => Value.int .i64 ((rdN bs (j * dn) dn : Nat) : Int)) ∧ Fr (fun q => some gs = some q) w2 wr)) (fun i _ => nn - (intOf i).toNat)
          case atStart => exact ⟨0, _, rfl, Nat.zero_le _, H2.out.1, by simp, Fr.refl _ _⟩
          case round =>
            obtain ⟨k, cs, rfl, HQ⟩ := hrel
            by_cases hlt : k < nn
            · have hlt' : (k : Int) < (nn : Int) := by omega
              obtain ⟨p, hp⟩ : ∃ p, p = k * dn := ⟨_, rfl⟩
              obtain ⟨b, hb⟩ : ∃ b, b = byN bs (p / 8) := ⟨_, rfl⟩
              obtain ⟨r, hr⟩ : ∃ r, r = p % 8 := ⟨_, rfl⟩
              obtain ⟨P, hP⟩ : ∃ P, P = 2 ^ dn := ⟨_, rfl⟩
              obtain ⟨V, hV⟩ : ∃ V, V = rdN bs (k * dn) dn := ⟨_, rfl⟩
              have hpm : p + dn ≤ m * 8 := by
                have h1 : (k + 1) * dn ≤ nn * dn := Nat.mul_le_mul_right _ hlt
                rw [Nat.succ_mul, ← hp] at h1
                exact Nat.le_trans h1 HD.out.2.2
              have hrd : r + dn ≤ 8 := by
                rcases HD.out.2.1 with h | h | h | h | h
                · rw [h] at hp ⊢; omega
                · rw [h] at hp ⊢; omega
                · rw [h] at hp ⊢; omega
                · rw [h] at hp ⊢; omega
                · exact absurd h HN16.out
              have hp8 : p / 8 < m := by omega
              have hkw : IntKind.i64.wrap ((k : Int) * (dn : Int)) = (p : Int) := by rw [← Int.natCast_mul, ← hp]; exact w64 _ (by omega) (by omega)
              have hand : bits .and .i64 (p : Int) 7 = (r : Int) := by
                have := and_mask p 3 (by omega) (by omega)
                rw [hr]; simpa using this
              obtain ⟨sh, hsh⟩ : ∃ sh, sh = 8 - dn - r := ⟨_, rfl⟩
              have hsh1 : (8 : Int) - (dn : Int) - (r : Int) = (sh : Int) := by omega
              have hbl : b < 256 := by rw [hb]; exact byN_lt _ _
              have hP1 : 2 ≤ P ∧ P ≤ 256 := by
                rw [hP]
                rcases HD.out.2.1 with h | h | h | h | h
                · rw [h]; decide
                · rw [h]; decide
                · rw [h]; decide
                · rw [h]; decide
                · exact absurd h HN16.out
              have hVv : V = b / 2 ^ sh % 2 ^ dn := by rw [hV, ← hp, rdN_in bs p dn (by omega), ← hb, ← hr, ← hsh]
              obtain ⟨old, o1⟩ := (Row.setU HQ.out.2.1 k hlt (.int .i64 (V : Int))).1
              obtain ⟨-, o2, o3, o4⟩ := Row.setU HQ.out.2.1 k hlt (.int .i64 (V : Int))
              obtain ⟨bd, rfl, c0⟩ : ∃ bd, A = some bd ∧ wr.cell? (bd.add (p / 8)) = some (.int .u8 (b : Int)) := by
                have hf := H2.out.2.1.trans HQ.out.2.2.2 (fun q hq (e : some gs = some q) => by have := H2.out.2.2; injection e; omega)
                obtain ⟨bd, e, hc⟩ := (HR.out.2.fr0 hf) (by rw [HR.out.1]; omega)
                have hl8 : p / 8 < bs.length := by rw [HR.out.1]; exact hp8
                exact ⟨bd, e, by rw [hc _ hl8, hb]; unfold byN; simp [B, List.getD, hl8]⟩
              have HV := hid (And.intro hV (And.intro o3 (And.intro o4 (And.intro hVv hP))))
              have hpw : wrap64 ((2 : Int) ^ dn) = (P : Int) := by rw [show (2 : Int) ^ dn = (P : Int) by rw [hP]; simp]; exact w64i _ (by omega) (by omega)
              have hs8 : sh ≤ 8 := by omega
              have HM := hid (show bits .and .i64 ((b : Int) / 2 ^ sh) (wrap64 ((P : Int) - 1)) = (V : Int) by
                clear hpw hsh1 hkw hand
                have e1 : wrap64 ((P : Int) - 1) = (P : Int) - 1 := w64i _ (by omega) (by omega)
                have e2 : (b : Int) / 2 ^ sh = ((b / 2 ^ sh : Nat) : Int) := by simp
                have hle : b / 2 ^ sh ≤ b := Nat.div_le_self _ _
                rw [e1, e2, hP, and_mask (b / 2 ^ sh) dn (by clear e1 e2 hP hVv; omega) (by omega), hVv])
              clear hV o3 o4 hVv hP hb hr hp hsh hP1
              go_wp2_with fail
              rw [HM.out]
              clear hpw
              refine ⟨⟨k + 1, _, by go_num, by omega, HV.out.2.1, unp_step HQ.out.2.1.1 hlt HQ.out.2.2.1 HV.out.1, HQ.out.2.2.2.then HV.out.2.2.1⟩, ?_⟩
              simp [intOf] <;> omega
            · obtain rfl : k = nn := by have := HQ.out.1; omega
              have hge : ¬ ((k : Int) < (k : Int)) := by omega
              clear hlt
              have h1 := HQ.out.2.1
              have h2 := HQ.out.2.2.1
              rw [List.take_of_length_le (by rw [h1.1]; omega)] at h2
              rw [h2, ← (unp_all HE.out).1] at h1
              have H1 := hid h1
              clear h1 h2
              go_wp2_with fail
              go_ret2
              refine ⟨_, (by first | exact congrArg (fun z => Ending.returned (.tuple #[_, .int .i64 z])) (Eq.symm HE.out)), ⟨_, _, _, _, rfl, (unp_all HE.out).2, H1.out, fun q hq => by injection hq with hq; have := H2.out.2.2; omega⟩, H2.out.2.1.trans HQ.out.2.2.2 (fun q hq e => by have := H2.out.2.2; injection e with e; omega)⟩
  · have hd0 : depB d = false := by cases h : depB d <;> simp_all
    have HE := hid (show unpE bs d n = 1 by unfold unpE; rw [if_pos (.inl hd0)])
    have HD := hid hd0
    clear hd hd0
    go_enter Try.func19, Try.ntmps19
    go_wp2_with fail
    refine (deep_calls d _).mono ?_
    rw [HD.out]
    rintro e w1 ⟨rfl, rfl⟩
    go_wp2_with fail
    go_ret2
    exact retIE_none HE.out (by decide) (Fr.refl _ _)
end Go.Proofs.Ytdbbkdlocmafgaa

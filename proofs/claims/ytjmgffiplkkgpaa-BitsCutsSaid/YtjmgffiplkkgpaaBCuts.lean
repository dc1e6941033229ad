/- The walk of BitsCuts. -/
import Derived.Test.YtjmgffiplkkgpaaBLaw
import Derived.Deep.DeepCutAuto
import Derived.Deep.CutBlock
namespace Go.Proofs.Ytjmgffiplkkgpaa
open Go.RowKit Go.Proofs.HK
set_option linter.unusedVariables false
set_option linter.unusedSimpArgs false
attribute [local go_sem] max2_int min2_int max_two min_two

theorem le_take_add (bs : List UInt8) (p m : Nat) (h : p ≤ bs.length) : le (bs.take p) + 2 ^ (8 * p) * le ((bs.drop p).take m) = le (bs.take (p + m)) := by
  rw [List.take_add, le_append, List.length_take, Nat.min_eq_left h, pow256]
set_option maxRecDepth 100000 in
set_option maxHeartbeats 1600000 in
theorem bitsCuts_walk (A : Option Addr) (bs : List UInt8) (n0 c : Nat) (A' : Option Addr) (cs : List UInt8) (n1 c' : Nat) (A'' : Option Addr) (zs : List UInt8) (n2 c'' : Nat) (w : World) (s0 : SlIn B 1 w A bs n0 c) (s1 : SlIn B 1 w A' cs n1 c') (s2 : SlIn B 1 w A'' zs n2 c'') :
    Calls Try.prog 4 #[.slice A n0 c, .slice A' n1 c', .slice A'' n2 c''] w fun e w' => e = .returned (.bool true) ∧ Fr No w w' := by
  obtain ⟨hn0, hr, hlc, hl⟩ := s0
  obtain ⟨hn1, hr', hlc', hl'⟩ := s1
  obtain ⟨hn2, hr'', hlc'', hl''⟩ := s2
  have HR := hid (And.intro hn0 (And.intro hr (And.intro hn1 (And.intro hr' (And.intro hn2 hr'')))))
  clear hr hr' hr'' hn0 hn1 hn2
  by_cases g0 : 3000 < n0
  · go_enter Try.func4, Try.ntmps4
    go_wp2_with (go_at_call 19; refine (fixed1_calls _).mono ?_; rintro e w1 ⟨rfl, hf1⟩; have HF := hid hf1; clear hf1)
    go_ret
    exact ⟨rfl, HF.out⟩
  by_cases g1 : 3000 < n1
  · have g0' : n0 ≤ 3000 := by omega
    go_enter Try.func4, Try.ntmps4
    go_wp2_with (go_at_call 19; refine (fixed1_calls _).mono ?_; rintro e w1 ⟨rfl, hf1⟩; have HF := hid hf1; clear hf1)
    go_ret
    exact ⟨rfl, HF.out⟩
  by_cases g2 : 3000 < n2
  · have g0' : n0 ≤ 3000 := by omega
    have g1' : n1 ≤ 3000 := by omega
    go_enter Try.func4, Try.ntmps4
    go_wp2_with (go_at_call 19; refine (fixed1_calls _).mono ?_; rintro e w1 ⟨rfl, hf1⟩; have HF := hid hf1; clear hf1)
    go_ret
    exact ⟨rfl, HF.out⟩
  have g0' : n0 ≤ 3000 := by omega
  have g1' : n1 ≤ 3000 := by omega
  have g2' : n2 ≤ 3000 := by omega
  clear g0 g1 g2 hl hl' hl''
  go_enter Try.func4, Try.ntmps4
  go_wp2_with (go_at_call 19; refine (fixed1_calls _).mono ?_; rintro e w1 ⟨rfl, hf1⟩; have HF := hid hf1; clear hf1)
  refine (bnew_calls _).mono ?_
  rintro e w2 ⟨gr, rfl, hgr, hr, hf⟩
  have hs1 := HF.out.size
  have HA := hid (And.intro hr (HF.out.then hf))
  clear hr hf HF
  go_wp2_with fail
  refine (bnew_calls _).mono ?_
  rintro e w3 ⟨gx, rfl, hgx, hx, hf⟩
  have hs2 := hf.size
  have hgr2 := HA.out.1.lt
  have HB := hid (And.intro hx (And.intro (HA.out.1.fr hf (fun h => h) (fun _ _ h => h)) (HA.out.2.then hf)))
  clear hx hf HA
  go_wp2_with fail
  refine (feed_calls _ _ _ _ _ HB.out.1 _ bs _ _ HR.out.1 (HR.out.2.1.fr0 HB.out.2.2) (by omega)).mono ?_
  rintro e w4 ⟨rfl, obx, hx, hobx, hf⟩
  have hs3 := hf.size
  have hgx3 := HB.out.1.lt
  have hoxge : ∀ k, obx = some k → w3.heap.size ≤ k := ob_ge hobx (fun _ h => (by cases h)) (Nat.le_refl _)
  have hfx : Fr No w w4 := HB.out.2.2.trans hf (fun k hk e => by have := RF.none e; omega)
  have hr4 := HB.out.2.1.fr hf (fun e => by have := RF.none e; omega) (fun _ h => (by cases h))
  rw [show 0 + 2 ^ 0 * le bs = le bs by omega, show 0 + 8 * n0 = 8 * n0 by omega] at hx
  have hoxlt := hx.olt
  have HC := hid (And.intro hx (And.intro hr4 hfx))
  have HOX := hid (And.intro hoxge hoxlt)
  clear hx hr4 hfx hf hobx HB hoxge hoxlt
  go_wp2_with fail
  go_loopw [9, 42] (fun v i wr => ∃ (k p : Nat) (A1 : Option Addr) (c1 : Nat) (obr : Option Nat), k ≤ n1 ∧ i = .int .i64 k ∧ p ≤ n0 ∧ v = .slice A1 (n0 - p) c1 ∧ n0 - p ≤ c1 ∧
      Rd B w A1 (bs.drop p) ∧ RdV wr gr obr (le (bs.take p)) (8 * p) ∧ RdV wr gx obx (le bs) (8 * n0) ∧ (∀ k, obr = some k → w4.heap.size ≤ k) ∧ Fr No w wr ∧ w4.heap.size ≤ wr.heap.size)
    (fun _ i _ => n1 - (intOf i).toNat)
  case atStart => exact ⟨0, 0, A, c, none, by omega, rfl, by omega, rfl, by omega, HR.out.2.1, HC.out.2.1, HC.out.1, fun _ h => (by cases h), HC.out.2.2, Nat.le_refl _⟩
  case round =>
    obtain ⟨k, p, A1, c1, obr, hk, rfl, hp, rfl, hc1, h1, h2, h3, h4, h5, h6⟩ := hrel
    have HREL := hid (And.intro h1 (And.intro h2 (And.intro h3 (And.intro h4 (And.intro h5 h6)))))
    clear h1 h2 h3 h4 h5 h6 HC
    by_cases hlt : k < n1
    · obtain ⟨ad, hA', hcell⟩ := (HR.out.2.2.2.1.fr0 HREL.out.2.2.2.2.1).atN k (by rw [HR.out.2.2.1]; exact hlt)
      subst hA'
      have hbz := B_lt (rdB cs k)
      obtain ⟨m, hm⟩ : ∃ m : Nat, mn ((rdB cs k).toNat : Int) ((n0 - p : Nat) : Int) = (m : Int) := ⟨(mn ((rdB cs k).toNat : Int) ((n0 - p : Nat) : Int)).toNat, by rw [mn_eq]; omega⟩
      have hmle : m ≤ n0 - p := by rw [mn_eq] at hm; omega
      have hcut := cut_h slB A1 (n0 - p) c1 (m : Int) m rfl (by omega)
      have hcutl := cut_l slB A1 (n0 - p) c1 (m : Int) m rfl (by omega)
      go_wp2_with fail
      refine (feed_calls _ _ _ _ _ HREL.out.2.1 _ ((bs.drop p).take m) _ _ (by rw [List.length_take, List.length_drop, HR.out.1]; omega) ((HREL.out.1.take m).fr0 HREL.out.2.2.2.2.1) (by omega)).mono ?_
      rw [le_take_add bs p m (by rw [HR.out.1]; exact hp), ← Nat.mul_add]
      rintro e w5 ⟨rfl, obr5, hr5, hobr5, hf5⟩
      have hgr4 : w.heap.size ≤ gr := by omega
      have hx5 := HREL.out.2.2.1.fr hf5 (fun e => by rcases e with e | e <;> first | omega | (have := HREL.out.2.2.2.1 _ e.symm; omega))
        (fun q hq e => by have h1 := HOX.out.1 q hq; have h2 := HOX.out.2 q hq; rcases e with e | e <;> first | omega | (have := HREL.out.2.2.2.1 _ e.symm; omega))
      have ho5 : ∀ q, obr5 = some q → w4.heap.size ≤ q := ob_ge hobr5 HREL.out.2.2.2.1 HREL.out.2.2.2.2.2
      have hf5' : Fr No w w5 := HREL.out.2.2.2.2.1.trans hf5 (fun q hq e => by rcases e with e | e <;> first | omega | (have := HREL.out.2.2.2.1 _ e.symm; omega))
      have hs5 : w4.heap.size ≤ w5.heap.size := by have := HREL.out.2.2.2.2.2; have := hf5.size; omega
      have hrd5 : Rd B w (cutA A1 c1 m 1) (bs.drop (p + m)) := by
        rw [← List.drop_drop]
        exact HREL.out.1.cutA m c1 (by rw [List.length_drop, HR.out.1]; omega) (by rw [List.length_drop, HR.out.1]; omega)
      have H5 := hid (And.intro hrd5 (And.intro hr5 (And.intro hx5 (And.intro ho5 (And.intro hf5' hs5)))))
      clear hr5 hobr5 hf5 hx5 ho5 hf5' hs5 hrd5 HREL
      go_wp2_with fail
      go_roundw
      case rel => exact ⟨k + 1, p + m, cutA A1 c1 m 1, c1 - m, obr5, by omega, by go_num, by omega, by rw [Nat.sub_sub], by omega, H5.out⟩
      case measure => simp [intOf] <;> omega
    · have hge : n1 ≤ k := by omega
      clear hlt
      go_wp2_with fail
      refine (feed_calls _ _ _ _ _ HREL.out.2.1 _ (bs.drop p) _ _ (by rw [List.length_drop, HR.out.1]) (HREL.out.1.fr0 HREL.out.2.2.2.2.1) (by omega)).mono ?_
      rw [show le (bs.take p) + 2 ^ (8 * p) * le (bs.drop p) = le bs by
        rw [← pow256]
        have := le_append (bs.take p) (bs.drop p)
        rw [List.take_append_drop, List.length_take, HR.out.1, Nat.min_eq_left hp] at this
        exact this.symm, ← Nat.mul_add, Nat.add_sub_cancel' hp]
      rintro e w5 ⟨rfl, obr5, hr5, hobr5, hf5⟩
      have hx5 := HREL.out.2.2.1.fr hf5 (fun e => by rcases e with e | e <;> first | omega | (have := HREL.out.2.2.2.1 _ e.symm; omega))
        (fun q hq e => by have h1 := HOX.out.1 q hq; have h2 := HOX.out.2 q hq; rcases e with e | e <;> first | omega | (have := HREL.out.2.2.2.1 _ e.symm; omega))
      have ho5 : ∀ q, obr5 = some q → w4.heap.size ≤ q := ob_ge hobr5 HREL.out.2.2.2.1 HREL.out.2.2.2.2.2
      have hf5' : Fr No w w5 := HREL.out.2.2.2.2.1.trans hf5 (fun q hq e => by rcases e with e | e <;> first | omega | (have := HREL.out.2.2.2.1 _ e.symm; omega))
      have H5 := hid (And.intro hr5 (And.intro hx5 (And.intro ho5 hf5')))
      clear hr5 hobr5 hf5 hx5 ho5 hf5' HREL
      go_wp2_with fail
      go_loopw [65] (fun i wr => ∃ (k V T : Nat), k ≤ n2 ∧ i = .int .i64 k ∧ RdV wr gr obr5 V T ∧ RdV wr gx obx V T ∧ Fr No w wr) (fun i _ => n2 - (intOf i).toNat)
      case atStart => exact ⟨0, _, _, by omega, rfl, H5.out.1, H5.out.2.1, H5.out.2.2.2⟩
      case round =>
        obtain ⟨k, V, T, hk, rfl, h1, h2, h3⟩ := hrel
        have HREL := hid (And.intro h1 (And.intro h2 h3))
        clear h1 h2 h3
        by_cases hlt : k < n2
        · obtain ⟨ad, hA', hcell⟩ := (HR.out.2.2.2.2.2.fr0 HREL.out.2.2).atN k (by rw [HR.out.2.2.2.2.1]; exact hlt)
          subst hA'
          have hbz := B_lt (rdB zs k)
          obtain ⟨q, hq⟩ : ∃ q : Nat, q = (rdB zs k).toNat % 33 := ⟨_, rfl⟩
          have hqi : ((rdB zs k).toNat : Int) % 33 = (q : Int) := by omega
          have hq32 : q ≤ 32 := by omega
          by_cases hT : q ≤ T
          · have HT := hid hT
            clear hT hq
            go_wp2_with fail
            rw [hqi]
            refine (take_calls _ _ _ _ _ HREL.out.1 q hq32 HT.out).mono ?_
            rintro e w6 ⟨rfl, hr6, hf6⟩
            have hx6 := HREL.out.2.1.fr hf6 (fun (e : gx = gr) => by omega) (fun q hq (e : q = gr) => by have := HOX.out.1 q hq; omega)
            have H6 := hid (And.intro hr6 (And.intro hx6 (HREL.out.2.2.trans hf6 (fun q hq (e : q = gr) => by omega))))
            clear hr6 hx6 hf6 HREL
            go_wp2_with fail
            rw [hqi]
            refine (take_calls _ _ _ _ _ H6.out.2.1 q hq32 HT.out).mono ?_
            rintro e w7 ⟨rfl, hx7, hf7⟩
            have hr7 := H6.out.1.fr hf7 (fun (e : gr = gx) => by omega) (fun q hq (e : q = gx) => by have := H5.out.2.2.1 q hq; omega)
            have H7 := hid (And.intro hr7 (And.intro hx7 (H6.out.2.2.trans hf7 (fun q hq (e : q = gx) => by omega))))
            clear hr7 hx7 hf7 H6
            go_wp2_with fail
            refine (have_calls _ _ _ _ _ H7.out.1).mono ?_
            rintro e w8 ⟨rfl, k8, rfl⟩
            go_wp2_with fail
            refine (have_calls _ _ _ _ _ (H7.out.2.1.fr (S := No) ((Fr.refl _ _).drewN _) (fun h => h) (fun _ _ h => h))).mono ?_
            rintro e w9 ⟨rfl, k9, rfl⟩
            go_wp2_with fail
            go_roundw
            case rel => exact ⟨k + 1, V / 2 ^ q, T - q, by omega, by go_num, H7.out.1.fr (S := No) ((Fr.refl _ _).drewN _) (fun h => h) (fun _ _ h => h), H7.out.2.1.fr (S := No) ((Fr.refl _ _).drewN _) (fun h => h) (fun _ _ h => h), H7.out.2.2.drewN _⟩
            case measure => simp [intOf] <;> omega
          · have HT : Hid (¬ takeOk T (q : Int)) := fun h => hT (by have := h.2.2; omega)
            clear hT hq
            go_wp2_with fail
            rw [hqi]
            refine (take_no _ _ _ _ _ HREL.out.1 q HT.out).mono ?_
            rintro e w6 ⟨rfl, k6, rfl⟩
            go_wp2_with fail
            rw [hqi]
            refine (take_no _ _ _ _ _ (HREL.out.2.1.fr (S := No) ((Fr.refl _ _).drewN _) (fun h => h) (fun _ _ h => h)) q HT.out).mono ?_
            rintro e w7 ⟨rfl, k7, rfl⟩
            go_wp2_with fail
            refine (have_calls _ _ _ _ _ (HREL.out.1.fr (S := No) ((Fr.refl _ _).drewN _) (fun h => h) (fun _ _ h => h))).mono ?_
            rintro e w8 ⟨rfl, k8, rfl⟩
            go_wp2_with fail
            refine (have_calls _ _ _ _ _ (HREL.out.2.1.fr (S := No) ((Fr.refl _ _).drewN _) (fun h => h) (fun _ _ h => h))).mono ?_
            rintro e w9 ⟨rfl, k9, rfl⟩
            go_wp2_with fail
            go_roundw
            case rel => exact ⟨k + 1, V, T, by omega, by go_num, HREL.out.1.fr (S := No) ((Fr.refl _ _).drewN _) (fun h => h) (fun _ _ h => h), HREL.out.2.1.fr (S := No) ((Fr.refl _ _).drewN _) (fun h => h) (fun _ _ h => h), HREL.out.2.2.drewN _⟩
            case measure => simp [intOf] <;> omega
        · have hge2 : n2 ≤ k := by omega
          clear hlt
          go_wp2_with fail
          go_ret
          exact ⟨rfl, HREL.out.2.2⟩
end Go.Proofs.Ytjmgffiplkkgpaa

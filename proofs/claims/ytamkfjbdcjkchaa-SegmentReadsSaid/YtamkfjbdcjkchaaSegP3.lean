/- Messages, plainly: what is written is read as it was; what is read is written as it was; what is turned is refused. -/
import Derived.Test.YtamkfjbdcjkchaaSegP2
namespace Go.Proofs.Ytamkfjbdcjkchaa
open Go.RowKit Go.Proofs.HK
set_option linter.unusedVariables false

theorem at_mid {o : List UInt8} {p k : Nat} (a b c : List UInt8) (h : o = a ++ (b ++ c)) (hp : a.length = p) (hk : b.length = k) : at_ o p k = be b := by
  subst h; subst hp; subst hk
  unfold at_
  rw [List.drop_left, List.take_left]
theorem be_int (n : Nat) (v : Int) (h0 : 0 ≤ v) (h1 : v < ((256 ^ n : Nat) : Int)) : ((be (putBE n v) : Nat) : Int) = v := by
  obtain ⟨V, rfl⟩ := Int.eq_ofNat_of_zero_le h0
  rw [be_putBE, Nat.mod_eq_of_lt (by omega)]
theorem be_nat (n V : Nat) (h1 : V < 256 ^ n) : be (putBE n (V : Int)) = V := by rw [be_putBE, Nat.mod_eq_of_lt h1]
theorem rgParts_cons (r : Int × Int) (R : List (Int × Int)) : (rgParts (r :: R)).flatten = putBE 4 r.1 ++ (putBE 4 r.2 ++ (rgParts R).flatten) := by simp [rgParts]
theorem rgParts_length : ∀ R : List (Int × Int), (rgParts R).flatten.length = 8 * R.length
  | [] => rfl
  | r :: R => by rw [rgParts_cons, List.length_append, List.length_append, putBE_length, putBE_length, rgParts_length R, List.length_cons]; omega
theorem pairsAt_rg : ∀ (R : List (Int × Int)) (o a : List UInt8) (p : Nat), o = a ++ (rgParts R).flatten → a.length = p → (∀ r ∈ R, 0 ≤ r.1 ∧ r.1 < 4294967296 ∧ 0 ≤ r.2 ∧ r.2 < 4294967296) → pairsAt o p R.length = R
  | [], _, _, _, _, _, _ => rfl
  | r :: R, o, a, p, h, hp, hb => by
    have hr := hb r (by simp)
    rw [rgParts_cons] at h
    have e1 := at_mid (k := 4) a (putBE 4 r.1) (putBE 4 r.2 ++ (rgParts R).flatten) h hp (putBE_length _ _)
    have e2 := at_mid (o := o) (p := p + 4) (k := 4) (a ++ putBE 4 r.1) (putBE 4 r.2) (rgParts R).flatten (by rw [h]; simp) (by simp [putBE_length, hp]) (putBE_length _ _)
    have e3 := pairsAt_rg R o (a ++ putBE 4 r.1 ++ putBE 4 r.2) (p + 8) (by rw [h]; simp) (by simp [putBE_length, hp]) (fun q hq => hb q (by simp [hq]))
    rw [List.length_cons, pairsAt_head, e1, e2, e3, be_int 4 r.1 hr.1 (by omega), be_int 4 r.2 hr.2.2.1 (by omega)]
theorem chain_bd : ∀ (R : List (Int × Int)) (a : Int), 0 ≤ a → chainB a R = true → ∀ r ∈ R, 0 ≤ r.1 ∧ r.1 < 4294967296 ∧ 0 ≤ r.2 ∧ r.2 < 4294967296
  | [], _, _, _ => by simp
  | s :: R, a, ha, h => by
    unfold chainB at h
    simp only [Bool.and_eq_true, decide_eq_true_eq] at h
    intro r hr
    rcases List.mem_cons.1 hr with e | e
    · subst e; omega
    · exact chain_bd R s.2 (by omega) h.2 r e

theorem segO_eq (m : MsgS) : segO m = putBE 1 m.K ++ (putBE 4 (m.U : Int) ++ (segParts m).flatten) := by simp [segO]
theorem segO_len (m : MsgS) : 5 ≤ (segO m).length := by rw [segO_eq]; simp [putBE_length]; omega
/-- What may be is read as it was. -/
theorem may_back (m : MsgS) (hU : m.U < 4294967296) (hS : m.S < 4294967296) (h : mayB m = true) : prB (segO m) = true ∧ mO (segO m) = m := by
  have h5 := segO_len m
  obtain ⟨q1, q2⟩ := pr_eq h5
  suffices hs : okL (at_ (segO m) 0 1 : Nat) (segO m).length (at_ (segO m) 9 1) = true ∧ rrM (segO m) = m by
    have hb : rrB (segO m) = true := by unfold rrB; rw [hs.1, hs.2, h]; rfl
    rw [hb] at q1
    exact ⟨q1, (q2 q1).trans hs.2⟩
  have hm := h
  unfold mayB at hm
  simp only [Bool.and_eq_true, decide_eq_true_eq] at hm
  obtain ⟨⟨hk, hp⟩, hr⟩ := hm
  unfold kindB at hk
  have hk := of_decide_eq_true hk
  unfold rangedB at hr
  simp only [Bool.and_eq_true] at hr
  obtain ⟨⟨hr0, hr1⟩, hr2⟩ := hr
  unfold base0 at hr0
  have hr0 := of_decide_eq_true hr0
  unfold base1 at hr1
  obtain ⟨o, ho⟩ : ∃ o, o = segO m := ⟨_, rfl⟩
  rw [← ho] at h5 ⊢
  have hq := ho
  rw [segO_eq] at ho
  have a0 : at_ o 0 1 = be (putBE 1 m.K) := at_mid [] _ _ ho rfl (putBE_length _ _)
  have a1 : at_ o 1 4 = be (putBE 4 (m.U : Int)) := at_mid (putBE 1 m.K) _ _ ho (putBE_length _ _) (putBE_length _ _)
  have hK : ((at_ o 0 1 : Nat) : Int) = m.K := by rw [a0]; exact be_int 1 _ (by omega) (by omega)
  have hU' : at_ o 1 4 = m.U := by rw [a1]; exact be_nat 4 _ (by omega)
  rw [hp]
  unfold okL rrM plainS
  simp only
  rw [hK, hU']
  by_cases k1 : m.K = 1
  · simp only [if_pos k1]
    have hf : (segParts m).flatten = putBE 1 m.F ++ (putBE 4 (m.S : Int) ++ putBE 4 m.P) := by unfold segParts; rw [if_pos k1]; simp
    rw [hf] at ho
    have b1 : at_ o 5 1 = _ := at_mid (putBE 1 m.K ++ putBE 4 (m.U : Int)) (putBE 1 m.F) (putBE 4 (m.S : Int) ++ putBE 4 m.P) (by rw [ho]; simp) (by simp [putBE_length]) (putBE_length _ _)
    have b2 : at_ o 6 4 = _ := at_mid (putBE 1 m.K ++ putBE 4 (m.U : Int) ++ putBE 1 m.F) (putBE 4 (m.S : Int)) (putBE 4 m.P) (by rw [ho]; simp) (by simp [putBE_length]) (putBE_length _ _)
    have b3 : at_ o 10 4 = _ := at_mid (putBE 1 m.K ++ putBE 4 (m.U : Int) ++ putBE 1 m.F ++ putBE 4 (m.S : Int)) (putBE 4 m.P) [] (by rw [ho]; simp) (by simp [putBE_length]) (putBE_length _ _)
    refine ⟨decide_eq_true (by rw [ho]; simp [putBE_length]), ?_⟩
    rw [b1, b2, b3, be_int 1 m.F (by omega) (by omega), be_nat 4 m.S (by omega), be_int 4 m.P (by omega) (by omega)]
  simp only [if_neg k1]
  by_cases k2 : m.K = 2
  · simp only [if_pos k2]
    rw [if_pos k2] at hr1
    have hr1 := of_decide_eq_true hr1
    have hf : (segParts m).flatten = putBE 1 m.F ++ (putBE 4 (m.S : Int) ++ (putBE 4 m.Z ++ (putBE 4 m.P ++ putBE 2 m.Y))) := by unfold segParts; rw [if_neg k1, if_pos k2]; simp
    rw [hf] at ho
    have b1 : at_ o 5 1 = _ := at_mid (putBE 1 m.K ++ putBE 4 (m.U : Int)) (putBE 1 m.F) (putBE 4 (m.S : Int) ++ (putBE 4 m.Z ++ (putBE 4 m.P ++ putBE 2 m.Y))) (by rw [ho]; simp) (by simp [putBE_length]) (putBE_length _ _)
    have b2 : at_ o 6 4 = _ := at_mid (putBE 1 m.K ++ putBE 4 (m.U : Int) ++ putBE 1 m.F) (putBE 4 (m.S : Int)) (putBE 4 m.Z ++ (putBE 4 m.P ++ putBE 2 m.Y)) (by rw [ho]; simp) (by simp [putBE_length]) (putBE_length _ _)
    have b3 : at_ o 10 4 = _ := at_mid (putBE 1 m.K ++ putBE 4 (m.U : Int) ++ putBE 1 m.F ++ putBE 4 (m.S : Int)) (putBE 4 m.Z) (putBE 4 m.P ++ putBE 2 m.Y) (by rw [ho]; simp) (by simp [putBE_length]) (putBE_length _ _)
    have b4 : at_ o 14 4 = _ := at_mid (putBE 1 m.K ++ putBE 4 (m.U : Int) ++ putBE 1 m.F ++ putBE 4 (m.S : Int) ++ putBE 4 m.Z) (putBE 4 m.P) (putBE 2 m.Y) (by rw [ho]; simp) (by simp [putBE_length]) (putBE_length _ _)
    have b5 : at_ o 18 2 = _ := at_mid (putBE 1 m.K ++ putBE 4 (m.U : Int) ++ putBE 1 m.F ++ putBE 4 (m.S : Int) ++ putBE 4 m.Z ++ putBE 4 m.P) (putBE 2 m.Y) [] (by rw [ho]; simp) (by simp [putBE_length]) (putBE_length _ _)
    refine ⟨decide_eq_true (by rw [ho]; simp [putBE_length]), ?_⟩
    rw [b1, b2, b3, b4, b5, be_int 1 m.F (by omega) (by omega), be_nat 4 m.S (by omega), be_int 4 m.Z (by omega) (by omega), be_int 4 m.P (by omega) (by omega), be_int 2 m.Y (by omega) (by omega)]
  simp only [if_neg k2]
  by_cases k3 : m.K = 3
  · simp only [if_pos k3]
    have hf : (segParts m).flatten = putBE 4 m.X ++ (putBE 1 m.Q ++ m.D) := by unfold segParts; rw [if_neg k1, if_neg k2, if_pos k3]; simp
    rw [hf] at ho
    have b1 : at_ o 5 4 = _ := at_mid (putBE 1 m.K ++ putBE 4 (m.U : Int)) (putBE 4 m.X) (putBE 1 m.Q ++ m.D) (by rw [ho]; simp) (by simp [putBE_length]) (putBE_length _ _)
    have b2 : at_ o 9 1 = _ := at_mid (putBE 1 m.K ++ putBE 4 (m.U : Int) ++ putBE 4 m.X) (putBE 1 m.Q) m.D (by rw [ho]; simp) (by simp [putBE_length]) (putBE_length _ _)
    have b3 : o.drop 10 = m.D := by
      have e : o = (putBE 1 m.K ++ putBE 4 (m.U : Int) ++ putBE 4 m.X ++ putBE 1 m.Q) ++ m.D := by rw [ho]; simp
      rw [e]
      exact List.drop_left' (by simp [putBE_length])
    refine ⟨decide_eq_true (by rw [ho]; simp [putBE_length]; omega), ?_⟩
    rw [b1, b2, b3, be_int 4 m.X (by omega) (by omega), be_int 1 m.Q (by omega) (by omega)]
  simp only [if_neg k3]
  by_cases k4 : m.K = 4
  · simp only [if_pos k4]
    have hf : (segParts m).flatten = putBE 4 m.X ++ (putBE 1 (m.R.length : Int) ++ (rgParts m.R).flatten) := by unfold segParts; rw [if_neg k1, if_neg k2, if_neg k3, if_pos k4]; simp
    rw [hf] at ho
    have b1 : at_ o 5 4 = _ := at_mid (putBE 1 m.K ++ putBE 4 (m.U : Int)) (putBE 4 m.X) (putBE 1 (m.R.length : Int) ++ (rgParts m.R).flatten) (by rw [ho]; simp) (by simp [putBE_length]) (putBE_length _ _)
    have b2 : at_ o 9 1 = _ := at_mid (putBE 1 m.K ++ putBE 4 (m.U : Int) ++ putBE 4 m.X) (putBE 1 (m.R.length : Int)) (rgParts m.R).flatten (by rw [ho]; simp) (by simp [putBE_length]) (putBE_length _ _)
    have b3 : pairsAt o 10 m.R.length = m.R := pairsAt_rg m.R o (putBE 1 m.K ++ putBE 4 (m.U : Int) ++ putBE 4 m.X ++ putBE 1 (m.R.length : Int)) 10 (by rw [ho]; simp) (by simp [putBE_length]) (chain_bd m.R m.X (by omega) hr2)
    rw [be_nat 1 m.R.length (by omega)] at b2
    refine ⟨decide_eq_true (by rw [b2, ho]; simp only [List.length_append, putBE_length, rgParts_length]; omega), ?_⟩
    rw [b1, b2, b3, be_int 4 m.X (by omega) (by omega)]
  simp only [if_neg k4]
  have k5 : m.K = 5 := by omega
  simp only [if_pos k5]
  have hf : (segParts m).flatten = putBE 1 m.F ++ putBE 1 m.C := by unfold segParts; rw [if_neg k1, if_neg k2, if_neg k3, if_neg k4]; simp
  rw [hf] at ho
  have b1 : at_ o 5 1 = _ := at_mid (putBE 1 m.K ++ putBE 4 (m.U : Int)) (putBE 1 m.F) (putBE 1 m.C) (by rw [ho]; simp) (by simp [putBE_length]) (putBE_length _ _)
  have b2 : at_ o 6 1 = _ := at_mid (putBE 1 m.K ++ putBE 4 (m.U : Int) ++ putBE 1 m.F) (putBE 1 m.C) [] (by rw [ho]; simp) (by simp [putBE_length]) (putBE_length _ _)
  refine ⟨decide_eq_true (by rw [ho]; simp [putBE_length]), ?_⟩
  rw [b1, b2, be_int 1 m.F (by omega) (by omega), be_int 1 m.C (by omega) (by omega)]
/-- Write refuses just what may not be. -/
theorem swrE_eq (m : MsgS) (hU : m.U < 4294967296) (hS : m.S < 4294967296) : swrE m = if mayB m then 0 else 1 := by
  by_cases h : mayB m = true
  · obtain ⟨h1, h2⟩ := may_back m hU hS h
    have hm := h
    unfold mayB at hm
    simp only [Bool.and_eq_true] at hm
    unfold swrE
    rw [if_pos h, hm.1.1, hm.2, h1, decide_eq_true h2]
    rfl
  · rw [if_neg h]
    unfold swrE
    rw [if_neg]
    intro hc
    simp only [Bool.and_eq_true, decide_eq_true_eq] at hc
    obtain ⟨⟨⟨c1, c2⟩, c3⟩, c4⟩ := hc
    have q := (pr_eq (segO_len m)).2 c3
    rw [c4] at q
    have hp := rrM_plain (segO m)
    rw [← q] at hp
    apply h
    unfold mayB
    rw [c1, c2, decide_eq_true hp]
    rfl
/-- What is read. -/
theorem putBE_at {o : List UInt8} {p k : Nat} (h : p + k ≤ o.length) : putBE k ((at_ o p k : Nat) : Int) = (o.drop p).take k := by
  have := putBE_be ((o.drop p).take k)
  rw [List.length_take, List.length_drop, Nat.min_eq_left (by omega)] at this
  exact this
theorem cat_at {o c : List UInt8} {p k q : Nat} (h : p + k ≤ o.length) (hq : q = p + k) (hc : c = o.drop q) : putBE k ((at_ o p k : Nat) : Int) ++ c = o.drop p := by
  rw [putBE_at h, hc, hq, ← List.drop_drop, List.take_append_drop]
theorem rg_cat (o : List UInt8) : ∀ (n p : Nat), p + 8 * n ≤ o.length → (rgParts (pairsAt o p n)).flatten ++ o.drop (p + 8 * n) = o.drop p
  | 0, p, _ => by simp [pairsAt, rgParts]
  | n + 1, p, h => by
    rw [pairsAt_head, rgParts_cons]
    simp only [List.append_assoc]
    refine cat_at (q := p + 4) (by omega) rfl ?_
    refine cat_at (q := p + 8) (by omega) rfl ?_
    have := rg_cat o n (p + 8) (by omega)
    rw [show p + 8 * (n + 1) = p + 8 + 8 * n by omega]
    exact this
theorem read_back {o : List UInt8} (h5 : 5 ≤ o.length) (h : prB o = true) : segO (mO o) = o ∧ mayB (mO o) = true ∧ (mO o).U < 4294967296 ∧ (mO o).S < 4294967296 := by
  obtain ⟨q1, q2⟩ := pr_eq h5
  rw [q2 h]
  rw [q1] at h
  unfold rrB at h
  rw [Bool.and_eq_true] at h
  obtain ⟨hl, hm⟩ := h
  have hK := rrM_K o
  have hk : kindB (rrM o).K = true := by unfold mayB at hm; simp only [Bool.and_eq_true] at hm; exact hm.1.1
  refine ⟨?_, hm, ?_, ?_⟩
  · have hk' := hk
    unfold kindB at hk'
    have hk' := of_decide_eq_true hk'
    rw [hK] at hk'
    rw [segO_eq]
    unfold okL at hl
    have hend : ∀ q, o.length = q → ([] : List UInt8) = o.drop q := fun q e => (List.drop_eq_nil_of_le (by omega)).symm
    suffices hs : (segParts (rrM o)).flatten = o.drop 5 ∧ (rrM o).U = at_ o 1 4 by
      rw [hK, hs.2]
      exact cat_at (p := 0) (q := 1) (by omega) rfl (cat_at (q := 5) (by omega) rfl hs.1)
    unfold segParts
    rw [hK]
    unfold rrM
    simp only
    by_cases k1 : ((at_ o 0 1 : Nat) : Int) = 1
    · simp only [if_pos k1] at hl ⊢
      have hl := of_decide_eq_true hl
      refine ⟨?_, trivial⟩
      simp only [List.flatten_cons, List.flatten_nil]
      exact cat_at (q := 6) (by omega) rfl (cat_at (q := 10) (by omega) rfl (cat_at (q := 14) (by omega) rfl (hend 14 hl)))
    simp only [if_neg k1] at hl ⊢
    by_cases k2 : ((at_ o 0 1 : Nat) : Int) = 2
    · simp only [if_pos k2] at hl ⊢
      have hl := of_decide_eq_true hl
      refine ⟨?_, trivial⟩
      simp only [List.flatten_cons, List.flatten_nil]
      exact cat_at (q := 6) (by omega) rfl (cat_at (q := 10) (by omega) rfl (cat_at (q := 14) (by omega) rfl (cat_at (q := 18) (by omega) rfl (cat_at (q := 20) (by omega) rfl (hend 20 hl)))))
    simp only [if_neg k2] at hl ⊢
    by_cases k3 : ((at_ o 0 1 : Nat) : Int) = 3
    · simp only [if_pos k3] at hl ⊢
      have hl := of_decide_eq_true hl
      refine ⟨?_, trivial⟩
      simp only [List.flatten_cons, List.flatten_nil, List.append_nil]
      exact cat_at (q := 9) (by omega) rfl (cat_at (q := 10) (by omega) rfl rfl)
    simp only [if_neg k3] at hl ⊢
    by_cases k4 : ((at_ o 0 1 : Nat) : Int) = 4
    · simp only [if_pos k4] at hl ⊢
      have hl := of_decide_eq_true hl
      refine ⟨?_, trivial⟩
      simp only [List.flatten_cons, List.cons_append, List.nil_append, pairsAt_length]
      refine cat_at (q := 9) (by omega) rfl (cat_at (q := 10) (by omega) rfl ?_)
      have := rg_cat o (at_ o 9 1) 10 (by omega)
      rw [← hend _ hl, List.append_nil] at this
      exact this
    simp only [if_neg k4] at hl ⊢
    have k5 : ((at_ o 0 1 : Nat) : Int) = 5 := by omega
    simp only [if_pos k5] at hl ⊢
    have hl := of_decide_eq_true hl
    refine ⟨?_, trivial⟩
    simp only [List.flatten_cons, List.flatten_nil]
    exact cat_at (q := 6) (by omega) rfl (cat_at (q := 7) (by omega) rfl (hend 7 hl))
  · have := at_lt o 1 4
    unfold rrM; simp only; repeat' split
    all_goals (simp only; omega)
  · have := at_lt o 6 4
    unfold rrM; simp only; repeat' split
    all_goals (simp only; omega)
theorem seal_cut (o : List UInt8) : (sealB o).take ((sealB o).length - 4) = o ∧ (sealB o).drop ((sealB o).length - 4) = putLE 4 (crcOf o : Int) ∧ (sealB o).length = o.length + 4 := by
  rw [sealB_length]
  unfold sealB
  simp
theorem crc_seal (o : List UInt8) : crcOf o = le (putLE 4 (crcOf o : Int)) := by
  rw [le_putLE, Nat.mod_eq_of_lt]
  have := crcM_lt 0 o
  unfold crcOf
  omega
theorem srd_seal {o : List UInt8} (h5 : 5 ≤ o.length) : srdE (sealB o) = (if prB o then 0 else 3) ∧ srdM (sealB o) = (if prB o then mO o else zeroM) := by
  obtain ⟨h1, h2, h3⟩ := seal_cut o
  have hE : srdE (sealB o) = (if prB o then 0 else 3) := by
    unfold srdE
    rw [if_neg (by omega), h1, h2, if_neg (by rw [← crc_seal o]; simp)]
  refine ⟨hE, ?_⟩
  unfold srdM
  rw [hE, h1]
  by_cases hp : prB o = true
  · rw [if_pos hp, if_pos rfl, if_pos hp]
  · rw [if_neg hp, if_neg (by decide), if_neg hp]
theorem srd_turned (bs : List UInt8) (h : srdE bs = 0) (a y : Nat) (hy : y < 4294967296) (ha : a < 8 * bs.length) : turnedP bs a y ≠ bs → srdE (turnedP bs a y) = 4 := by
  have h1 : 9 ≤ bs.length := by
    by_cases hc : bs.length < 9
    · unfold srdE at h; rw [if_pos hc] at h; cases h
    · omega
  have h2 : crcOf (bs.take (bs.length - 4)) = le (bs.drop (bs.length - 4)) := by
    by_cases hc : crcOf (bs.take (bs.length - 4)) = le (bs.drop (bs.length - 4))
    · exact hc
    · unfold srdE at h; rw [if_neg (by omega), if_pos hc] at h; cases h
  have hl := turnedP_length bs a y
  obtain ⟨c, hc⟩ : ∃ c, c = turnedP bs a y := ⟨_, rfl⟩
  rw [← hc] at hl ⊢
  have hs : (bs.drop (bs.length - 4)).length = 4 := by rw [List.length_drop]; omega
  have key := turned_sealed (bs.take (bs.length - 4)) (bs.drop (bs.length - 4)) hs h2 a y hy (by rw [List.take_append_drop]; exact ha) (c.take (c.length - 4)) (c.drop (c.length - 4)) (by rw [List.length_take, List.length_take, hl]) (by rw [List.length_drop]; omega) (by rw [List.take_append_drop, List.take_append_drop]; exact hc.symm)
  rw [List.take_append_drop, List.take_append_drop] at key
  intro hne
  unfold srdE
  rw [if_neg (by omega), if_pos (fun he => hne (key.1 he))]
end Go.Proofs.Ytamkfjbdcjkchaa

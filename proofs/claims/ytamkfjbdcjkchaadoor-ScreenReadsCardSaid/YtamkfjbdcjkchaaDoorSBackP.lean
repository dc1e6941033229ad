/- What is written is read as it was, and no beginning of it is one. -/
import Derived.Test.YtamkfjbdcjkchaaDoorSWr
namespace Go.Proofs.YtamkfjbdcjkchaaDoor
open Go.RowKit Go.Proofs.HK
set_option linter.unusedVariables false
set_option linter.unusedSimpArgs false
/-- A reading of the first k bytes, behind p of them. -/
def Sim (k p : Nat) (V : Prop) (c : LS) : Prop := if p ≤ k then c = ⟨p, 0⟩ ∧ V else c.e = 2
theorem Sim.good {k p : Nat} {V : Prop} {c : LS} (h : Sim k p V c) (hp : p ≤ k) : c = ⟨p, 0⟩ ∧ V := by unfold Sim at h; rw [if_pos hp] at h; exact h
theorem Sim.bad {k p : Nat} {V : Prop} {c : LS} (h : Sim k p V c) (hp : ¬ p ≤ k) : c.e = 2 := by unfold Sim at h; rw [if_neg hp] at h; exact h
theorem Sim.mk {k p : Nat} {V : Prop} {c : LS} (h1 : p ≤ k → c = ⟨p, 0⟩ ∧ V) (h2 : ¬ p ≤ k → c.e = 2) : Sim k p V c := by
  unfold Sim
  split
  · rename_i h; exact h1 h
  · rename_i h; exact h2 h
theorem lx_err {o : List UInt8} {s : LS} {n : Int} (h : s.e = 2) : (lxN o s n).e = 2 := by
  show numE o s.p s.e n = 2
  unfold numE; rw [h, if_neg (by omega)]
theorem ln_err {o : List UInt8} {s : LS} {n : Int} (h : s.e = 2) : lnN o s n = 0 := by
  unfold lnN numL; rw [h, if_neg (by omega)]
theorem fl_err {s : LS} {x : Int} (h : s.e = 2) : (flN s x).e = 2 := by
  show failS s.e x = 2
  unfold failS; rw [h, if_neg (by omega)]
theorem tbX_err {o : List UInt8} {s : LS} {m : Nat} (h : s.e = 2) : (tbX o s m).e = 2 := by
  unfold tbX
  split
  · exact h
  · show byE o s.p s.e _ = 2
    unfold byE; rw [h, if_neg (by omega)]
theorem parts_err {f : Nat} {o : List UInt8} {s : LS} {c : Int} (h : s.e = 2) : (partsS f o s c).1.e = 2 := by
  cases f with
  | zero => exact h
  | succ f => unfold partsS; rw [if_pos (by rw [h]; omega)]; exact h
theorem drop_app {X xs r : List UInt8} {p : Nat} (h : X.drop p = xs ++ r) (n : Nat) (hn : xs.length = n) : X.drop (p + n) = r := by
  rw [← List.drop_drop, h, ← hn, List.drop_left]
theorem take_drop_app {X xs r o : List UInt8} {p k n : Nat} (ho : o = X.take k) (h : X.drop p = xs ++ r) (hn : xs.length = n) (h1 : 1 ≤ n) (hk : p + n ≤ k) : (o.drop p).take n = xs ∧ p + n ≤ o.length := by
  have hl : p + n ≤ X.length := by
    have := congrArg List.length h
    rw [List.length_drop, List.length_append, hn] at this
    omega
  constructor
  · rw [ho, List.drop_take, h, List.take_take, Nat.min_eq_left (by omega), ← hn, List.take_left]
  · rw [ho, List.length_take]; omega
theorem sim_ln {X o : List UInt8} {k p : Nat} {V : Prop} {c : LS} (xs r : List UInt8) (ho : o = X.take k) (hX : X.drop p = xs ++ r) (n : Nat) (hn : xs.length = n) (h1 : 1 ≤ n) (h8 : n ≤ 4) (h : Sim k p V c) :
    Sim k (p + n) (V ∧ lnN o c n = (le xs : Int)) (lxN o c n) := by
  refine Sim.mk (fun hk => ?_) (fun hk => ?_)
  · obtain ⟨rfl, hv⟩ := h.good (by omega)
    obtain ⟨e1, e2⟩ := take_drop_app ho hX hn h1 hk
    have hf : fitsS o.length (p : Nat) (n : Nat) = 0 := by unfold fitsS; rw [if_neg (by omega), if_neg (by omega)]
    refine ⟨?_, hv, ?_⟩
    · unfold lxN numP numE
      simp [hf]
    · unfold lnN numL littleS
      simp [hf, e1]
  · by_cases hp : p ≤ k
    · obtain ⟨rfl, hv⟩ := h.good hp
      show numE o p 0 n = 2
      unfold numE
      rw [if_pos rfl]
      have : o.length ≤ k := by rw [ho, List.length_take]; omega
      unfold fitsS; rw [if_neg (by omega), if_pos (by omega)]
    · exact lx_err (h.bad hp)
/-- A byte that isn't there is no byte. -/
theorem ln_end {X o : List UInt8} {k p : Nat} {V : Prop} {c : LS} (ho : o = X.take k) (h : Sim k p V c) (hk : ¬ p + 1 ≤ k) : lnN o c 1 = 0 ∧ (lxN o c 1).e = 2 := by
  by_cases hp : p ≤ k
  · obtain ⟨rfl, hv⟩ := h.good hp
    have : o.length ≤ k := by rw [ho, List.length_take]; omega
    have hf : fitsS o.length (p : Nat) 1 = 2 := by unfold fitsS; rw [if_neg (by omega), if_pos (by omega)]
    constructor
    · unfold lnN numL; simp [hf]
    · show numE o p 0 1 = 2
      unfold numE; rw [if_pos rfl, hf]
  · exact ⟨ln_err (h.bad hp), lx_err (h.bad hp)⟩
/-- A table of n bytes, with its marks. -/
theorem sim_tb {X o : List UInt8} {k p : Nat} {V : Prop} {c : LS} (xs r : List UInt8) (ho : o = X.take k) (hX : X.drop p = xs ++ r) (m : Nat) (hm : 128 ≤ m) (hn : xs.length = 6 * 2 ^ (m % 8)) (h : Sim k p V c) :
    Sim k (p + xs.length) (V ∧ tbB o c m = xs) (tbX o c m) := by
  have hpos : 0 < 2 ^ (m % 8) := Nat.pow_pos (by decide)
  obtain ⟨n, hnn⟩ : ∃ n, n = 6 * 2 ^ (m % 8) := ⟨_, rfl⟩
  have hc : (6 * 2 ^ (m % 8) : Int) = (n : Int) := by rw [hnn]; push_cast; rfl
  rw [← hnn] at hn
  have h1 : 1 ≤ n := by omega
  unfold tbB tbX
  rw [if_neg (by omega), if_neg (by omega), hc, hn]
  refine Sim.mk (fun hk => ?_) (fun hk => ?_)
  · obtain ⟨rfl, hv⟩ := h.good (by omega)
    obtain ⟨e1, e2⟩ := take_drop_app ho hX hn h1 hk
    have hf : byE o p 0 (n : Nat) = 0 := by unfold byE; rw [if_pos rfl, if_neg (by omega), if_neg (by omega)]
    refine ⟨?_, hv, ?_⟩
    · unfold byP; simp [hf]
    · unfold byB; simp [hf, e1]
  · show byE o c.p c.e n = 2
    by_cases hp : p ≤ k
    · obtain ⟨rfl, hv⟩ := h.good hp
      have : o.length ≤ k := by rw [ho, List.length_take]; omega
      unfold byE; rw [if_pos rfl, if_neg (by omega), if_pos (by show ((o.length - p : Nat) : Int) < n; omega)]
    · unfold byE; rw [h.bad hp, if_neg (by omega)]
theorem le2 (v : Int) (h0 : 0 ≤ v) (h1 : v < 65536) : ((le (putLE 2 v) : Nat) : Int) = v := by
  show (((HK.byteOf v).toNat + 256 * ((HK.byteOf (v / 256)).toNat + 256 * 0) : Nat) : Int) = v
  have e1 := HK.byteOf_toNat v
  have e2 := HK.byteOf_toNat (v / 256)
  omega
theorem byte_nat (x : Nat) (h : x < 256) : (HK.byteOf (x : Int)).toNat = x := by
  have := HK.byteOf_toNat (x : Int)
  omega
theorem p2_pow {n : Nat} (h : n ∈ p2L) : 6 * 2 ^ (tzN n - 1) = 3 * n := by
  unfold p2L at h
  simp only [List.mem_cons, List.not_mem_nil, or_false] at h
  rcases h with rfl | rfl | rfl | rfl | rfl | rfl | rfl | rfl <;> decide +kernel
theorem wrE_facts {s : ScrS} (h : wrE s = 0) : sizB s.W s.H = true ∧ s.T.length / 3 ∈ p2L ∧ -1 ≤ s.C ∧ s.C ≤ 255 ∧ 2 ≤ s.K ∧ s.K ≤ 8 := by
  unfold wrE at h
  split at h
  · omega
  · split at h
    · omega
    · split at h
      · omega
      · rename_i h1 h2 h3
        refine ⟨by simpa using h1, Classical.not_not.1 h2, by omega, by omega, by omega, by omega⟩
theorem tail_sim {X o : List UInt8} {k p : Nat} (W H : Int) (T : List UInt8) (L : Bool) (C : Int) (I : Bool) (K : Int) (more t1 : List UInt8) (cl W' H' : Int) (s7 : LS) (ho : o = X.take k) (t : Nat)
    (h1 : 1 ≤ t ∧ t ≤ 8) (hT : T.length = 6 * 2 ^ (t - 1)) (hW : 0 ≤ W ∧ W < 65536) (hH : 0 ≤ H ∧ H < 65536) (hK : 2 ≤ K ∧ K ≤ 8)
    (hX : X.drop p = [0, 0] ++ ([0, 0] ++ (putLE 2 W ++ (putLE 2 H ++ ([HK.byteOf (((if L then 128 else 0) + (if I then 64 else 0) + (t - 1) : Nat) : Int)] ++ ((if L then T else []) ++ ([HK.byteOf K] ++ more)))))))
    (h : Sim k p (W' = W ∧ H' = H ∧ t1 = (if L then [] else T) ∧ cl = C) s7) :
    (p + 10 + (if L then T else []).length ≤ k → tailS o W' H' t1 s7 cl = (0, ⟨W, H, T, L, C, I, K⟩, p + 10 + (if L then T else []).length)) ∧
    (¬ p + 10 + (if L then T else []).length ≤ k → tailS o W' H' t1 s7 cl = (2, zeroScr, 0)) := by
  obtain ⟨b, hb⟩ : ∃ b, b = (if L then 128 else 0) + (if I then 64 else 0) + (t - 1) := ⟨_, rfl⟩
  have hb1 : b < 256 ∧ (128 ≤ b ↔ L = true) ∧ b % 8 = t - 1 ∧ decide (b / 64 % 2 = 1) = I := by
    rw [hb]
    obtain ⟨u, hu⟩ : ∃ u, u = t - 1 := ⟨_, rfl⟩
    rw [← hu]
    have : u < 8 := by omega
    cases L <;> cases I <;> simp <;> omega
  rw [← hb] at hX
  clear hb
  have hTp : 0 < 2 ^ (t - 1) := Nat.pow_pos (by decide)
  have r8 := sim_ln _ _ ho hX 2 rfl (by omega) (by omega) h
  have x8 := drop_app hX 2 rfl
  have r9 := sim_ln _ _ ho x8 2 rfl (by omega) (by omega) r8
  have x9 := drop_app x8 2 rfl
  have r10 := sim_ln _ _ ho x9 2 rfl (by omega) (by omega) r9
  have x10 := drop_app x9 2 rfl
  have r11 := sim_ln _ _ ho x10 2 rfl (by omega) (by omega) r10
  have x11 := drop_app x10 2 rfl
  have r12 := sim_ln _ _ ho x11 1 rfl (by omega) (by omega) r11
  have x12 := drop_app x11 1 rfl
  rw [le2 W hW.1 hW.2, le2 H hH.1 hH.2, show ((le [HK.byteOf (b : Int)] : Nat) : Int) = (b : Int) by show (((HK.byteOf (b : Int)).toNat + 256 * 0 : Nat) : Int) = _; rw [byte_nat b hb1.1]; omega, show ((le [(0 : UInt8), 0] : Nat) : Int) = 0 from rfl] at r12
  unfold tailS
  dsimp only
  simp only [show ((2 : Nat) : Int) = 2 from rfl, show ((1 : Nat) : Int) = 1 from rfl] at r12
  obtain ⟨s8, h8⟩ : ∃ s, s = lxN o s7 2 := ⟨_, rfl⟩
  rw [← h8] at r12 ⊢
  obtain ⟨s9, h9⟩ : ∃ s, s = lxN o s8 2 := ⟨_, rfl⟩
  rw [← h9] at r12 ⊢
  obtain ⟨s10, h10⟩ : ∃ s, s = lxN o s9 2 := ⟨_, rfl⟩
  rw [← h10] at r12 ⊢
  obtain ⟨s11, h11⟩ : ∃ s, s = lxN o s10 2 := ⟨_, rfl⟩
  rw [← h11] at r12 ⊢
  obtain ⟨s12, h12⟩ : ∃ s, s = lxN o s11 1 := ⟨_, rfl⟩
  rw [← h12] at r12 ⊢
  obtain ⟨m2, hm2⟩ : ∃ m, m = lnN o s11 1 := ⟨_, rfl⟩
  rw [← hm2] at r12 ⊢
  have e13 : (if s12.e ≠ 0 then s12 else if ¬ (lnN o s7 2 = 0 ∧ lnN o s8 2 = 0 ∧ lnN o s9 2 = W' ∧ lnN o s10 2 = H') then flN s12 11 else if m2 < 128 ∧ t1 = [] then flN s12 12 else s12) = s12 := by
    by_cases hk : p + 2 + 2 + 2 + 2 + 1 ≤ k
    · obtain ⟨q1, ⟨⟨⟨⟨⟨q2, q3, q4, q5⟩, q6⟩, q7⟩, q8⟩, q9⟩, q10⟩ := r12.good hk
      rw [if_neg (by rw [q1]; simp), if_neg (by rw [q2, q3]; simp [q6, q7, q8, q9]), if_neg]
      rw [q10, q4]
      rintro ⟨f1, f2⟩
      cases L with
      | true => have := hb1.2.1.2 rfl; omega
      | false =>
        rw [if_neg (by simp)] at f2
        rw [f2, List.length_nil] at hT
        omega
    · rw [if_pos (by rw [r12.bad hk]; omega)]
  rw [e13]
  clear e13
  have r12' : Sim k (p + 9) ((W' = W ∧ H' = H ∧ t1 = (if L then [] else T) ∧ cl = C) ∧ m2 = (b : Int)) s12 := Sim.mk (fun hk => by
    obtain ⟨q1, ⟨⟨⟨⟨q2, _⟩, _⟩, _⟩, _⟩, q10⟩ := r12.good (by omega)
    exact ⟨q1, q2, q10⟩) (fun hk => r12.bad (by omega))
  clear r8 r9 r10 r11 r12 x8 x9 x10 x11 h8 h9 h10 h11 h12 hm2 h
  have x12' : X.drop (p + 9) = (if L then T else []) ++ ([HK.byteOf K] ++ more) := x12
  clear x12 hX
  have r14 : Sim k (p + 9 + (if L then T else []).length) (((W' = W ∧ H' = H ∧ t1 = (if L then [] else T) ∧ cl = C) ∧ m2 = (b : Int)) ∧ tbB o s12 m2.toNat = (if L then T else [])) (tbX o s12 m2.toNat) := by
    cases L with
    | true =>
      rw [if_pos rfl] at x12' ⊢
      have hb128 := hb1.2.1.2 rfl
      have h0 := sim_tb T _ ho x12' b hb128 (by rw [hb1.2.2.1]; exact hT) r12'
      refine Sim.mk (fun hk => ?_) (fun hk => ?_)
      · obtain ⟨q1, q2, q3⟩ := r12'.good (by omega)
        obtain ⟨z1, z2, z3⟩ := h0.good hk
        have : m2.toNat = b := by omega
        rw [this]
        exact ⟨z1, ⟨q2, q3⟩, z3⟩
      · by_cases hk2 : p + 9 ≤ k
        · obtain ⟨q1, q2, q3⟩ := r12'.good (by omega)
          have : m2.toNat = b := by omega
          rw [this]
          exact h0.bad hk
        · exact tbX_err (r12'.bad hk2)
    | false =>
      have hnb : b < 128 := by
        rcases Nat.lt_or_ge b 128 with h | h
        · exact h
        · have := hb1.2.1.1 h; simp at this
      rw [if_neg (by simp)]
      refine Sim.mk (fun hk => ?_) (fun hk => ?_)
      · obtain ⟨q1, q2, q3⟩ := r12'.good (by simpa using hk)
        have : m2.toNat = b := by omega
        rw [this]
        refine ⟨?_, ⟨q2, q3⟩, ?_⟩
        · unfold tbX; rw [if_pos hnb, q1]; simp
        · unfold tbB; rw [if_pos hnb]
      · exact tbX_err (r12'.bad (by simpa using hk))
  have x14 := drop_app x12' _ rfl
  obtain ⟨t2, ht2⟩ : ∃ t, t = tbB o s12 m2.toNat := ⟨_, rfl⟩
  obtain ⟨s14, h14⟩ : ∃ s, s = tbX o s12 m2.toNat := ⟨_, rfl⟩
  rw [← ht2, ← h14] at r14
  rw [← ht2, ← h14]
  clear ht2 h14
  have r15 := sim_ln _ _ ho x14 1 rfl (by omega) (by omega) r14
  have hKn : ((le [HK.byteOf K] : Nat) : Int) = K := by
    show (((HK.byteOf K).toNat + 256 * 0 : Nat) : Int) = _
    have := HK.byteOf_toNat K
    omega
  rw [hKn] at r15
  simp only [show ((1 : Nat) : Int) = 1 from rfl] at r15
  obtain ⟨k', hk'⟩ : ∃ m, m = lnN o s14 1 := ⟨_, rfl⟩
  obtain ⟨s15, h15⟩ : ∃ s, s = lxN o s14 1 := ⟨_, rfl⟩
  rw [← hk', ← h15] at r15
  rw [← hk', ← h15]
  clear hk' h15 r14 x14 x12' r12'
  obtain ⟨z, hz⟩ : ∃ z, z = (if L then T else []).length := ⟨_, rfl⟩
  rw [← hz] at r15 ⊢
  constructor
  · intro hk
    obtain ⟨q1, ⟨⟨⟨q2, q3, q4, q5⟩, q6⟩, q7⟩, q8⟩ := r15.good (by omega)
    have hbad : ¬ (k' < 2 ∨ 8 < k') := by omega
    rw [if_neg hbad, q1, if_neg (by simp), q2, q3, q5, q8]
    have e1 : (if t2 = [] then t1 else t2) = T := by
      rw [q7, q4]
      cases L with
      | true =>
        rw [if_pos rfl, if_pos rfl, if_neg]
        intro h0
        rw [h0, List.length_nil] at hT
        omega
      | false => simp
    have e2 : (!decide (t2 = [])) = L := by
      rw [q7]
      cases L with
      | true =>
        rw [if_pos rfl, decide_eq_false]
        · rfl
        · intro h0
          rw [h0, List.length_nil] at hT
          omega
      | false => rfl
    have e3 : m2.toNat = b := by omega
    rw [e1, e2, e3, hb1.2.2.2]
    show (_, _, p + 9 + z + 1) = _
    rw [show p + 9 + z + 1 = p + 10 + z by omega]
  · intro hk
    have hs := r15.bad (by omega)
    have e : (if k' < 2 ∨ 8 < k' then flN s15 3 else s15).e = 2 := by
      split
      · exact fl_err hs
      · exact hs
    rw [e, if_pos (by omega)]
/-- The picture's mark. -/
theorem parts44 {X o r : List UInt8} {k p : Nat} {V : Prop} {c : LS} (ho : o = X.take k) (hX : X.drop p = [44] ++ r) (f : Nat) (cl : Int) (h : Sim k p V c) :
    Sim k (p + 1) (V ∧ (partsS (f + 1) o c cl).2 = cl) (partsS (f + 1) o c cl).1 := by
  have h1 := sim_ln _ _ ho hX 1 rfl (by omega) (by omega) h
  simp only [show ((1 : Nat) : Int) = 1 from rfl] at h1
  refine Sim.mk (fun hk => ?_) (fun hk => ?_)
  · obtain ⟨rfl, hv⟩ := h.good (by omega)
    obtain ⟨q1, q2, q3⟩ := h1.good hk
    have q3' : lnN o ⟨p, 0⟩ 1 = 44 := q3
    unfold partsS
    rw [if_neg (by simp), if_neg (by rw [q3']; omega), if_pos q3']
    exact ⟨q1, hv, rfl⟩
  · obtain ⟨q1, q2⟩ := ln_end ho h hk
    by_cases he : c.e = 0
    · unfold partsS
      rw [if_neg (by simp [he]), if_neg (by rw [q1]; omega), if_neg (by rw [q1]; omega), if_neg (by rw [q1]; omega)]
      exact fl_err q2
    · unfold partsS
      rw [if_pos he]
      have hp : ¬ p ≤ k := fun hp => by
        obtain ⟨rfl, _⟩ := h.good hp
        exact he rfl
      exact h.bad hp
theorem brun_all (c : UInt8) : bRun b00 [4, 1, 0, 0, c, 0] = ⟨0, 6, true, [1, 0, 0, c]⟩ := by
  simp [bRun, bStep, b00]
theorem brun_cut (c : UInt8) (j : Nat) (h : j < 6) : (bRun b00 ([4, 1, 0, 0, c, 0].take j)).done = false := by
  have : j = 0 ∨ j = 1 ∨ j = 2 ∨ j = 3 ∨ j = 4 ∨ j = 5 := by omega
  rcases this with rfl | rfl | rfl | rfl | rfl | rfl <;> simp [bRun, bStep, b00]
theorem ext_sim {X o r : List UInt8} {k p : Nat} (C cl : Int) (hC : 0 ≤ C ∧ C ≤ 255) (ho : o = X.take k) (hX : X.drop p = [249, 4, 1, 0, 0, HK.byteOf C, 0] ++ r) (hp : p ≤ k) :
    Sim k (p + 7) ((exS o p cl).2 = C) (exS o p cl).1 := by
  have hlx : p + 7 ≤ X.length := by
    have := congrArg List.length hX
    rw [List.length_drop, List.length_append] at this
    simp at this
    omega
  have hol : o.length = min k X.length := by rw [ho, List.length_take]
  have hX1 : X.drop (p + 1) = [4, 1, 0, 0, HK.byteOf C, 0] ++ r := drop_app (xs := [249]) hX 1 rfl
  have hd : o.drop (p + 1) = ([4, 1, 0, 0, HK.byteOf C, 0] ++ r).take (k - (p + 1)) := by rw [ho, List.drop_take, hX1]
  refine Sim.mk (fun hk => ?_) (fun hk => ?_)
  · have h2 : o.drop (p + 1) = [4, 1, 0, 0, HK.byteOf C, 0] ++ r.take (k - (p + 1) - 6) := by
      rw [hd, List.take_append, List.take_of_length_le (by simp; omega)]
      rfl
    have h3 : bRun b00 (o.drop (p + 1)) = ⟨0, 6, true, [1, 0, 0, HK.byteOf C]⟩ := by rw [h2, bRun_append, brun_all, bRun_done _ _ rfl]
    have h4 : (rdB o p).toNat = 249 := by
      have e := (take_drop_app (xs := [249]) ho hX (n := 1) rfl (by omega) (by omega)).1
      have e2 : rdB o p = 249 := by
        unfold rdB
        have hlt : p < o.length := by omega
        rw [List.getD_eq_getElem?_getD, List.getElem?_eq_getElem hlt]
        have e3 := congrArg List.head? e
        rw [List.head?_take, List.head?_drop, List.getElem?_eq_getElem hlt] at e3
        simpa using e3
      rw [e2]; rfl
    unfold exS
    rw [if_neg (by omega), h3, if_neg (by simp), if_neg (by rw [h4]; simp), if_neg (by simp)]
    refine ⟨rfl, ?_⟩
    show (if (rdB [1, 0, 0, HK.byteOf C] 0).toNat % 2 = 1 then ((rdB [1, 0, 0, HK.byteOf C] 3).toNat : Int) else -1) = C
    rw [if_pos (by rfl)]
    show ((HK.byteOf C).toNat : Int) = C
    have := HK.byteOf_toNat C
    omega
  · unfold exS
    by_cases h0 : o.length ≤ p
    · rw [if_pos h0]
    · rw [if_neg h0, if_pos]
      rw [hd, List.take_append]
      have : k - (p + 1) - [4, 1, 0, 0, HK.byteOf C, (0 : UInt8)].length = 0 := by simp; omega
      rw [this, List.take_zero, List.append_nil]
      exact brun_cut _ _ (by omega)
theorem parts_sim {X o r : List UInt8} {k p : Nat} {V : Prop} {c : LS} (s : ScrS) (hC : -1 ≤ s.C ∧ s.C ≤ 255) (ho : o = X.take k) (hX : X.drop p = clearB s ++ ([44] ++ r)) (h : Sim k p V c) :
    Sim k (p + (clearB s).length + 1) (V ∧ (partsS (o.length + 1) o c (-1)).2 = s.C) (partsS (o.length + 1) o c (-1)).1 := by
  by_cases h0 : 0 ≤ s.C
  · have hcl : clearB s = [33, 249, 4, 1, 0, 0, HK.byteOf s.C, 0] := by unfold clearB; rw [if_pos h0]
    rw [hcl] at hX ⊢
    have hX0 : X.drop p = [33] ++ ([249, 4, 1, 0, 0, HK.byteOf s.C, 0] ++ ([44] ++ r)) := hX
    have hX1 := drop_app hX0 1 rfl
    have hX8 := drop_app hX1 7 rfl
    have h1 := sim_ln _ _ ho hX0 1 rfl (by omega) (by omega) h
    simp only [show ((1 : Nat) : Int) = 1 from rfl] at h1
    show Sim k (p + 8 + 1) _ _
    by_cases hk : p + 1 ≤ k
    · obtain ⟨rfl, hv⟩ := h.good (by omega)
      obtain ⟨q1, q2, q3⟩ := h1.good hk
      have q3' : lnN o ⟨p, 0⟩ 1 = 33 := q3
      have hol : 1 ≤ o.length := by
        have := (take_drop_app ho hX0 rfl (by simp) hk).2
        simp at this
        omega
      obtain ⟨f, hf⟩ : ∃ f, o.length = f + 1 := ⟨o.length - 1, by omega⟩
      have e : partsS (o.length + 1) o ⟨p, 0⟩ (-1) = partsS (f + 1) o (exS o (p + 1) (-1)).1 (exS o (p + 1) (-1)).2 := by
        rw [hf]
        show partsS (f + 1 + 1) o ⟨p, 0⟩ (-1) = _
        rw [show partsS (f + 1 + 1) o ⟨p, 0⟩ (-1) = (if (⟨p, 0⟩ : LS).e ≠ 0 then (⟨p, 0⟩, -1) else if lnN o ⟨p, 0⟩ 1 = 33 then partsS (f + 1) o (exS o (lxN o ⟨p, 0⟩ 1).p (-1)).1 (exS o (lxN o ⟨p, 0⟩ 1).p (-1)).2 else if lnN o ⟨p, 0⟩ 1 = 44 then (lxN o ⟨p, 0⟩ 1, -1) else if lnN o ⟨p, 0⟩ 1 = 59 then (flN (lxN o ⟨p, 0⟩ 1) 16, -1) else (flN (lxN o ⟨p, 0⟩ 1) 3, -1)) from rfl]
        rw [if_neg (by simp), if_pos q3', q1]
      rw [e]
      have h2 := ext_sim (X := X) s.C (-1) ⟨h0, hC.2⟩ ho hX1 hk
      have h3 := parts44 ho hX8 f (exS o (p + 1) (-1)).2 h2
      refine Sim.mk (fun hk => ?_) (fun hk => ?_)
      · obtain ⟨z1, z2, z3⟩ := h3.good (by omega)
        exact ⟨z1, hv, by rw [z3, z2]⟩
      · exact h3.bad (by omega)
    · refine Sim.mk (fun hk2 => by omega) (fun _ => ?_)
      obtain ⟨q1, q2⟩ := ln_end ho h hk
      by_cases he : c.e = 0
      · unfold partsS
        rw [if_neg (by simp [he]), if_neg (by rw [q1]; omega), if_neg (by rw [q1]; omega), if_neg (by rw [q1]; omega)]
        exact fl_err q2
      · unfold partsS
        rw [if_pos he]
        have hp : ¬ p ≤ k := fun hp => by
          obtain ⟨rfl, _⟩ := h.good hp
          exact he rfl
        exact h.bad hp
  · have hcl : clearB s = [] := by unfold clearB; rw [if_neg h0]
    rw [hcl] at hX ⊢
    have h3 := parts44 ho (by exact hX) o.length (-1) h
    refine Sim.mk (fun hk => ?_) (fun hk => ?_)
    · obtain ⟨z1, z2, z3⟩ := h3.good (by simpa using hk)
      exact ⟨z1, z2, by rw [z3]; omega⟩
    · exact h3.bad (by simpa using hk)
/-- Of what is written, and whatever stands behind it, the first k bytes. -/
theorem scr_take (s : ScrS) (hT : s.T.length = 3 * (s.T.length / 3)) (hw : wrE s = 0) (more o : List UInt8) (k : Nat) (ho : o = (wrB s ++ more).take k) :
    ((wrB s).length ≤ k → scrS o = (0, s, (wrB s).length)) ∧ (¬ (wrB s).length ≤ k → scrS o = (2, zeroScr, 0)) := by
  obtain ⟨W, H, T, L, C, I, K⟩ := s
  obtain ⟨hs, hp, hC1, hC2, hK1, hK2⟩ := wrE_facts hw
  simp only at hs hp hC1 hC2 hK1 hK2 hT
  have hsz : 0 < W ∧ 0 < H ∧ W ≤ 2048 ∧ H ≤ 2048 ∧ W * H ≤ 65536 := by unfold sizB at hs; exact of_decide_eq_true hs
  obtain ⟨t, ht⟩ : ∃ t, t = tzN (T.length / 3) := ⟨_, rfl⟩
  have htb := tz_bd hp
  have hTl : T.length = 6 * 2 ^ (t - 1) := by rw [ht, p2_pow hp]; exact hT
  rw [← ht] at htb
  obtain ⟨G, hG⟩ : ∃ G, G = (if L then [] else T) := ⟨_, rfl⟩
  obtain ⟨Z, hZ⟩ : ∃ Z, Z = (if L then T else []) := ⟨_, rfl⟩
  obtain ⟨a, hae⟩ : ∃ a : Nat, a = ((if L then 112 else 240) + (t - 1)) := ⟨_, rfl⟩
  have ha : a < 256 ∧ (128 ≤ a ↔ L = false) ∧ (L = false → a % 8 = t - 1) := by
    rw [hae]
    obtain ⟨u, hu⟩ : ∃ u, u = t - 1 := ⟨_, rfl⟩
    rw [← hu]
    have : u < 8 := by omega
    cases L <;> simp <;> omega
  obtain ⟨S, hS⟩ : ∃ S : ScrS, S = ⟨W, H, T, L, C, I, K⟩ := ⟨_, rfl⟩
  have hX : wrB S ++ more = magic ++ (putLE 2 W ++ (putLE 2 H ++ ([HK.byteOf ((a : Nat) : Int)] ++ ([0, 0] ++ (G ++ (clearB S ++ ([44] ++ ([0, 0] ++ ([0, 0] ++ (putLE 2 W ++ (putLE 2 H ++ ([HK.byteOf (((if L then 128 else 0) + (if I then 64 else 0) + (t - 1) : Nat) : Int)] ++ (Z ++ ([HK.byteOf K] ++ more)))))))))))))) := by
    unfold wrB
    rw [hS, if_pos hw]
    unfold wrP sidesB aheadB behindB
    rw [← hS, show S.T = T by rw [hS], show S.L = L by rw [hS], show S.I = I by rw [hS], show S.K = K by rw [hS], show S.W = W by rw [hS], show S.H = H by rw [hS], ← ht, ← hae, ← hG, ← hZ]
    simp [List.append_assoc]
  have hlen : (wrB S).length = 14 + G.length + (clearB S).length + 10 + Z.length := by
    have := congrArg List.length hX
    simp only [List.length_append, putLE_length, List.length_cons, List.length_nil, magic] at this
    omega
  rw [← hS] at hw ho ⊢
  rw [hlen]
  obtain ⟨X, hXe⟩ : ∃ X, X = wrB S ++ more := ⟨_, rfl⟩
  rw [← hXe] at hX ho
  clear hXe hlen
  have x0 := (show X.drop 0 = X from rfl).trans hX
  have x6 := drop_app x0 6 rfl
  have x8 := drop_app x6 2 rfl
  have x10 := drop_app x8 2 rfl
  have x11 := drop_app x10 1 rfl
  have x13 := drop_app x11 2 rfl
  have hlo : o.length ≤ k := by rw [ho, List.length_take]; omega
  have hXl : 6 ≤ X.length := by rw [hX]; simp [magic]
  have hmag : o.take 6 = magic.take o.length := by
    rw [ho, List.take_take, List.length_take, hX]
    rcases Nat.lt_or_ge k 6 with h | h
    · rw [Nat.min_eq_right (by omega), Nat.min_eq_left (by simp [magic]; omega), List.take_append]
      rw [show k - magic.length = 0 by simp [magic]; omega, List.take_zero, List.append_nil]
    · rw [Nat.min_eq_left h, List.take_append, List.take_of_length_le (show magic.length ≤ 6 by decide), List.take_of_length_le (show magic.length ≤ min k _ by simp [magic]; omega)]
      simp [magic]
  have h0 : Sim k 6 True ⟨byP o 0 0 6, byE o 0 0 6⟩ := Sim.mk (fun hk => by
    have hol : 6 ≤ o.length := by rw [ho, List.length_take]; omega
    have hf : byE o 0 0 6 = 0 := by unfold byE; rw [if_pos rfl, if_neg (by omega), if_neg (by omega)]
    refine ⟨?_, trivial⟩
    unfold byP
    rw [hf, if_pos ⟨rfl, rfl⟩]
    rfl) (fun hk => by
    show byE o 0 0 6 = 2
    unfold byE; rw [if_pos rfl, if_neg (by omega), if_pos (by omega)])
  have r1 := sim_ln _ _ ho x6 2 (putLE_length 2 W) (by omega) (by omega) h0
  have r2 := sim_ln _ _ ho x8 2 (putLE_length 2 H) (by omega) (by omega) r1
  have r3 := sim_ln _ _ ho x10 1 rfl (by omega) (by omega) r2
  have r4 := sim_ln _ _ ho x11 2 rfl (by omega) (by omega) r3
  rw [le2 W (by omega) (by omega), le2 H (by omega) (by omega), show ((le [HK.byteOf (a : Int)] : Nat) : Int) = (a : Int) by show (((HK.byteOf (a : Int)).toNat + 256 * 0 : Nat) : Int) = _; rw [byte_nat a ha.1]; omega] at r4
  simp only [show ((2 : Nat) : Int) = 2 from rfl, show ((1 : Nat) : Int) = 1 from rfl] at r4
  unfold scrS
  rw [if_pos hmag]
  unfold headS
  dsimp only
  obtain ⟨s0, h0e⟩ : ∃ s : LS, s = ⟨byP o 0 0 6, byE o 0 0 6⟩ := ⟨_, rfl⟩
  rw [← h0e] at r4 ⊢
  obtain ⟨s1, h1e⟩ : ∃ s : LS, s = lxN o s0 2 := ⟨_, rfl⟩
  rw [← h1e] at r4 ⊢
  obtain ⟨s2, h2e⟩ : ∃ s : LS, s = lxN o s1 2 := ⟨_, rfl⟩
  rw [← h2e] at r4 ⊢
  obtain ⟨s3, h3e⟩ : ∃ s : LS, s = lxN o s2 1 := ⟨_, rfl⟩
  rw [← h3e] at r4 ⊢
  obtain ⟨s4, h4e⟩ : ∃ s : LS, s = lxN o s3 2 := ⟨_, rfl⟩
  rw [← h4e] at r4 ⊢
  obtain ⟨W', hW'⟩ : ∃ x, x = lnN o s0 2 := ⟨_, rfl⟩
  rw [← hW'] at r4 ⊢
  obtain ⟨H', hH'⟩ : ∃ x, x = lnN o s1 2 := ⟨_, rfl⟩
  rw [← hH'] at r4 ⊢
  obtain ⟨m1, hm1⟩ : ∃ x, x = lnN o s2 1 := ⟨_, rfl⟩
  rw [← hm1] at r4 ⊢
  have r4' : Sim k 13 (W' = W ∧ H' = H ∧ m1 = (a : Int)) s4 := Sim.mk (fun hk => by
    obtain ⟨q1, ⟨⟨⟨_, q2⟩, q3⟩, q4⟩, q5⟩ := r4.good (by omega)
    exact ⟨q1, q2, q3, q4⟩) (fun hk => r4.bad (by omega))
  clear r1 r2 r3 r4 h0e h1e h2e h3e h4e hW' hH' hm1 x0 x6 x8 x10 x11 hX h0
  have e5 : (if s4.e = 0 ∧ sizB W' H' = false then flN s4 11 else s4) = s4 := by
    by_cases hk : 13 ≤ k
    · obtain ⟨q1, q2, q3, q4⟩ := r4'.good hk
      rw [if_neg]
      rw [q2, q3, hs]
      simp
    · rw [if_neg]
      rw [r4'.bad hk]
      omega
  rw [e5]
  clear e5
  have x13' := (show X.drop 13 = X.drop (0 + 6 + 2 + 2 + 1 + 2) from rfl).trans x13
  have r6 : Sim k (13 + G.length) ((W' = W ∧ H' = H ∧ m1 = (a : Int)) ∧ tbB o s4 m1.toNat = G) (tbX o s4 m1.toNat) := by
    cases L with
    | false =>
      have ha128 := ha.2.1.2 rfl
      rw [if_neg (by simp)] at hG
      rw [hG] at x13' ⊢
      have h0 := sim_tb T _ ho x13' a ha128 (by rw [ha.2.2 rfl]; exact hTl) r4'
      refine Sim.mk (fun hk => ?_) (fun hk => ?_)
      · obtain ⟨q1, q2, q3, q4⟩ := r4'.good (by omega)
        obtain ⟨z1, z2, z3⟩ := h0.good hk
        have : m1.toNat = a := by omega
        rw [this]
        exact ⟨z1, ⟨q2, q3, q4⟩, z3⟩
      · by_cases hk2 : 13 ≤ k
        · obtain ⟨q1, q2, q3, q4⟩ := r4'.good (by omega)
          have : m1.toNat = a := by omega
          rw [this]
          exact h0.bad hk
        · exact tbX_err (r4'.bad hk2)
    | true =>
      have hnb : a < 128 := by
        rcases Nat.lt_or_ge a 128 with h | h
        · exact h
        · have := ha.2.1.1 h; simp at this
      rw [if_pos rfl] at hG
      rw [hG]
      refine Sim.mk (fun hk => ?_) (fun hk => ?_)
      · obtain ⟨q1, q2, q3, q4⟩ := r4'.good (by simpa using hk)
        have : m1.toNat = a := by omega
        rw [this]
        refine ⟨?_, ⟨q2, q3, q4⟩, ?_⟩
        · unfold tbX; rw [if_pos hnb, q1]; simp
        · unfold tbB; rw [if_pos hnb]
      · exact tbX_err (r4'.bad (by simpa using hk))
  have x14 := drop_app x13' _ rfl
  obtain ⟨t1, ht1⟩ : ∃ t, t = tbB o s4 m1.toNat := ⟨_, rfl⟩
  obtain ⟨s6, h6⟩ : ∃ s, s = tbX o s4 m1.toNat := ⟨_, rfl⟩
  rw [← ht1, ← h6] at r6
  rw [← ht1, ← h6]
  clear ht1 h6 x13 x13'
  have r7 := parts_sim S (by rw [hS]; exact ⟨hC1, hC2⟩) ho x14 r6
  have x7 := drop_app (drop_app x14 _ rfl) 1 rfl
  obtain ⟨s7, h7⟩ : ∃ s, s = (partsS (o.length + 1) o s6 (-1)).1 := ⟨_, rfl⟩
  obtain ⟨cl, hcl⟩ : ∃ s, s = (partsS (o.length + 1) o s6 (-1)).2 := ⟨_, rfl⟩
  rw [← h7, ← hcl] at r7
  rw [← h7, ← hcl]
  have hSC : S.C = C := by rw [hS]
  rw [hSC] at r7
  rw [hZ] at x7 ⊢
  have r7' : Sim k (13 + G.length + (clearB S).length + 1) (W' = W ∧ H' = H ∧ t1 = (if L then [] else T) ∧ cl = C) s7 := Sim.mk (fun hk => by
    obtain ⟨q1, ⟨⟨q2, q3, q4⟩, q5⟩, q6⟩ := r7.good hk
    exact ⟨q1, q2, q3, by rw [q5, hG], q6⟩) (fun hk => r7.bad hk)
  have hfin := tail_sim W H T L C I K more t1 cl W' H' s7 ho t htb hTl (by omega) (by omega) ⟨hK1, hK2⟩ x7 r7'
  rw [hS]
  rw [hS] at hfin
  rw [show 14 + G.length + (clearB ⟨W, H, T, L, C, I, K⟩).length + 10 + (if L then T else []).length = 13 + G.length + (clearB ⟨W, H, T, L, C, I, K⟩).length + 1 + 10 + (if L then T else []).length by omega]
  exact hfin
theorem scr_back (s : ScrS) (hT : s.T.length = 3 * (s.T.length / 3)) (hw : wrE s = 0) (more : List UInt8) : scrS (wrB s ++ more) = (0, s, (wrB s).length) :=
  (scr_take s hT hw more _ _ (List.take_of_length_le (Nat.le_refl _)).symm).1 (by rw [List.length_append]; omega)
theorem scr_cut (s : ScrS) (hT : s.T.length = 3 * (s.T.length / 3)) (hw : wrE s = 0) (k : Nat) (hk : k < (wrB s).length) : scrS ((wrB s).take k) = (2, zeroScr, 0) :=
  (scr_take s hT hw [] _ k (by rw [List.append_nil])).2 (by omega)
end Go.Proofs.YtamkfjbdcjkchaaDoor

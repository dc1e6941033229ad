/- Messages, plainly: what the document's reader does, and that the program's does the same. -/
import Derived.Test.YtamkfjbdcjkchaaSegP
namespace Go.Proofs.Ytamkfjbdcjkchaa
open Go.RowKit Go.Proofs.HK
set_option linter.unusedVariables false

/-- The number of k bytes at p. -/
def at_ (o : List UInt8) (p k : Nat) : Nat := be ((o.drop p).take k)
theorem at_lt (o : List UInt8) (p k : Nat) : at_ o p k < 256 ^ k := by
  have h := be_lt ((o.drop p).take k)
  exact Nat.lt_of_lt_of_le h (Nat.pow_le_pow_right (by omega) (List.length_take_le _ _))
def pairsAt (o : List UInt8) (p : Nat) : Nat → List (Int × Int)
  | 0 => []
  | n + 1 => pairsAt o p n ++ [(((at_ o (p + 8 * n) 4 : Nat) : Int), ((at_ o (p + 8 * n + 4) 4 : Nat) : Int))]
theorem pairsAt_length (o : List UInt8) (p : Nat) : ∀ n, (pairsAt o p n).length = n
  | 0 => rfl
  | n + 1 => by simp [pairsAt, pairsAt_length o p n]
theorem pairsAt_head (o : List UInt8) : ∀ (n p : Nat), pairsAt o p (n + 1) = (((at_ o p 4 : Nat) : Int), ((at_ o (p + 4) 4 : Nat) : Int)) :: pairsAt o (p + 8) n
  | 0, p => by simp [pairsAt]
  | n + 1, p => by
    rw [pairsAt, pairsAt_head o n p, pairsAt]
    simp only [List.cons_append]
    rw [show p + 8 * (n + 1) = p + 8 + 8 * n by omega]
def okL (k : Int) (n c : Nat) : Bool :=
  if k = 1 then decide (n = 14) else if k = 2 then decide (n = 20) else if k = 3 then decide (10 ≤ n) else if k = 4 then decide (n = 10 + 8 * c) else if k = 5 then decide (n = 7) else true
def rrM (o : List UInt8) : MsgS :=
  let k : Int := (at_ o 0 1 : Nat)
  let u := at_ o 1 4
  if k = 1 then ⟨k, u, (at_ o 5 1 : Nat), at_ o 6 4, 0, (at_ o 10 4 : Nat), 0, 0, 0, 0, [], []⟩
  else if k = 2 then ⟨k, u, (at_ o 5 1 : Nat), at_ o 6 4, (at_ o 10 4 : Nat), (at_ o 14 4 : Nat), (at_ o 18 2 : Nat), 0, 0, 0, [], []⟩
  else if k = 3 then ⟨k, u, 0, 0, 0, 0, 0, (at_ o 5 4 : Nat), (at_ o 9 1 : Nat), 0, [], o.drop 10⟩
  else if k = 4 then ⟨k, u, 0, 0, 0, 0, 0, (at_ o 5 4 : Nat), 0, 0, pairsAt o 10 (at_ o 9 1), []⟩
  else if k = 5 then ⟨k, u, (at_ o 5 1 : Nat), 0, 0, 0, 0, 0, 0, (at_ o 6 1 : Nat), [], []⟩
  else ⟨k, u, 0, 0, 0, 0, 0, 0, 0, 0, [], []⟩
def rrB (o : List UInt8) : Bool := okL (at_ o 0 1 : Nat) o.length (at_ o 9 1) && mayB (rrM o)

theorem rg_at {o : List UInt8} {p : Nat} : ∀ {n : Nat}, p + 8 * n ≤ o.length → rgS o ⟨p, 0⟩ n = ⟨p + 8 * n, 0⟩ ∧ rgR o ⟨p, 0⟩ n = pairsAt o p n
  | 0, _ => ⟨rfl, rfl⟩
  | n + 1, h => by
    obtain ⟨h1, h2⟩ := rg_at (o := o) (p := p) (n := n) (by omega)
    have a1 := num_atS (o := o) (p := p + 8 * n) (k := 4) (by omega) (by omega) (by omega)
    have a2 := num_atS (o := o) (p := p + 8 * n + 4) (k := 4) (by omega) (by omega) (by omega)
    refine ⟨?_, ?_⟩
    · rw [rgS, h1]
      have e1 := a1.2
      have e2 := a2.2
      rw [show ((4 : Nat) : Int) = 4 from rfl] at e1 e2
      rw [e1, e2]
      congr 1
    · have e0 := a1.1
      have e1 := a1.2
      have e2 := a2.1
      rw [show ((4 : Nat) : Int) = 4 from rfl] at e0 e1 e2
      rw [rgR, h1, h2, e0, e1, e2, pairsAt]
      rfl
theorem rg_inv {o : List UInt8} {s : CS} : ∀ {n : Nat}, (rgS o s n).e = 0 → s.e = 0 ∧ (n = 0 ∨ s.p + 8 * n ≤ o.length) ∧ (rgS o s n).p = s.p + 8 * n
  | 0, h => ⟨h, .inl rfl, rfl⟩
  | n + 1, h => by
    rw [rgS] at h
    obtain ⟨h1, h2, h3, _⟩ := nx_inv (k := 4) h
    obtain ⟨g1, g2, g3, _⟩ := nx_inv (k := 4) h1
    obtain ⟨k1, k2, k3⟩ := rg_inv (n := n) g1
    rw [show ((4 : Nat) : Int) = 4 from rfl] at g3 h3
    rw [g3] at h2 h3
    rw [k3] at g2 h2 h3
    refine ⟨k1, .inr (by omega), ?_⟩
    rw [rgS, h3]
    omega

theorem start_at {o : List UInt8} (h : 5 ≤ o.length) : kO o = (at_ o 0 1 : Nat) ∧ uO o = at_ o 1 4 ∧ s2O o = ⟨5, 0⟩ := by
  have a1 := num_atS (o := o) (p := 0) (k := 1) (by omega) (by omega) (by omega)
  have a2 := num_atS (o := o) (p := 1) (k := 4) (by omega) (by omega) (by omega)
  have e1 : nx o ⟨0, 0⟩ 1 = ⟨1, 0⟩ := a1.2
  refine ⟨a1.1, ?_, ?_⟩
  · unfold uO
    rw [e1, show (4 : Int) = ((4 : Nat) : Int) from rfl, a2.1]
    rfl
  · unfold s2O
    rw [e1]
    exact a2.2
theorem nbn {o : List UInt8} {p : Nat} {k : Nat} {n : Int} (hn : n = (k : Int)) (h1 : 1 ≤ k) (h4 : k ≤ 4) (h : p + k ≤ o.length) : nb o ⟨p, 0⟩ n = (at_ o p k : Nat) ∧ nx o ⟨p, 0⟩ n = ⟨p + k, 0⟩ := by
  subst hn; exact num_atS h1 h4 h
theorem nxn {o : List UInt8} {s : CS} {k : Nat} {n : Int} (h : (nx o s n).e = 0) (hn : n = (k : Int)) : s.e = 0 ∧ s.p + k ≤ o.length ∧ (nx o s n).p = s.p + k := by
  subst hn
  obtain ⟨h1, h2, h3, _⟩ := nx_inv h
  exact ⟨h1, h2, h3⟩
theorem CS.eta {s : CS} {p : Nat} (h1 : s.p = p) (h2 : s.e = 0) : s = ⟨p, 0⟩ := by cases s; simp_all
theorem b_at {o : List UInt8} {p : Nat} (h : p ≤ o.length) : bx o ⟨p, 0⟩ (lf o ⟨p, 0⟩) = ⟨o.length, 0⟩ ∧ bb o ⟨p, 0⟩ (lf o ⟨p, 0⟩) = o.drop p := by
  have e : lf o ⟨p, 0⟩ = ((o.length - p : Nat) : Int) := by unfold lf leftS; rw [if_pos rfl]
  have hE : byE o p 0 ((o.length - p : Nat) : Int) = 0 := by unfold byE; rw [if_pos rfl, if_neg (by omega), if_neg (by omega)]
  refine ⟨?_, ?_⟩
  · rw [e]
    unfold bx byP
    simp only
    rw [hE, if_pos (by simp)]
    congr 1
    simp only [Int.toNat_natCast]
    omega
  · rw [e]
    unfold bb byB
    simp only
    rw [hE, if_pos (by simp), Int.toNat_natCast, List.take_of_length_le (by rw [List.length_drop]; exact Nat.le_refl _)]
theorem bx_inv {o : List UInt8} {s : CS} {n : Int} (h : (bx o s n).e = 0) : s.e = 0 := by
  unfold bx byE at h
  simp only at h
  by_cases he : s.e = 0
  · exact he
  · rw [if_neg he] at h; exact h
theorem lf_0 {o : List UInt8} {p : Nat} : lf o ⟨p, 0⟩ = ((o.length - p : Nat) : Int) := by unfold lf leftS; rw [if_pos rfl]

/-- All went well only if the length is right. -/
theorem pr_len {o : List UInt8} (h5 : 5 ≤ o.length) (hk : kindB (kO o) = true) (he : (eO o).e = 0) (hl : ¬ 0 < lf o (eO o)) : okL (at_ o 0 1 : Nat) o.length (at_ o 9 1) = true := by
  obtain ⟨e1, e2, e3⟩ := start_at h5
  have hl' : ∀ p, (eO o).p = p → p ≤ o.length → o.length = p := fun p hp hle => by
    have := CS.eta hp he
    rw [this, lf_0] at hl
    omega
  unfold okL
  rw [← e1]
  unfold kindB at hk
  have hk' := of_decide_eq_true hk
  unfold eO rdS at he hl'
  rw [e3] at he hl'
  by_cases k1 : kO o = 1
  · rw [if_pos k1] at he hl' ⊢
    obtain ⟨a1, a2, a3⟩ := nxn (k := 4) he rfl
    obtain ⟨b1, b2, b3⟩ := nxn (k := 4) a1 rfl
    obtain ⟨c1, c2, c3⟩ := nxn (k := 1) b1 rfl
    simp only at c2 c3
    exact decide_eq_true (hl' 14 (by omega) (by omega))
  rw [if_neg k1] at he hl' ⊢
  by_cases k2 : kO o = 2
  · rw [if_pos k2] at he hl' ⊢
    obtain ⟨a1, a2, a3⟩ := nxn (k := 2) he rfl
    obtain ⟨b1, b2, b3⟩ := nxn (k := 4) a1 rfl
    obtain ⟨c1, c2, c3⟩ := nxn (k := 4) b1 rfl
    obtain ⟨d1, d2, d3⟩ := nxn (k := 4) c1 rfl
    obtain ⟨f1, f2, f3⟩ := nxn (k := 1) d1 rfl
    simp only at f2 f3
    exact decide_eq_true (hl' 20 (by omega) (by omega))
  rw [if_neg k2] at he hl' ⊢
  by_cases k3 : kO o = 3
  · rw [if_pos k3] at he hl' ⊢
    have a1 := bx_inv he
    obtain ⟨b1, b2, b3⟩ := nxn (k := 1) a1 rfl
    obtain ⟨c1, c2, c3⟩ := nxn (k := 4) b1 rfl
    simp only at c2 c3
    exact decide_eq_true (by omega)
  rw [if_neg k3] at he hl' ⊢
  by_cases k4 : kO o = 4
  · rw [if_pos k4] at he hl' ⊢
    obtain ⟨a1, a2, a3⟩ := rg_inv he
    obtain ⟨b1, b2, b3⟩ := nxn (k := 1) a1 rfl
    obtain ⟨c1, c2, c3⟩ := nxn (k := 4) b1 rfl
    simp only at c2 c3
    have g1 : nx o ⟨5, 0⟩ 4 = ⟨9, 0⟩ := (nbn (k := 4) rfl (by omega) (by omega) (by omega)).2
    have g2 : nb o ⟨9, 0⟩ 1 = (at_ o 9 1 : Nat) := (nbn (k := 1) rfl (by omega) (by omega) (by omega)).1
    rw [g1, g2, Int.toNat_natCast] at a2 a3 hl'
    rw [g1] at b3
    simp only at b3
    rw [b3] at a2 a3
    refine decide_eq_true (hl' _ (by omega) ?_)
    rcases a2 with a2 | a2
    · rw [a2]; omega
    · omega
  rw [if_neg k4] at he hl' ⊢
  have k5 : kO o = 5 := by omega
  rw [if_pos k5] at he hl' ⊢
  obtain ⟨a1, a2, a3⟩ := nxn (k := 1) he rfl
  obtain ⟨b1, b2, b3⟩ := nxn (k := 1) a1 rfl
  simp only at b2 b3
  exact decide_eq_true (hl' 7 (by omega) (by omega))
/-- With the right length all goes well. -/
theorem pr_at {o : List UInt8} (h5 : 5 ≤ o.length) (hk : kindB (kO o) = true) (hl : okL (at_ o 0 1 : Nat) o.length (at_ o 9 1) = true) : eO o = ⟨o.length, 0⟩ ∧ mO o = rrM o := by
  obtain ⟨e1, e2, e3⟩ := start_at h5
  unfold okL at hl
  rw [← e1] at hl
  unfold kindB at hk
  have hk' := of_decide_eq_true hk
  unfold eO mO rdS rdMs rrM
  simp only
  rw [e2, e3, ← e1]
  by_cases k1 : kO o = 1
  · rw [if_pos k1] at hl
    have hl := of_decide_eq_true hl
    simp only [if_pos k1]
    obtain ⟨a1, a2⟩ := nbn (o := o) (p := 5) (k := 1) (n := 1) rfl (by omega) (by omega) (by omega)
    obtain ⟨b1, b2⟩ := nbn (o := o) (p := 6) (k := 4) (n := 4) rfl (by omega) (by omega) (by omega)
    obtain ⟨c1, c2⟩ := nbn (o := o) (p := 10) (k := 4) (n := 4) rfl (by omega) (by omega) (by omega)
    rw [a1, a2, b1, b2, c1, c2, hl]
    exact ⟨rfl, rfl⟩
  rw [if_neg k1] at hl
  simp only [if_neg k1]
  by_cases k2 : kO o = 2
  · rw [if_pos k2] at hl
    have hl := of_decide_eq_true hl
    simp only [if_pos k2]
    obtain ⟨a1, a2⟩ := nbn (o := o) (p := 5) (k := 1) (n := 1) rfl (by omega) (by omega) (by omega)
    obtain ⟨b1, b2⟩ := nbn (o := o) (p := 6) (k := 4) (n := 4) rfl (by omega) (by omega) (by omega)
    obtain ⟨c1, c2⟩ := nbn (o := o) (p := 10) (k := 4) (n := 4) rfl (by omega) (by omega) (by omega)
    obtain ⟨d1, d2⟩ := nbn (o := o) (p := 14) (k := 4) (n := 4) rfl (by omega) (by omega) (by omega)
    obtain ⟨f1, f2⟩ := nbn (o := o) (p := 18) (k := 2) (n := 2) rfl (by omega) (by omega) (by omega)
    rw [a1, a2, b1, b2, c1, c2, d1, d2, f1, f2, hl]
    exact ⟨rfl, rfl⟩
  rw [if_neg k2] at hl
  simp only [if_neg k2]
  by_cases k3 : kO o = 3
  · rw [if_pos k3] at hl
    have hl := of_decide_eq_true hl
    simp only [if_pos k3]
    obtain ⟨a1, a2⟩ := nbn (o := o) (p := 5) (k := 4) (n := 4) rfl (by omega) (by omega) (by omega)
    obtain ⟨b1, b2⟩ := nbn (o := o) (p := 9) (k := 1) (n := 1) rfl (by omega) (by omega) (by omega)
    obtain ⟨c1, c2⟩ := b_at (o := o) (p := 10) (by omega)
    rw [a1, a2, b1, b2, c1, c2]
    exact ⟨rfl, rfl⟩
  rw [if_neg k3] at hl
  simp only [if_neg k3]
  by_cases k4 : kO o = 4
  · rw [if_pos k4] at hl
    have hl := of_decide_eq_true hl
    simp only [if_pos k4]
    obtain ⟨a1, a2⟩ := nbn (o := o) (p := 5) (k := 4) (n := 4) rfl (by omega) (by omega) (by omega)
    obtain ⟨b1, b2⟩ := nbn (o := o) (p := 9) (k := 1) (n := 1) rfl (by omega) (by omega) (by omega)
    obtain ⟨c1, c2⟩ := rg_at (o := o) (p := 10) (n := at_ o 9 1) (by omega)
    rw [a1, a2, b1, b2, Int.toNat_natCast, c1, c2, hl]
    exact ⟨rfl, rfl⟩
  rw [if_neg k4] at hl
  simp only [if_neg k4]
  have k5 : kO o = 5 := by omega
  rw [if_pos k5] at hl
  have hl := of_decide_eq_true hl
  simp only [if_pos k5]
  obtain ⟨a1, a2⟩ := nbn (o := o) (p := 5) (k := 1) (n := 1) rfl (by omega) (by omega) (by omega)
  obtain ⟨b1, b2⟩ := nbn (o := o) (p := 6) (k := 1) (n := 1) rfl (by omega) (by omega) (by omega)
  rw [a1, a2, b1, b2, hl]
  exact ⟨rfl, rfl⟩
theorem rrM_K (o : List UInt8) : (rrM o).K = (at_ o 0 1 : Nat) := by
  unfold rrM; simp only; repeat' split
  all_goals rfl
theorem rrM_plain (o : List UInt8) : rrM o = plainS (rrM o) := by
  have hK := rrM_K o
  unfold plainS
  rw [hK]
  unfold rrM; simp only
  repeat' split
  all_goals first | rfl | (exfalso; omega)
theorem pr_eq {o : List UInt8} (h5 : 5 ≤ o.length) : prB o = rrB o ∧ (prB o = true → mO o = rrM o) := by
  obtain ⟨e1, e2, e3⟩ := start_at h5
  by_cases hk : kindB (kO o) = true
  · by_cases hl : okL (at_ o 0 1 : Nat) o.length (at_ o 9 1) = true
    · obtain ⟨g1, g2⟩ := pr_at h5 hk hl
      refine ⟨?_, fun _ => g2⟩
      unfold prB rrB mayB
      rw [hk, g1, g2, hl, rrM_K, ← e1, hk, decide_eq_true (rrM_plain o), lf_0]
      simp
    · have hl' : okL (at_ o 0 1 : Nat) o.length (at_ o 9 1) = false := by simpa using hl
      have hp : prB o = false := by
        by_cases hp : prB o = true
        · exfalso
          unfold prB at hp
          simp only [Bool.and_eq_true, Bool.not_eq_true', decide_eq_true_eq, decide_eq_false_iff_not] at hp
          exact hl (pr_len h5 hk hp.1.1.2 hp.1.2)
        · simpa using hp
      exact ⟨by rw [hp]; unfold rrB; rw [hl']; rfl, fun h => by rw [hp] at h; cases h⟩
  · have hk' : kindB (kO o) = false := by simpa using hk
    have hp : prB o = false := by unfold prB; rw [hk']; rfl
    refine ⟨?_, fun h => by rw [hp] at h; cases h⟩
    rw [hp]
    unfold rrB mayB
    rw [rrM_K, ← e1, hk']
    simp
end Go.Proofs.Ytamkfjbdcjkchaa

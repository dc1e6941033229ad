/- What the document's Read does, plainly; and that screen.Read does the same. -/
import Derived.Test.YtamkfjbdcjkchaaDoorSOf
import Derived.Test.YtamkfjbdcjkchaaDoorSBackP
namespace Go.Proofs.YtamkfjbdcjkchaaDoor
open Go.RowKit Go.Proofs.HK
set_option linter.unusedVariables false
set_option linter.unusedSimpArgs false
def no3 (e : Int) : Int × ScrS × Nat := (e, zeroScr, 0)
def rNum (o : List UInt8) (p : Nat) : Int := ((rdB o p).toNat : Int) + 256 * ((rdB o (p + 1)).toNat : Int)
def rEnd (o : List UInt8) (p : Nat) (W H : Int) (T : List UInt8) (L : Bool) (C : Int) (I : Bool) : Int × ScrS × Nat :=
  if o.length ≤ p then no3 2 else if ((rdB o p).toNat : Int) < 2 ∨ 8 < ((rdB o p).toNat : Int) then no3 3 else (0, ⟨W, H, T, L, C, I, ((rdB o p).toNat : Int)⟩, p + 1)
def rTail (o : List UInt8) (p : Nat) (W H : Int) (T : List UInt8) (C : Int) : Int × ScrS × Nat :=
  if o.length ≤ p then no3 2
  else if (rdB o p).toNat = 59 then no3 16
  else if (rdB o p).toNat ≠ 44 then no3 3
  else if o.length - p < 10 then no3 2
  else if ¬ (rNum o (p + 1) = 0 ∧ rNum o (p + 3) = 0 ∧ rNum o (p + 5) = W ∧ rNum o (p + 7) = H) then no3 11
  else if (rdB o (p + 9)).toNat < 128 then (if T = [] then no3 12 else rEnd o (p + 10) W H T false C (decide ((rdB o (p + 9)).toNat / 64 % 2 = 1)))
  else if o.length - (p + 10) < 6 * 2 ^ ((rdB o (p + 9)).toNat % 8) then no3 2
  else rEnd o (p + 10 + 6 * 2 ^ ((rdB o (p + 9)).toNat % 8)) W H ((o.drop (p + 10)).take (6 * 2 ^ ((rdB o (p + 9)).toNat % 8))) true C (decide ((rdB o (p + 9)).toNat / 64 % 2 = 1))
/-- The extensions: the error, the place behind them, the colour that covers nothing. -/
def rExts : Nat → List UInt8 → Nat → Int → Int × Nat × Int
  | 0, _, p, c => (0, p, c)
  | f + 1, o, p, c =>
    if p < o.length ∧ (rdB o p).toNat = 33 then
      if o.length - p < 2 then (2, p, c)
      else if (bRun b00 (o.drop (p + 2))).done = false then (2, p, c)
      else if (rdB o (p + 1)).toNat = 249 then
        if (bRun b00 (o.drop (p + 2))).seen ≠ 6 ∨ (bRun b00 (o.drop (p + 2))).out.length ≠ 4 then (3, p, c)
        else rExts f o (p + 2 + (bRun b00 (o.drop (p + 2))).seen) (if (rdB (bRun b00 (o.drop (p + 2))).out 0).toNat % 2 = 1 then ((rdB (bRun b00 (o.drop (p + 2))).out 3).toNat : Int) else -1)
      else rExts f o (p + 2 + (bRun b00 (o.drop (p + 2))).seen) c
    else (0, p, c)
def rRest (o : List UInt8) (p : Nat) (W H : Int) (T : List UInt8) : Int × ScrS × Nat :=
  if (rExts (o.length + 1) o p (-1)).1 ≠ 0 then no3 (rExts (o.length + 1) o p (-1)).1 else rTail o (rExts (o.length + 1) o p (-1)).2.1 W H T (rExts (o.length + 1) o p (-1)).2.2
def rHead (o : List UInt8) : Int × ScrS × Nat :=
  if o.length < 13 then no3 2
  else if sizB (rNum o 6) (rNum o 8) = false then no3 11
  else if (rdB o 10).toNat < 128 then rRest o 13 (rNum o 6) (rNum o 8) []
  else if o.length - 13 < 6 * 2 ^ ((rdB o 10).toNat % 8) then no3 2
  else rRest o (13 + 6 * 2 ^ ((rdB o 10).toNat % 8)) (rNum o 6) (rNum o 8) ((o.drop 13).take (6 * 2 ^ ((rdB o 10).toNat % 8)))
def rScr (o : List UInt8) : Int × ScrS × Nat := if o.take 6 = magic.take o.length then rHead o else no3 3

theorem lx_ne {o : List UInt8} {s : LS} {n : Int} (h : s.e ≠ 0) : (lxN o s n).e = s.e := by
  unfold lxN numE
  simp only
  rw [if_neg h]
theorem fl_ne {s : LS} {x : Int} (h : s.e ≠ 0) : (flN s x).e = s.e := by
  unfold flN failS
  simp only
  rw [if_neg h]
theorem tbX_ne {o : List UInt8} {s : LS} {m : Nat} (h : s.e ≠ 0) : (tbX o s m).e = s.e := by
  unfold tbX
  split
  · rfl
  · unfold byE; simp only; rw [if_neg h]
def tFin (o : List UInt8) (W H : Int) (t1 : List UInt8) (cl : Int) (m2 : Nat) (s13 : LS) : Int × ScrS × Nat :=
  let t2 := tbB o s13 m2
  let s14 := tbX o s13 m2
  let k := lnN o s14 1
  let s15 := lxN o s14 1
  let s16 := if k < 2 ∨ 8 < k then flN s15 3 else s15
  if s16.e ≠ 0 then (s16.e, zeroScr, 0) else (0, ⟨W, H, if t2 = [] then t1 else t2, !decide (t2 = []), cl, decide (m2 / 64 % 2 = 1), k⟩, s16.p)
def t13 (W H q0 q1 q2 q3 m2 : Int) (t1 : List UInt8) (s12 : LS) : LS :=
  if s12.e ≠ 0 then s12 else if ¬ (q0 = 0 ∧ q1 = 0 ∧ q2 = W ∧ q3 = H) then flN s12 11 else if m2 < 128 ∧ t1 = [] then flN s12 12 else s12
theorem tail_eq (o : List UInt8) (W H : Int) (t1 : List UInt8) (s7 : LS) (cl : Int) : tailS o W H t1 s7 cl =
    tFin o W H t1 cl (lnN o (lxN o (lxN o (lxN o (lxN o s7 2) 2) 2) 2) 1).toNat
      (t13 W H (lnN o s7 2) (lnN o (lxN o s7 2) 2) (lnN o (lxN o (lxN o s7 2) 2) 2) (lnN o (lxN o (lxN o (lxN o s7 2) 2) 2) 2) (lnN o (lxN o (lxN o (lxN o (lxN o s7 2) 2) 2) 2) 1) t1 (lxN o (lxN o (lxN o (lxN o (lxN o s7 2) 2) 2) 2) 1)) := rfl
theorem fin_ne {o : List UInt8} {W H : Int} {t1 : List UInt8} {cl : Int} {m2 : Nat} {s13 : LS} (h : s13.e ≠ 0) : tFin o W H t1 cl m2 s13 = no3 s13.e := by
  have h14 : (tbX o s13 m2).e = s13.e := tbX_ne h
  have h15 : (lxN o (tbX o s13 m2) 1).e = s13.e := (lx_ne (by rw [h14]; exact h)).trans h14
  unfold tFin
  simp only
  split
  · rename_i h2
    rw [if_pos (by rw [fl_ne (by rw [h15]; exact h), h15]; exact h), fl_ne (by rw [h15]; exact h), h15]
    rfl
  · rw [if_pos (by rw [h15]; exact h), h15]
    rfl
theorem tail_ne {o : List UInt8} {W H : Int} {t1 : List UInt8} {s7 : LS} {cl : Int} (h : s7.e ≠ 0) : tailS o W H t1 s7 cl = no3 s7.e := by
  have h8 : (lxN o s7 2).e = s7.e := lx_ne h
  have h9 : (lxN o (lxN o s7 2) 2).e = s7.e := (lx_ne (by rw [h8]; exact h)).trans h8
  have h10 : (lxN o (lxN o (lxN o s7 2) 2) 2).e = s7.e := (lx_ne (by rw [h9]; exact h)).trans h9
  have h11 : (lxN o (lxN o (lxN o (lxN o s7 2) 2) 2) 2).e = s7.e := (lx_ne (by rw [h10]; exact h)).trans h10
  have h12 : (lxN o (lxN o (lxN o (lxN o (lxN o s7 2) 2) 2) 2) 1).e = s7.e := (lx_ne (by rw [h11]; exact h)).trans h11
  rw [tail_eq]
  have e13 : ∀ q0 q1 q2 q3 m2, t13 W H q0 q1 q2 q3 m2 t1 (lxN o (lxN o (lxN o (lxN o (lxN o s7 2) 2) 2) 2) 1) = lxN o (lxN o (lxN o (lxN o (lxN o s7 2) 2) 2) 2) 1 := fun q0 q1 q2 q3 m2 => by
    unfold t13
    rw [if_pos (by rw [h12]; exact h)]
  rw [e13, fin_ne (by rw [h12]; exact h), h12]
theorem lx_two (o : List UInt8) (p : Nat) (h : p + 2 ≤ o.length) : lnN o ⟨p, 0⟩ 2 = rNum o p ∧ lxN o ⟨p, 0⟩ 2 = ⟨p + 2, 0⟩ := by
  have hf : fitsS o.length (p : Int) 2 = 0 := by
    unfold fitsS
    rw [if_neg (by omega), if_neg (by omega)]
  refine ⟨?_, ?_⟩
  · unfold lnN numL littleS
    rw [if_pos rfl, if_pos hf, if_pos hf]
    simp only [Int.toNat_natCast]
    rw [show (2 : Int).toNat = 2 from rfl, le_two _ (by rw [List.length_drop]; omega)]
    unfold rNum
    rw [rdB_drop, rdB_drop]
    rfl
  · unfold lxN numP numE
    rw [if_pos ⟨rfl, hf⟩, if_pos rfl, hf]
    rfl
/-- A reader that has not failed stands at p; one that came to the end has failed. -/
def At (o : List UInt8) (p : Nat) (c : LS) : Prop := (p ≤ o.length ∧ c = ⟨p, 0⟩) ∨ (o.length < p ∧ c.e = 2)
theorem At.two {o : List UInt8} {p : Nat} {c : LS} (h : At o p c) : At o (p + 2) (lxN o c 2) := by
  rcases h with ⟨h1, rfl⟩ | ⟨h1, h2⟩
  · by_cases h3 : p + 2 ≤ o.length
    · exact .inl ⟨h3, (lx_two o p h3).2⟩
    · refine .inr ⟨by omega, ?_⟩
      unfold lxN numE
      simp only
      rw [if_pos trivial]
      unfold fitsS
      rw [if_neg (by omega), if_pos (by omega)]
  · exact .inr ⟨by omega, lx_err h2⟩
theorem At.one {o : List UInt8} {p : Nat} {c : LS} (h : At o p c) : At o (p + 1) (lxN o c 1) := by
  rcases h with ⟨h1, rfl⟩ | ⟨h1, h2⟩
  · rcases lx_one o ⟨p, 0⟩ rfl with ⟨h3, _, h4⟩ | ⟨h3, _, h4⟩
    · exact .inl ⟨h3, h4⟩
    · exact .inr ⟨by simp only at h3; omega, by rw [h4]⟩
  · exact .inr ⟨by omega, lx_err h2⟩
theorem At.bad {o : List UInt8} {p : Nat} {c : LS} (h : At o p c) (h1 : o.length < p) : c.e = 2 := by
  rcases h with ⟨h2, _⟩ | ⟨_, h2⟩
  · omega
  · exact h2
theorem At.good {o : List UInt8} {p : Nat} {c : LS} (h : At o p c) (h1 : p ≤ o.length) : c = ⟨p, 0⟩ := by
  rcases h with ⟨_, h2⟩ | ⟨h2, _⟩
  · exact h2
  · omega
theorem tb_yes (o : List UInt8) (p m : Nat) (hm : ¬ m < 128) (h : p + 6 * 2 ^ (m % 8) ≤ o.length) : tbB o ⟨p, 0⟩ m = (o.drop p).take (6 * 2 ^ (m % 8)) ∧ tbX o ⟨p, 0⟩ m = ⟨p + 6 * 2 ^ (m % 8), 0⟩ := by
  have hy := bytes_yes o p (6 * 2 ^ (m % 8)) h
  have e : ((6 * 2 ^ (m % 8) : Nat) : Int) = 6 * 2 ^ (m % 8) := by push_cast; rfl
  rw [e] at hy
  refine ⟨?_, ?_⟩
  · unfold tbB byB
    rw [if_neg hm, if_pos ⟨rfl, hy.2⟩, ← e, Int.toNat_natCast]
  · unfold tbX
    rw [if_neg hm]
    simp only
    rw [hy.1, hy.2]
theorem tb_bad (o : List UInt8) (p m : Nat) (hm : ¬ m < 128) (h : o.length < p + 6 * 2 ^ (m % 8)) (hp : p ≤ o.length) : (tbX o ⟨p, 0⟩ m).e = 2 := by
  have e : ((6 * 2 ^ (m % 8) : Nat) : Int) = 6 * 2 ^ (m % 8) := by push_cast; rfl
  unfold tbX
  rw [if_neg hm]
  simp only
  unfold byE
  rw [← e, if_pos rfl, if_neg (by omega), if_pos (by omega)]
/-- The end: the least bits. -/
theorem fin_end (o : List UInt8) (W H : Int) (t1 : List UInt8) (cl : Int) (m2 : Nat) (p : Nat) (hp : p ≤ o.length) (hm : ¬ m2 < 128 → p + 6 * 2 ^ (m2 % 8) ≤ o.length) :
    tFin o W H t1 cl m2 ⟨p, 0⟩ = if m2 < 128 then rEnd o p W H t1 false cl (decide (m2 / 64 % 2 = 1)) else rEnd o (p + 6 * 2 ^ (m2 % 8)) W H ((o.drop p).take (6 * 2 ^ (m2 % 8))) true cl (decide (m2 / 64 % 2 = 1)) := by
  have key : ∀ (q : Nat) (T : List UInt8) (L : Bool), (let k := lnN o ⟨q, 0⟩ 1; let s15 := lxN o ⟨q, 0⟩ 1; let s16 := if k < 2 ∨ 8 < k then flN s15 3 else s15; (if s16.e ≠ 0 then (s16.e, zeroScr, 0) else (0, (⟨W, H, T, L, cl, decide (m2 / 64 % 2 = 1), k⟩ : ScrS), s16.p) : Int × ScrS × Nat)) = rEnd o q W H T L cl (decide (m2 / 64 % 2 = 1)) := fun q T L => by
    simp only
    unfold rEnd
    rcases lx_one o ⟨q, 0⟩ rfl with ⟨h1, h2, h3⟩ | ⟨h1, h2, h3⟩
    · simp only at h1 h2 h3
      rw [h2, h3, if_neg (show ¬ o.length ≤ q by omega)]
      by_cases hk : ((rdB o q).toNat : Int) < 2 ∨ 8 < ((rdB o q).toNat : Int)
      · rw [if_pos hk, if_pos hk, if_pos (by simp [flN, failS])]
        simp [flN, failS, no3]
      · rw [if_neg hk, if_neg hk, if_neg (by simp)]
    · simp only at h1 h2 h3
      rw [h2, h3, if_pos (show (0 : Int) < 2 ∨ (8 : Int) < 0 from .inl (by decide)), if_pos h1, if_pos (by simp [flN, failS])]
      simp [flN, failS, no3]
  unfold tFin
  by_cases h : m2 < 128
  · rw [if_pos h]
    have e1 : tbB o ⟨p, 0⟩ m2 = [] := by unfold tbB; rw [if_pos h]
    have e2 : tbX o ⟨p, 0⟩ m2 = ⟨p, 0⟩ := by unfold tbX; rw [if_pos h]
    rw [e1, e2]
    simp only [↓reduceIte, decide_true, Bool.not_true]
    exact key p t1 false
  · rw [if_neg h]
    obtain ⟨e1, e2⟩ := tb_yes o p m2 h (hm h)
    rw [e1, e2]
    have hne : ((o.drop p).take (6 * 2 ^ (m2 % 8))) ≠ [] := fun e => by
      have h1 := congrArg List.length e
      have h2 : 0 < 2 ^ (m2 % 8) := Nat.pow_pos (by decide)
      have h3 := hm h
      rw [List.length_take, List.length_drop, List.length_nil] at h1
      omega
    generalize (o.drop p).take (6 * 2 ^ (m2 % 8)) = T at hne ⊢
    simp only
    rw [if_neg hne, decide_eq_false hne]
    exact key (p + 6 * 2 ^ (m2 % 8)) T true
theorem tail_fit (o : List UInt8) (W H : Int) (t1 : List UInt8) (cl : Int) (p : Nat) (hp : p + 9 ≤ o.length) :
    tailS o W H t1 ⟨p, 0⟩ cl = if ¬ (rNum o p = 0 ∧ rNum o (p + 2) = 0 ∧ rNum o (p + 4) = W ∧ rNum o (p + 6) = H) then no3 11
      else if (rdB o (p + 8)).toNat < 128 then (if t1 = [] then no3 12 else rEnd o (p + 9) W H t1 false cl (decide ((rdB o (p + 8)).toNat / 64 % 2 = 1)))
      else if o.length - (p + 9) < 6 * 2 ^ ((rdB o (p + 8)).toNat % 8) then no3 2
      else rEnd o (p + 9 + 6 * 2 ^ ((rdB o (p + 8)).toNat % 8)) W H ((o.drop (p + 9)).take (6 * 2 ^ ((rdB o (p + 8)).toNat % 8))) true cl (decide ((rdB o (p + 8)).toNat / 64 % 2 = 1)) := by
  obtain ⟨v0, x0⟩ := lx_two o p (by omega)
  obtain ⟨v1, x1⟩ := lx_two o (p + 2) (by omega)
  obtain ⟨v2, x2⟩ := lx_two o (p + 4) (by omega)
  obtain ⟨v3, x3⟩ := lx_two o (p + 6) (by omega)
  obtain ⟨v4, x4⟩ : lnN o ⟨p + 8, 0⟩ 1 = ((rdB o (p + 8)).toNat : Int) ∧ lxN o ⟨p + 8, 0⟩ 1 = ⟨p + 9, 0⟩ := by
    rcases lx_one o ⟨p + 8, 0⟩ rfl with ⟨_, h2, h3⟩ | ⟨h1, _⟩
    · exact ⟨h2, h3⟩
    · simp only at h1; omega
  rw [tail_eq, v0, x0, v1, x1, v2, x2, v3, x3, v4, x4, Int.toNat_natCast]
  generalize (rdB o (p + 8)).toNat = m
  unfold t13
  rw [if_neg (by simp)]
  by_cases hq : ¬ (rNum o p = 0 ∧ rNum o (p + 2) = 0 ∧ rNum o (p + 4) = W ∧ rNum o (p + 6) = H)
  · rw [if_pos hq, if_pos hq, fin_ne (by simp [flN, failS])]
    simp [flN, failS]
  · rw [if_neg hq, if_neg hq]
    by_cases hm : m < 128
    · rw [if_pos hm]
      by_cases ht : t1 = []
      · rw [if_pos ⟨by omega, ht⟩, if_pos ht, fin_ne (by simp [flN, failS])]
        simp [flN, failS]
      · rw [if_neg (fun h => ht h.2), if_neg ht, fin_end o W H t1 cl m (p + 9) hp (fun h => absurd hm h), if_pos hm]
    · rw [if_neg hm, if_neg (fun h => by omega)]
      by_cases hl : o.length - (p + 9) < 6 * 2 ^ (m % 8)
      · rw [if_pos hl]
        have h14 := tb_bad o (p + 9) m hm (by omega) hp
        have h15 : (lxN o (tbX o ⟨p + 9, 0⟩ m) 1).e = 2 := lx_err h14
        unfold tFin
        simp only
        split
        · rw [if_pos (by rw [fl_err h15]; decide), fl_err h15]; rfl
        · rw [if_pos (by rw [h15]; decide), h15]; rfl
      · rw [if_neg hl, fin_end o W H t1 cl m (p + 9) hp (fun _ => by omega), if_neg hm]
theorem tail_short (o : List UInt8) (W H : Int) (t1 : List UInt8) (cl : Int) (p : Nat) (hp : p ≤ o.length) (h : o.length < p + 9) : tailS o W H t1 ⟨p, 0⟩ cl = no3 2 := by
  have h12 := (At.one (At.two (At.two (At.two (At.two (show At o p ⟨p, 0⟩ from .inl ⟨hp, rfl⟩)))))).bad (by omega)
  rw [tail_eq]
  have e13 : ∀ q0 q1 q2 q3 m2, t13 W H q0 q1 q2 q3 m2 t1 (lxN o (lxN o (lxN o (lxN o (lxN o ⟨p, 0⟩ 2) 2) 2) 2) 1) = lxN o (lxN o (lxN o (lxN o (lxN o ⟨p, 0⟩ 2) 2) 2) 2) 1 := fun q0 q1 q2 q3 m2 => by
    unfold t13
    rw [if_pos (by rw [h12]; decide)]
  rw [e13, fin_ne (by rw [h12]; decide), h12]
/-- The extensions, one by one. -/
theorem parts_eq (f : Nat) : ∀ (o : List UInt8) (p : Nat) (c W H : Int) (t1 : List UInt8), p ≤ o.length → o.length < p + f →
    tailS o W H t1 (partsS f o ⟨p, 0⟩ c).1 (partsS f o ⟨p, 0⟩ c).2 = if (rExts f o p c).1 ≠ 0 then no3 (rExts f o p c).1 else rTail o (rExts f o p c).2.1 W H t1 (rExts f o p c).2.2 := by
  induction f with
  | zero => intro o p c W H t1 hp hf; omega
  | succ f ih =>
    intro o p c W H t1 hp hf
    rcases lx_one o ⟨p, 0⟩ rfl with ⟨h1, h2, h3⟩ | ⟨h1, h2, h3⟩
    · simp only at h1 h2 h3
      by_cases h33 : (rdB o p).toNat = 33
      · have hp1 : partsS (f + 1) o ⟨p, 0⟩ c = partsS f o (exS o (p + 1) c).1 (exS o (p + 1) c).2 := by
          rw [partsS, if_neg (by simp), h2, if_pos (by omega), h3]
        rw [hp1]
        by_cases hl : o.length - p < 2
        · have hx : rExts (f + 1) o p c = (2, p, c) := by rw [rExts, if_pos ⟨h1, h33⟩, if_pos hl]
          have e : exS o (p + 1) c = (⟨p + 1, 2⟩, c) := by unfold exS; rw [if_pos (by omega)]
          rw [e, hx, if_pos (by simp), parts_done _ _ _ _ (by simp), tail_ne (by simp)]
        · by_cases hd : (bRun b00 (o.drop (p + 2))).done = false
          · have hx : rExts (f + 1) o p c = (2, p, c) := by rw [rExts, if_pos ⟨h1, h33⟩, if_neg hl, if_pos hd]
            have e : exS o (p + 1) c = (⟨p + 2, 2⟩, c) := by unfold exS; rw [if_neg (by omega), if_pos hd]
            rw [e, hx, if_pos (by simp), parts_done _ _ _ _ (by simp), tail_ne (by simp)]
          · have hseen := (bRun_seen (o.drop (p + 2)) b00).1
            rw [List.length_drop, show b00.seen = 0 from rfl] at hseen
            by_cases h9 : (rdB o (p + 1)).toNat = 249
            · by_cases h6 : (bRun b00 (o.drop (p + 2))).seen ≠ 6 ∨ (bRun b00 (o.drop (p + 2))).out.length ≠ 4
              · have hx : rExts (f + 1) o p c = (3, p, c) := by rw [rExts, if_pos ⟨h1, h33⟩, if_neg hl, if_neg hd, if_pos h9, if_pos h6]
                have e : exS o (p + 1) c = (⟨p + 2 + (bRun b00 (o.drop (p + 2))).seen, 3⟩, c) := by unfold exS; rw [if_neg (by omega), if_neg hd, if_neg (fun h => h h9), if_pos h6]
                rw [e, hx, if_pos (by simp), parts_done _ _ _ _ (by simp), tail_ne (by simp)]
              · have hx : rExts (f + 1) o p c = rExts f o (p + 2 + (bRun b00 (o.drop (p + 2))).seen) (if (rdB (bRun b00 (o.drop (p + 2))).out 0).toNat % 2 = 1 then ((rdB (bRun b00 (o.drop (p + 2))).out 3).toNat : Int) else -1) := by rw [rExts, if_pos ⟨h1, h33⟩, if_neg hl, if_neg hd, if_pos h9, if_neg h6]
                have e : exS o (p + 1) c = (⟨p + 2 + (bRun b00 (o.drop (p + 2))).seen, 0⟩, if (rdB (bRun b00 (o.drop (p + 2))).out 0).toNat % 2 = 1 then ((rdB (bRun b00 (o.drop (p + 2))).out 3).toNat : Int) else -1) := by unfold exS; rw [if_neg (by omega), if_neg hd, if_neg (fun h => h h9), if_neg h6]
                rw [e, hx]
                exact ih _ _ _ _ _ _ (by omega) (by omega)
            · have hx : rExts (f + 1) o p c = rExts f o (p + 2 + (bRun b00 (o.drop (p + 2))).seen) c := by rw [rExts, if_pos ⟨h1, h33⟩, if_neg hl, if_neg hd, if_neg h9]
              have e : exS o (p + 1) c = (⟨p + 2 + (bRun b00 (o.drop (p + 2))).seen, 0⟩, c) := by unfold exS; rw [if_neg (by omega), if_neg hd, if_pos h9]
              rw [e, hx]
              exact ih _ _ _ _ _ _ (by omega) (by omega)
      · have hx : rExts (f + 1) o p c = (0, p, c) := by rw [rExts, if_neg (fun h => h33 h.2)]
        rw [hx, if_neg (by simp)]
        simp only
        unfold rTail
        rw [if_neg (show ¬ o.length ≤ p by omega)]
        by_cases h44 : (rdB o p).toNat = 44
        · have hp1 : partsS (f + 1) o ⟨p, 0⟩ c = (⟨p + 1, 0⟩, c) := by
            rw [partsS, if_neg (by simp), h2, if_neg (by omega), if_pos (by omega), h3]
          rw [hp1, if_neg (by omega), if_neg (by omega)]
          simp only
          by_cases hl : o.length - p < 10
          · rw [if_pos hl, tail_short o W H t1 c (p + 1) (by omega) (by omega)]
          · rw [if_neg hl, tail_fit o W H t1 c (p + 1) (by omega)]
        · by_cases h59 : (rdB o p).toNat = 59
          · have hp1 : partsS (f + 1) o ⟨p, 0⟩ c = (flN ⟨p + 1, 0⟩ 16, c) := by
              rw [partsS, if_neg (by simp), h2, if_neg (by omega), if_neg (by omega), if_pos (by omega), h3]
            rw [hp1, if_pos h59]
            simp only
            rw [tail_ne (by simp [flN, failS])]
            simp [flN, failS]
          · have hp1 : partsS (f + 1) o ⟨p, 0⟩ c = (flN ⟨p + 1, 0⟩ 3, c) := by
              rw [partsS, if_neg (by simp), h2, if_neg (by omega), if_neg (by omega), if_neg (by omega), h3]
            rw [hp1, if_neg h59, if_pos h44]
            simp only
            rw [tail_ne (by simp [flN, failS])]
            simp [flN, failS]
    · simp only at h1 h2 h3
      have hx : rExts (f + 1) o p c = (0, p, c) := by rw [rExts, if_neg (fun h => by omega)]
      have hp1 : partsS (f + 1) o ⟨p, 0⟩ c = (flN ⟨p, 2⟩ 3, c) := by
        rw [partsS, if_neg (by simp), h2, if_neg (by omega), if_neg (by omega), if_neg (by omega), h3]
      rw [hp1, hx, if_neg (by simp)]
      simp only
      unfold rTail
      rw [if_pos h1, tail_ne (by simp [flN, failS])]
      simp [flN, failS]
theorem rScr_eq (o : List UInt8) : rScr o = scrS o := by
  unfold rScr scrS
  split
  · unfold headS
    simp only
    have h6 : At o 6 ⟨byP o 0 0 6, byE o 0 0 6⟩ := by
      by_cases h : 6 ≤ o.length
      · obtain ⟨h1, h2⟩ := bytes_yes o 0 6 (by omega)
        exact .inl ⟨h, by rw [show ((6 : Nat) : Int) = 6 from rfl] at h1 h2; rw [h1, h2]⟩
      · refine .inr ⟨by omega, ?_⟩
        simp only
        unfold byE
        rw [if_pos rfl, if_neg (by omega), if_pos (by omega)]
    generalize (⟨byP o 0 0 6, byE o 0 0 6⟩ : LS) = s0 at h6 ⊢
    have h4 := h6.two.two.one.two
    unfold rHead
    by_cases hl : o.length < 13
    · rw [if_pos hl]
      have he := h4.bad (by omega)
      rw [if_neg (fun h => by rw [he] at h; exact absurd h.1 (by decide))]
      have h6e := tbX_ne (o := o) (m := (lnN o (lxN o (lxN o s0 2) 2) 1).toNat) (show (lxN o (lxN o (lxN o (lxN o s0 2) 2) 1) 2).e ≠ 0 by rw [he]; decide)
      rw [parts_done _ _ _ _ (by rw [h6e, he]; decide), tail_ne (by rw [h6e, he]; decide), h6e, he]
    · rw [if_neg hl]
      obtain rfl := h6.good (by omega)
      obtain ⟨v0, x0⟩ := lx_two o 6 (by omega)
      obtain ⟨v1, x1⟩ := lx_two o 8 (by omega)
      obtain ⟨v2, x2⟩ : lnN o ⟨10, 0⟩ 1 = ((rdB o 10).toNat : Int) ∧ lxN o ⟨10, 0⟩ 1 = ⟨11, 0⟩ := by
        rcases lx_one o ⟨10, 0⟩ rfl with ⟨_, h2, h3⟩ | ⟨h1, _⟩
        · exact ⟨h2, h3⟩
        · simp only at h1; omega
      have x3 : lxN o ⟨11, 0⟩ 2 = ⟨13, 0⟩ := (lx_two o 11 (by omega)).2
      have x0 : lxN o ⟨6, 0⟩ 2 = ⟨8, 0⟩ := x0
      have x1 : lxN o ⟨8, 0⟩ 2 = ⟨10, 0⟩ := x1
      rw [v0, x0, v1, x1, v2, x2, x3, Int.toNat_natCast]
      generalize (rdB o 10).toNat = m
      by_cases hz : sizB (rNum o 6) (rNum o 8) = false
      · have e5 : (if (⟨13, 0⟩ : LS).e = 0 ∧ sizB (rNum o 6) (rNum o 8) = false then flN ⟨13, 0⟩ 11 else ⟨13, 0⟩) = flN ⟨13, 0⟩ 11 := if_pos ⟨rfl, hz⟩
        rw [e5, if_pos hz]
        have h6e := tbX_ne (o := o) (m := m) (show (flN ⟨13, 0⟩ 11).e ≠ 0 by simp [flN, failS])
        have h5e : (flN ⟨13, 0⟩ 11).e = 11 := by simp [flN, failS]
        rw [parts_done _ _ _ _ (by rw [h6e, h5e]; decide), tail_ne (by rw [h6e, h5e]; decide), h6e, h5e]
      · have e5 : (if (⟨13, 0⟩ : LS).e = 0 ∧ sizB (rNum o 6) (rNum o 8) = false then flN ⟨13, 0⟩ 11 else ⟨13, 0⟩) = ⟨13, 0⟩ := if_neg (fun h => hz h.2)
        rw [e5, if_neg hz]
        by_cases hm : m < 128
        · rw [if_pos hm]
          have e1 : tbB o ⟨13, 0⟩ m = [] := by unfold tbB; rw [if_pos hm]
          have e2 : tbX o ⟨13, 0⟩ m = ⟨13, 0⟩ := by unfold tbX; rw [if_pos hm]
          rw [e1, e2]
          exact (parts_eq _ o 13 (-1) _ _ [] (by omega) (by omega)).symm
        · rw [if_neg hm]
          by_cases ht : o.length - 13 < 6 * 2 ^ (m % 8)
          · rw [if_pos ht]
            have h6e := tb_bad o 13 m hm (by omega) (by omega)
            rw [parts_done _ _ _ _ (by rw [h6e]; decide), tail_ne (by rw [h6e]; decide), h6e]
          · rw [if_neg ht]
            obtain ⟨e1, e2⟩ := tb_yes o 13 m hm (by omega)
            rw [e1, e2]
            exact (parts_eq _ o _ (-1) _ _ _ (by omega) (by omega)).symm
  · rfl
end Go.Proofs.YtamkfjbdcjkchaaDoor

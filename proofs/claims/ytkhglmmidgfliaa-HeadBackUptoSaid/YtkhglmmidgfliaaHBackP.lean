/- What is read is written as it was: the plain law of HeadBack. -/
import Derived.Test.YtkhglmmidgfliaaTints3
import Derived.Test.YtkhglmmidgfliaaClear2
import Derived.Test.YtkhglmmidgfliaaHeadW
import Derived.Test.YtkhglmmidgfliaaHeadWr
namespace Go.Proofs.Ytkhglmmidgfliaa
open Go.RowKit Go.Proofs.HK

theorem byteOf_nat (b : UInt8) (k : Nat) : HK.byteOf ((b.toNat + 256 * k : Nat) : Int) = b := by
  have hb := b.toNat_lt
  refine UInt8.toNat_inj.1 ?_
  have h := byteOf_toNat ((b.toNat + 256 * k : Nat) : Int)
  omega
theorem putLE_le (xs : List UInt8) : putLE xs.length ((le xs : Nat) : Int) = xs := by
  induction xs with
  | nil => rfl
  | cons b l ih =>
    show HK.byteOf ((b.toNat + 256 * le l : Nat) : Int) :: putLE l.length (((b.toNat + 256 * le l : Nat) : Int) / 256) = b :: l
    have hb := b.toNat_lt
    rw [byteOf_nat, show ((b.toNat + 256 * le l : Nat) : Int) / 256 = ((le l : Nat) : Int) by omega, ih]
theorem putBE_be (xs : List UInt8) : putBE xs.length ((be xs : Nat) : Int) = xs := by
  have h := putLE_le xs.reverse
  rw [le_eq_be, List.reverse_reverse, List.length_reverse] at h
  unfold putBE
  rw [h, List.reverse_reverse]
theorem byteOf_b (b : UInt8) : HK.byteOf (b.toNat : Int) = b := by
  have := byteOf_nat b 0
  simpa using this
theorem bounds_be (xs : List UInt8) (h : xs.length ≤ 7) : -9223372036854775808 ≤ ((be xs : Nat) : Int) ∧ ((be xs : Nat) : Int) ≤ 9223372036854775807 := by
  have := be_lt xs
  have : 256 ^ xs.length ≤ 256 ^ 7 := Nat.pow_le_pow_right (by omega) h
  omega
/-- A head that is read is written as it was. -/
theorem head_back {bs : List UInt8} (h : rdOk bs) :
    wrB (be (bs.take 4)) (be ((bs.drop 4).take 4)) (rdB bs 9).toNat (rdB bs 8).toNat ((rdB bs 12).toNat == 1) = bs ∧ wrE (be (bs.take 4)) (be ((bs.drop 4).take 4)) (rdB bs 9).toNat (rdB bs 8).toNat = 0 := by
  obtain ⟨hl, h10, h11, h12, hm⟩ := h
  refine ⟨?_, by unfold wrE; rw [hm]; rfl⟩
  unfold wrB
  rw [hm]
  show hdB _ _ _ _ _ = bs
  obtain ⟨a0, a1, a2, a3, a4, a5, a6, a7, a8, a9, a10, a11, a12, rfl⟩ := take13 bs hl
  have e1 := putBE_be [a0, a1, a2, a3]
  have e2 := putBE_be [a4, a5, a6, a7]
  have h10' : a10 = 0 := h10
  have h11' : a11 = 0 := h11
  have h12' : a12.toNat ≤ 1 := h12
  subst h10' h11'
  unfold hdB hd5
  show putBE 4 ((be [a0, a1, a2, a3] : Nat) : Int) ++ (putBE 4 ((be [a4, a5, a6, a7] : Nat) : Int) ++ [HK.byteOf (a8.toNat : Int), HK.byteOf (a9.toNat : Int), 0, 0, if (a12.toNat == 1) = true then 1 else 0]) = _
  have e1' : putBE 4 ((be [a0, a1, a2, a3] : Nat) : Int) = [a0, a1, a2, a3] := e1
  have e2' : putBE 4 ((be [a4, a5, a6, a7] : Nat) : Int) = [a4, a5, a6, a7] := e2
  rw [e1', e2', byteOf_b, byteOf_b]
  have : (if (a12.toNat == 1) = true then (1 : UInt8) else 0) = a12 := by
    refine UInt8.toNat_inj.1 ?_
    by_cases e : a12.toNat = 1
    · rw [if_pos (by simpa using e), e]; rfl
    · rw [if_neg (by simpa using e)]
      show 0 = a12.toNat
      omega
  rw [this]
  rfl
theorem prs_back (bs : List UInt8) : ∀ m, 2 * m ≤ bs.length → (prs bs m).flatMap (putBE 2) = bs.take (2 * m) := by
  intro m
  induction m with
  | zero => intro _; rfl
  | succ m ih =>
    intro h
    rw [prs_succ, List.flatMap_append, ih (by omega), show 2 * (m + 1) = 2 * m + 2 by omega, List.take_add]
    congr 1
    have hl : ((bs.drop (2 * m)).take 2).length = 2 := by rw [List.length_take, List.length_drop]; omega
    have := putBE_be ((bs.drop (2 * m)).take 2)
    rw [hl] at this
    simp only [List.flatMap_cons, List.flatMap_nil, List.append_nil]
    exact this
theorem al_back (bs : List UInt8) : (alB bs).map HK.byteOf = bs := by
  unfold alB
  rw [List.map_map]
  have : HK.byteOf ∘ (fun b : UInt8 => (b.toNat : Int)) = id := by funext b; exact byteOf_b b
  rw [this, List.map_id]
/-- What covers nothing, or less, is written as it was read. -/
theorem clear_back {W H C D T : Int} {bs : List UInt8} (hm : mayS W H C D = true) (h : rc3 C T bs.length ∨ rc2 C D bs) : wcS C (rcA W H C D T bs) (rcC W H C D bs) = bs ∧ rcE W H C D T bs = 0 := by
  rcases h with h | h
  · obtain ⟨e1, e2, e3⟩ := rc_alpha (W := W) (H := H) (D := D) hm h
    rw [e1, e2, e3]
    exact ⟨by unfold wcS; rw [if_pos h.1, al_back], rfl⟩
  · obtain ⟨e1, e2, e3⟩ := rc_clear (W := W) (H := H) (T := T) hm h
    rw [e1, e2, e3]
    refine ⟨?_, rfl⟩
    rw [wcS_two _ _ h.1]
    have hl : ∃ m : Nat, bs.length = 2 * m := by
      have h2 := h.2.1
      have : 0 ≤ samS C := by unfold samS; repeat' split <;> omega
      exact ⟨(samS C).toNat, by omega⟩
    obtain ⟨m, hl⟩ := hl
    rw [show bs.length / 2 = m by omega, prs_back bs m (by omega), List.take_of_length_le (by omega)]
theorem rcC_mem {W H C D : Int} {bs : List UInt8} {v : Int} (hmem : v ∈ rcC W H C D bs) : -9223372036854775808 ≤ v ∧ v ≤ 9223372036854775807 := by
  unfold rcC at hmem
  split at hmem
  · obtain ⟨j, _, rfl⟩ := List.mem_map.1 hmem
    exact bounds_be ((bs.drop (2 * j)).take 2) (by rw [List.length_take]; omega)
  · cases hmem
theorem rcC_bounds (W H C D : Int) (bs : List UInt8) : I64s (rcC W H C D bs) := fun _ hi => rcC_mem (List.getElem_mem hi)
end Go.Proofs.Ytkhglmmidgfliaa

/- What is read of a token is written as it was; with bits turned it is not read: plainly. No program in sight. -/
import Derived.Test.YtponiapdpecioaaTokP2
namespace Go.Proofs.HK
open Go.RowKit

theorem trdE_0 {bs : List UInt8} (h : trdE bs = 0) : 13 ≤ bs.length ∧ crcOf (bs.take (bs.length - 4)) = le (bs.drop (bs.length - 4)) ∧ trdF bs < 16 ∧ trdN bs ≤ 1048576 ∧ trdN bs = bs.length - 13 := by
  unfold trdE at h
  by_cases h1 : bs.length < 13
  · rw [if_pos h1] at h; exact absurd h (by decide)
  · rw [if_neg h1] at h
    by_cases h2 : crcOf (bs.take (bs.length - 4)) ≠ le (bs.drop (bs.length - 4))
    · rw [if_pos h2] at h; exact absurd h (by decide)
    · rw [if_neg h2] at h
      by_cases h3 : trdF bs < 16 ∧ trdN bs ≤ 1048576 ∧ trdN bs = bs.length - 13
      · exact ⟨by omega, Decidable.byContradiction h2, h3⟩
      · rw [if_neg h3] at h; exact absurd h (by decide)
theorem byteOf_id (b : UInt8) : HK.byteOf ((b.toNat : Nat) : Int) = b := by
  apply UInt8.toNat_inj.1
  have h1 := byteOf_toNat ((b.toNat : Nat) : Int)
  have h2 := b.toNat_lt
  omega
theorem tok_trd (bs : List UInt8) (h : trdE bs = 0) : tokE (trdF bs) (trdD bs).length = 0 ∧ tokB (trdF bs) (trdS bs) (trdD bs) = bs := by
  obtain ⟨h1, h2, h3, h4, h5⟩ := trdE_0 h
  have hl : (trdD bs).length = bs.length - 13 := by unfold trdD; rw [List.length_drop, List.length_take]; omega
  have hE : tokE (trdF bs) (trdD bs).length = 0 := by
    unfold tokE
    rw [if_pos ⟨by unfold trdF; omega, h3, by rw [hl]; omega⟩]
  refine ⟨hE, ?_⟩
  have hO : tokO (trdF bs) (trdS bs) (trdD bs) = bs.take (bs.length - 4) := by
    have l1 : ((bs.drop 1).take 4).length = 4 := by rw [List.length_take, List.length_drop]; omega
    have l2 : ((bs.drop 5).take 4).length = 4 := by rw [List.length_take, List.length_drop]; omega
    have e1 : putBE 4 (trdS bs : Int) = (bs.drop 1).take 4 := by have := putBE_be ((bs.drop 1).take 4); rw [l1] at this; exact this
    have e2 : putBE 4 ((trdD bs).length : Int) = (bs.drop 5).take 4 := by
      have := putBE_be ((bs.drop 5).take 4); rw [l2] at this
      rw [hl, ← h5]; exact this
    unfold tokO
    rw [e1, e2]
    have e3 : HK.byteOf (trdF bs) = rdB bs 0 := byteOf_id _
    rw [e3]
    unfold trdD
    have hb : bs = rdB bs 0 :: bs.drop 1 := by
      cases bs with
      | nil => simp at h1
      | cons b l => simp [rdB]
    have c1 : bs.drop 1 = (bs.drop 1).take 4 ++ bs.drop 5 := by
      have := List.take_append_drop 4 (bs.drop 1)
      rw [List.drop_drop] at this; exact this.symm
    have c2 : bs.drop 5 = (bs.drop 5).take 4 ++ bs.drop 9 := by
      have := List.take_append_drop 4 (bs.drop 5)
      rw [List.drop_drop] at this; exact this.symm
    have c3 : (bs.take (bs.length - 4)).drop 9 = (bs.drop 9).take (bs.length - 13) := by rw [List.drop_take]; congr 1
    rw [c3]
    have hall : bs = (rdB bs 0 :: ((bs.drop 1).take 4 ++ (bs.drop 5).take 4)) ++ bs.drop 9 := by
      have q : (rdB bs 0 :: ((bs.drop 1).take 4 ++ (bs.drop 5).take 4)) ++ bs.drop 9 = rdB bs 0 :: ((bs.drop 1).take 4 ++ ((bs.drop 5).take 4 ++ bs.drop 9)) := by simp
      rw [q, ← c2, ← c1]
      exact hb
    have hlen : (rdB bs 0 :: ((bs.drop 1).take 4 ++ (bs.drop 5).take 4)).length = 9 := by simp only [List.length_cons, List.length_append, l1, l2]
    have h9 : bs.take 9 = rdB bs 0 :: ((bs.drop 1).take 4 ++ (bs.drop 5).take 4) := (congrArg (List.take 9) hall).trans (List.take_left' hlen)
    rw [show bs.length - 4 = 9 + (bs.length - 13) by omega, take_add, h9]
    simp
  unfold tokB
  rw [if_pos hE, hO]
  unfold sealB
  have l4 : (bs.drop (bs.length - 4)).length = 4 := by rw [List.length_drop]; omega
  have := putLE_le (bs.drop (bs.length - 4))
  rw [l4] at this
  rw [h2, this, List.take_append_drop]
theorem trd_turned (bs : List UInt8) (h : trdE bs = 0) (a y : Nat) (hy : y < 4294967296) (ha : a < 8 * bs.length) : trdE (turnedP bs a y) = 4 ↔ turnedP bs a y ≠ bs := by
  obtain ⟨h1, h2, _⟩ := trdE_0 h
  have hl := turnedP_length bs a y
  obtain ⟨c, hc⟩ : ∃ c, c = turnedP bs a y := ⟨_, rfl⟩
  rw [← hc] at hl ⊢
  have hs : (bs.drop (bs.length - 4)).length = 4 := by rw [List.length_drop]; omega
  have key := turned_sealed (bs.take (bs.length - 4)) (bs.drop (bs.length - 4)) hs h2 a y hy (by rw [List.take_append_drop]; exact ha) (c.take (c.length - 4)) (c.drop (c.length - 4)) (by rw [List.length_take, List.length_take, hl]) (by rw [List.length_drop]; omega) (by rw [List.take_append_drop, List.take_append_drop]; exact hc.symm)
  rw [List.take_append_drop, List.take_append_drop] at key
  constructor
  · intro h4 he
    rw [he, h] at h4
    exact absurd h4 (by decide)
  · intro hne
    unfold trdE
    rw [if_neg (by omega), if_pos (fun he => hne (key.1 he))]
end Go.Proofs.HK

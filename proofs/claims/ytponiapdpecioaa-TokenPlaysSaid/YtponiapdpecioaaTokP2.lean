/- What is written of a token is read as it was, plainly. No program in sight. -/
import Derived.Test.YtponiapdpecioaaTokP
namespace Go.Proofs.HK
open Go.RowKit

theorem trd_tok (F : Int) (S : Nat) (D : List UInt8) (h : tokE F D.length = 0) (hS : S < 4294967296) : trdE (tokB F S D) = 0 ∧ trdT (tokB F S D) = ⟨F, S, D⟩ := by
  have hE : 0 ≤ F ∧ F < 16 ∧ D.length ≤ 1048576 := by
    unfold tokE at h
    by_cases hh : 0 ≤ F ∧ F < 16 ∧ D.length ≤ 1048576
    · exact hh
    · rw [if_neg hh] at h; exact absurd h (by decide)
  obtain ⟨e1, e2, e3⟩ := hE
  have hb : tokB F S D = sealB (tokO F S D) := by unfold tokB; rw [if_pos h]
  have hlen : (sealB (tokO F S D)).length = D.length + 13 := by rw [sealB_length, tokO_length]
  have ht : (sealB (tokO F S D)).take ((sealB (tokO F S D)).length - 4) = tokO F S D := by
    rw [hlen, show D.length + 13 - 4 = (tokO F S D).length by rw [tokO_length]; omega]
    unfold sealB; exact List.take_left
  have hd : (sealB (tokO F S D)).drop ((sealB (tokO F S D)).length - 4) = putLE 4 (crcOf (tokO F S D) : Int) := by
    rw [hlen, show D.length + 13 - 4 = (tokO F S D).length by rw [tokO_length]; omega]
    unfold sealB; exact List.drop_left
  have hF : trdF (sealB (tokO F S D)) = F := by
    show ((HK.byteOf F).toNat : Int) = F
    exact byteOf_small e1 (by omega)
  have hS' : trdS (sealB (tokO F S D)) = S := by
    have : ((sealB (tokO F S D)).drop 1).take 4 = putBE 4 (S : Int) := by
      show (((putBE 4 (S : Int)) ++ (putBE 4 (D.length : Int) ++ D)) ++ putLE 4 (crcOf (tokO F S D) : Int)).take 4 = _
      rw [List.append_assoc]
      exact List.take_left' (putBE_length _ _)
    unfold trdS
    rw [this, be_putBE]; omega
  have hN' : trdN (sealB (tokO F S D)) = D.length := by
    have : ((sealB (tokO F S D)).drop 5).take 4 = putBE 4 (D.length : Int) := by
      show ((((putBE 4 (S : Int)) ++ (putBE 4 (D.length : Int) ++ D)) ++ putLE 4 (crcOf (tokO F S D) : Int)).drop 4).take 4 = _
      rw [List.append_assoc, List.drop_left' (putBE_length _ _), List.append_assoc]
      exact List.take_left' (putBE_length _ _)
    unfold trdN
    rw [this, be_putBE]; omega
  have hD : trdD (sealB (tokO F S D)) = D := by
    unfold trdD
    rw [ht]
    show ((putBE 4 (S : Int)) ++ (putBE 4 (D.length : Int) ++ D)).drop 8 = D
    rw [← List.append_assoc]
    exact List.drop_left' (by rw [List.length_append, putBE_length, putBE_length])
  have hE0 : trdE (sealB (tokO F S D)) = 0 := by
    unfold trdE
    rw [if_neg (by rw [hlen]; omega), if_neg, if_pos]
    · rw [hF, hN', hlen]; exact ⟨e2, e3, by omega⟩
    · rw [ht, hd, le_putLE]
      have := crcM_lt 0 (tokO F S D)
      unfold crcOf
      intro h; apply h; omega
  rw [hb]
  refine ⟨hE0, ?_⟩
  unfold trdT
  rw [if_pos hE0, hF, hS', hD]
end Go.Proofs.HK

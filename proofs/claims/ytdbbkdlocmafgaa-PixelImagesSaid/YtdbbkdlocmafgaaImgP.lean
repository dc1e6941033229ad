/- A raster's image, plainly. -/
import Derived.Test.YtdbbkdlocmafgaaImgS
namespace Go.Proofs.Ytdbbkdlocmafgaa
open Go.RowKit Go.Proofs.HK
set_option linter.unusedVariables false

/-- The i-th pixel's samples; the first k pixels. -/
def chunkP (r : RS) (n i : Nat) : List Int := (r.sa.drop (i * n)).take n
def imgL (r : RS) (n k : Nat) : List Col := (List.range k).map fun i => colS r (chunkP r n i)
theorem imgL_length (r : RS) (n k : Nat) : (imgL r n k).length = k := by simp [imgL]
theorem imgL_succ (r : RS) (n k : Nat) : imgL r n (k + 1) = imgL r n k ++ [colS r (chunkP r n k)] := by simp [imgL, List.range_succ]
theorem chk_img {r : RS} (h : chkS r = 0) : ∃ n N : Nat, samS r.C = n ∧ 1 ≤ n ∧ n ≤ 4 ∧ r.sa.length = N * n ∧ tabS r = 0 ∧ ∀ i, i < N → (chunkP r n i).length = n ∧ lookS r (chunkP r n i) (samS r.C) = 0 ∧ ofE r (chunkP r n i) = 0 ∧ ofC r (chunkP r n i) = colS r (chunkP r n i) := by
  unfold chkS at h
  by_cases ht : tabS r = 0
  · rw [if_pos ht] at h
    obtain ⟨l1, l2, l3⟩ := look_facts h
    obtain ⟨hm, _⟩ := tab_facts ht
    obtain ⟨m1, m2, _, _, _, _, _, m8, m9⟩ := may_facts hm
    obtain ⟨n, hn⟩ := Int.eq_ofNat_of_zero_le (show 0 ≤ samS r.C by omega)
    have hWH : 0 ≤ r.W * r.H := Int.le_of_lt (Int.mul_pos m1 m2)
    obtain ⟨N, hN⟩ := Int.eq_ofNat_of_zero_le hWH
    rw [hN, hn] at l1
    have hlen : r.sa.length = N * n := by exact_mod_cast l1
    refine ⟨n, N, hn, by omega, by omega, hlen, ht, fun i hi => ?_⟩
    have hin : (i + 1) * n ≤ N * n := Nat.mul_le_mul_right _ hi
    rw [Nat.succ_mul] at hin
    have hcl : (chunkP r n i).length = n := by unfold chunkP; rw [List.length_take, List.length_drop, hlen]; omega
    have hmem : ∀ v ∈ chunkP r n i, v ∈ r.sa := fun v hv => List.mem_of_mem_drop (List.mem_of_mem_take hv)
    have hL : lookS r (chunkP r n i) (samS r.C) = 0 := by
      unfold lookS
      rw [if_neg, if_neg]
      · rintro ⟨hc, hw⟩
        rw [wit_iff.2 (fun v hv => l3 hc v (hmem v hv))] at hw
        exact absurd hw (by simp)
      · rintro (hc | hw)
        · exact hc (by rw [hcl, hn])
        · rw [wit_iff.2 (fun v hv => l2 v (hmem v hv))] at hw
          exact absurd hw (by simp)
    have hE : ofE r (chunkP r n i) = 0 := by unfold ofE; rw [if_pos ht]; exact hL
    exact ⟨hcl, hL, hE, by unfold ofC; rw [if_pos hE]⟩
  · rw [if_neg ht] at h
    exact absurd h ht
end Go.Proofs.Ytdbbkdlocmafgaa

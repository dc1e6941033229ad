/- The walk of BitsReads. -/
import Derived.Test.YtjmgffiplkkgpaaBBack
import Derived.Test.YtjmgffiplkkgpaaRef1R
namespace Go.Proofs.Ytjmgffiplkkgpaa
open Go.RowKit Go.Proofs.HK
set_option linter.unusedVariables false
set_option linter.unusedSimpArgs false
attribute [local go_sem] max2_int min2_int max_two min_two

abbrev AskT1 := Int × Int × List UInt8 × Unit
/-- What a reader is asked, in its cells. -/
def Ask1K (w : World) (x : AskT1) (es : List Value) : Prop := ∃ A n c, es = [.int .u8 x.1, .int .i64 x.2.1, .slice A n c] ∧ SlIn B 1 w A x.2.2.1 n c ∧ 0 ≤ x.1 ∧ x.1 ≤ 255
theorem Ask1K.at {w wr : World} {A : Option Addr} {xs : List AskT1} {n c : Nat} (h : SlM Ask1K 3 40 w A xs n c) (hf : Fr No w wr) (k : Nat) (hk : k < xs.length) :
    ∃ ad ki m ys A' n' c', A = some ad ∧ xs[k] = (ki, m, ys, ()) ∧ 0 ≤ ki ∧ ki ≤ 255 ∧ SlIn B 1 w A' ys n' c' ∧ wr.cell? (ad.add (k * 3)) = some (.int .u8 ki) ∧
      wr.cell? ⟨(ad.add (k * 3)).block, (ad.add (k * 3)).off + 1, none⟩ = some (.int .i64 m) ∧ wr.cell? ⟨(ad.add (k * 3)).block, (ad.add (k * 3)).off + 2, none⟩ = some (.slice A' n' c') := by
  obtain ⟨ad, es, hA', _, hcells, A', n', c', hes, hs, h1, h2⟩ := h.at_ k hk
  obtain ⟨x, hx⟩ : ∃ x, x = xs[k] := ⟨_, rfl⟩
  rw [← hx] at hes hs h1 h2
  obtain ⟨ki, m, ys, _⟩ := x
  simp only at hes hs h1 h2
  subst hes
  have q0 := hcells 0 (by omega)
  have q1 := hcells 1 (by omega)
  have q2 := hcells 2 (by omega)
  simp only [Nat.add_zero, List.getElem?_cons_zero, List.getElem?_cons_succ] at q0 q1 q2
  have hwc : ∀ (a : Addr) (v : Value), w.cell? a = some v → wr.cell? a = some v := fun a v h => (hf.cell (lt_of_cell h) (fun h => h)).trans h
  exact ⟨ad, ki, m, ys, A', n', c', hA', hx.symm, h1, h2, hs, hwc _ _ q0, cellAt (j := 0) (hwc _ _ q1), cellAt (j := 1) (hwc _ _ q2)⟩
def fsum (xs : List AskT1) : Nat := (xs.map fun x => x.2.2.1.length).sum
theorem fsum_snoc (xs : List AskT1) (k : Nat) (h : k < xs.length) : fsum (xs.take (k + 1)) = fsum (xs.take k) + xs[k].2.2.1.length := by
  unfold fsum
  rw [List.take_succ_eq_append_getElem h, List.map_append, List.sum_append]
  simp
theorem fsum_le (xs : List AskT1) (k : Nat) : fsum (xs.take k) ≤ fsum xs := by
  unfold fsum
  conv => rhs; rw [← List.take_append_drop k xs, List.map_append, List.sum_append]
  omega

theorem few_calls (A : Option Addr) (xs : List AskT1) (n1 c : Nat) (w : World) (s0 : SlM Ask1K 3 40 w A xs n1 c) :
    Calls Try.prog 48 #[.slice A n1 c] w fun e w' => ∃ b, e = .returned (.bool b) ∧ (b = true → fsum xs ≤ 6000) ∧ Fr No w w' := by
  have hlc := s0.cap
  have hre := s0.reach
  have HR := hid (And.intro s0.len s0)
  clear s0
  go_enter Try.func48, Try.ntmps48
  go_wp2_with fail
  go_loopw [3, 8] (fun s i wr => ∃ (k : Nat), k ≤ n1 ∧ i = .int .i64 k ∧ s = .int .i64 ((fsum (xs.take k) : Nat) : Int) ∧ fsum (xs.take k) ≤ 6000 ∧ Fr No w wr) (fun _ i _ => n1 - (intOf i).toNat)
  case atStart => exact ⟨0, by omega, rfl, rfl, by simp [fsum], Fr.refl _ _⟩
  case round =>
    obtain ⟨k, hk, rfl, rfl, h6, hfr⟩ := hrel
    have HF := hid hfr
    by_cases hlt : k < n1
    · obtain ⟨ad, ki, m, ys, A', n', c', rfl, hx, h0, h1, hs, q0, q1, q2⟩ := Ask1K.at HR.out.2 hfr k (by rw [HR.out.1]; exact hlt)
      have hsn := fsum_snoc xs k (by rw [HR.out.1]; exact hlt)
      rw [hx] at hsn
      have hn' := hs.len
      have hnr := hs.reach
      obtain ⟨S, hS⟩ : ∃ S, S = fsum (xs.take k) := ⟨_, rfl⟩
      rw [← hS] at hsn h6 ⊢
      have hsn' : fsum (xs.take (k + 1)) = S + n' := by rw [hsn, ← hn']
      have HS := hid hsn'
      clear hx hs hfr hsn hsn' hS hn' h0 h1
      by_cases g1 : 6000 < S + n'
      · have g1' : (6000 : Int) < (S : Int) + (n' : Int) := by omega
        go_wp2_with fail
        go_ret
        exact ⟨false, rfl, fun h => (by cases h), HF.out.alloc _⟩
      · by_cases g2 : 300 < k
        · have g1' : (S : Int) + (n' : Int) ≤ 6000 := by omega
          have g2' : (300 : Int) < (k : Int) := by omega
          go_wp2_with fail
          go_ret
          exact ⟨false, rfl, fun h => (by cases h), HF.out.alloc _⟩
        · have g1' : (S : Int) + (n' : Int) ≤ 6000 := by omega
          have g2' : (k : Int) ≤ 300 := by omega
          go_wp2_with fail
          go_roundw
          case rel => exact ⟨k + 1, by omega, by go_num, by rw [HS.out]; go_num, by rw [HS.out]; omega, HF.out.alloc _⟩
          case measure => simp [intOf] <;> omega
    · have hge : n1 ≤ k := by omega
      rw [List.take_of_length_le (by rw [HR.out.1]; exact hge)] at h6
      have H6 := hid h6
      clear hlt hfr h6
      go_wp2_with fail
      go_ret
      exact ⟨true, rfl, fun _ => H6.out, HF.out⟩
end Go.Proofs.Ytjmgffiplkkgpaa

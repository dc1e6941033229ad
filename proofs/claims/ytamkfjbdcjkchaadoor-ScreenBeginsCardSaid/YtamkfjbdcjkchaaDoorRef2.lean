/- The contracts of the references of layers 1 and 2, and of what puts numbers into bytes. -/
import Derived.Test.YtamkfjbdcjkchaaDoorOct
import Derived.Lib.ConvBytes
namespace Go.Proofs.YtamkfjbdcjkchaaDoor
open Go.RowKit Go.Proofs.HK
set_option linter.unusedVariables false
set_option linter.unusedSimpArgs false
attribute [local go_sem] max2_int min2_int max_two min_two

theorem u8zero : (Tryd.prog.info? 5).map (·.zero) = some (some (.int .u8 0)) := by kernel_rfl

theorem putLittle_calls (n v : Int) (w : World) (hv : -9223372036854775808 ≤ v ∧ v ≤ 9223372036854775807) :
    Calls Tryd.prog 29 #[.int .i64 n, .int .i64 v] w fun e w' => ∃ x, e = .returned x ∧ New B w w' x (putLE (cut8 n) v) := by
  obtain ⟨N, hN⟩ : ∃ N, N = cut8 n := ⟨_, rfl⟩
  have hmx := cut8_mx n
  rw [← hN] at hmx ⊢
  have hN8 : N ≤ 8 := by rw [hN]; unfold cut8; omega
  clear hN
  go_enter Tryd.func29, Tryd.ntmps29
  go_wp2_with (at_make; refine wpList_mk slU8 u8zero rfl rfl (.tmp 9) (.tmp 9) rfl rfl rfl (n := N) rfl rfl (by omega) (by omega) ?_; intro w1 hrow1 hfr1)
  have HROW1 := hid hrow1
  have HFR1 := hid hfr1
  clear hrow1 hfr1 hmx
  go_loopw [6, 13] (fun _ i wr => ∃ (k : Nat), k ≤ N ∧ i = .int .i64 k ∧
      Row wr 1 (.slice (some ⟨w.heap.size, 0, none⟩) N N) (some w.heap.size) N ((((putLE N v).take k).map B) ++ List.replicate (N - k) (.int .u8 0)) ∧ Fr No w wr)
    (fun _ i _ => N - (intOf i).toNat)
  case atStart => exact ⟨0, by omega, rfl, by simpa using HROW1.out, HFR1.out⟩
  case round =>
    obtain ⟨k, hk, rfl, hrow, hfr⟩ := hrel
    have HROW := hid hrow
    have HFR := hid hfr
    clear hrow hfr HROW1 HFR1
    by_cases hlt : k < N
    · obtain ⟨g, o, old, e1, e2, hc, hf, hr⟩ := HROW.out.set k hlt (.int .u8 (v / 2 ^ (8 * (k)) % 256))
      injection e1 with e1
      injection e1 with e1 e3
      subst e1
      subst e3
      simp only [Nat.zero_add] at hc hf hr
      have HS : Hid (((((putLE N v).take k).map B) ++ List.replicate (N - k) (Value.int .u8 0)).set k (.int .u8 (v / 2 ^ (8 * (k)) % 256)) = ((((putLE N v).take (k + 1)).map B) ++ List.replicate (N - (k + 1)) (.int .u8 0))) := by
        show _ = _
        rw [fill_set _ _ _ _ _ hlt (by rw [List.length_map, List.length_take, putLE_length]; omega), putLE_take _ _ _ hlt, List.map_append, List.map_cons, B_byteOf]; rfl
      have HR := hid hr
      clear hr e2
      go_wp2
      go_roundw
      case rel => exact ⟨k + 1, by omega, by go_num, by rw [← HS.out]; exact HR.out, HFR.out.setCell (fun h => by simp at h) _⟩
      case measure => simp [intOf] <;> omega
    · obtain rfl : k = N := by omega
      have e : (putLE k v).take k = putLE k v := List.take_of_length_le (by rw [putLE_length]; exact Nat.le_refl _)
      have hrow := HROW.out
      rw [e, Nat.sub_self, List.replicate_zero, List.append_nil] at hrow
      have HROW2 := hid hrow
      clear hrow HROW e
      go_wp2
      go_ret
      exact ⟨_, rfl, New.mk' rfl (by rw [putLE_length]) HROW2.out (fun q hq => by injection hq with hq; omega) HFR.out⟩


theorem u8U : Tryd.prog.underlying 5 = some (.int .u8) := Tryd.underlying5
theorem strU : Tryd.prog.underlying 9 = some .string := Tryd.underlying9
theorem same_calls (A A' : Option Addr) (xs ys : List UInt8) (n n' c c' : Nat) (hn : xs.length = n) (hn' : ys.length = n') (w : World) (hx : Rd B w A xs) (hy : Rd B w A' ys) :
    Calls Tryd.prog 11 #[.slice A n c, .slice A' n' c'] w fun e w' => e = .returned (.bool (decide (xs = ys))) ∧ w' = w := by
  have h1 := conv_bytes slU8 u8U strU hx n c hn
  have h2 := conv_bytes slU8 u8U strU hy n' c' hn'
  have H : Hid (((mkS xs).toList == (mkS ys).toList) = decide (xs = ys)) := by
    show _ = _
    rw [mkS_toList, mkS_toList]; by_cases h : xs = ys <;> simp [h]
  clear hx hy hn hn'
  go_enter Tryd.func11, Tryd.ntmps11
  go_wp2
  go_ret
  exact ⟨by rw [← H.out]; rfl, rfl⟩
end Go.Proofs.YtamkfjbdcjkchaaDoor

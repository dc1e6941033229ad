/- The contracts of the references of layers 1 and 2, and of what puts numbers into bytes. -/
import Derived.Test.YtamkfjbdcjkchaaOct
import Derived.Lib.ConvBytes
namespace Go.Proofs.Ytamkfjbdcjkchaa
open Go.RowKit Go.Proofs.HK
set_option linter.unusedVariables false
set_option linter.unusedSimpArgs false
attribute [local go_sem] max2_int min2_int max_two min_two

theorem u8zero : (Try.prog.info? 5).map (·.zero) = some (some (.int .u8 0)) := by kernel_rfl

theorem refNumber_calls (A : Option Addr) (bs : List UInt8) (n0 c : Nat) (hn0 : bs.length = n0) (w : World) (hr : Rd B w A bs) (hl : bs.length ≤ 7) :
    Calls Try.prog 33 #[.slice A n0 c] w fun e w' => e = .returned (.int .i64 (be bs : Nat)) ∧ w' = w := by
  subst hn0
  have HR := hid hr
  clear hr
  go_enter Try.func33, Try.ntmps33
  go_wp2
  go_loop [3, 4] (fun v i => ∃ k : Nat, k ≤ bs.length ∧ i = .int .i64 k ∧ v = .int .i64 (be (bs.take k) : Nat)) (fun _ i => bs.length - (intOf i).toNat)
  case atStart => exact ⟨0, by omega, rfl, rfl⟩
  case round =>
    obtain ⟨k, hk, rfl, rfl⟩ := hrel
    by_cases hlt : k < bs.length
    · obtain ⟨ad, rfl, hc⟩ := HR.out.atN k hlt
      have hb : ((be (bs.take k) : Nat) : Int) < 281474976710656 := by
        have h1 := be_lt (bs.take k)
        have h2 : (bs.take k).length ≤ 6 := by rw [List.length_take]; omega
        have h3 : 256 ^ (bs.take k).length ≤ 256 ^ 6 := Nat.pow_le_pow_right (by omega) h2
        omega
      have hr := B_lt (rdB bs k)
      have hst : be (bs.take (k + 1)) = be (bs.take k) * 256 + (rdB bs k).toNat := by
        rw [take_snocB _ _ hlt, be_snoc]
      have HS := hid hst
      clear hst
      go_wp2
      go_round
      case rel => exact ⟨k + 1, by omega, by go_num, by rw [HS.out]; go_num⟩
      case measure => simp [intOf]; omega
    · obtain rfl : k = bs.length := by omega
      go_wp2
      go_ret
      exact ⟨ri (by simp), rfl⟩

theorem refTurned_calls (A : Option Addr) (bs : List UInt8) (n0 c : Nat) (hn0 : bs.length = n0) (w : World) (hr : Rd B w A bs) (hl : bs.length ≤ 140737488355328) :
    Calls Try.prog 34 #[.slice A n0 c] w fun e w' => ∃ v, e = .returned v ∧ New B w w' v bs.reverse := by
  subst hn0
  have HR := hid hr
  clear hr
  go_enter Try.func34, Try.ntmps34
  go_wp2
  obtain ⟨W0, hW0⟩ : ∃ W0 : World, W0 = w := ⟨_, rfl⟩
  have HW := hid hW0
  clear hW0
  go_loopw [3, 4] (fun v i wr => ∃ (k : Nat) (A1 : Option Addr) (c1 : Nat) (ob1 : Option Nat), k ≤ bs.length ∧ i = .int .i64 ((bs.length : Int) - 1 - k) ∧ v = .slice A1 k c1 ∧
      Row wr 1 (.slice A1 k c1) ob1 k ((bs.reverse.take k).map B) ∧ (∀ q, ob1 = some q → w.heap.size ≤ q) ∧ Fr No w wr)
    (fun _ i _ => (intOf i + 1).toNat)
  case atStart => exact ⟨0, none, 0, none, by omega, by simp, rfl, Row.nil _ _, fun _ h => (by cases h), Fr.refl _ _⟩
  case round =>
    obtain ⟨k, A1, c1, ob1, hk, rfl, rfl, hrow, hob, hfr⟩ := hrel
    have HROW := hid hrow
    have HOB := hid hob
    have HFR := hid hfr
    clear hrow hob hfr
    by_cases hlt : k < bs.length
    · obtain ⟨m, hm⟩ : ∃ m, m = bs.length - 1 - k := ⟨_, rfl⟩
      have hme : ((bs.length : Int) - 1 - k) = (m : Int) := by omega
      obtain ⟨ad, hA, hc⟩ := (HR.out.fr0 HFR.out).atN m (by omega)
      have HM := hid hm
      clear hm
      have hml : (m : Int) < bs.length := by omega
      rw [hme]
      clear hme
      subst hA
      have hst : (bs.reverse.take (k + 1)).map B = (bs.reverse.take k).map B ++ [B (rdB bs m)] := by
        rw [List.take_succ_eq_append_getElem (by simpa using hlt)]
        have := HM.out
        simp [rdB, List.getD, List.getElem_reverse, ← HM.out, List.getElem?_eq_getElem (show m < bs.length by omega)]
      have HS := hid hst
      clear hst
      go_wp2_with (at_builtin; refine wpList_app1 slU8 rfl (.tmp 12) (.tmp 17) rfl rfl HROW.out rfl (m := 1) (c := 1) (ys := [B (rdB bs m)]) rfl (by simp [B, Value.oneCell']) (by omega) (by omega) ?_; intro A2 c2 w2 ob2 hrow2 hfr2 hob2)
      go_roundw
      case rel =>
        rw [← HS.out] at hrow2
        have := HFR.out.size
        refine ⟨k + 1, A2, c2, ob2, by omega, ?_, rfl, hrow2, fun q hq => ?_, HFR.out.fresh hfr2 HOB.out⟩
        · have := HM.out
          go_num
        · rcases hob2 with h | ⟨j, h, hj⟩
          · exact HOB.out q (by rw [← h]; exact hq)
          · rw [h] at hq; injection hq with hq; omega
      case measure => simp [intOf] <;> omega
    · obtain rfl : k = bs.length := by omega
      have e : bs.reverse.take bs.length = bs.reverse := List.take_of_length_le (by simp)
      have hrow := HROW.out
      rw [e] at hrow
      have HROW2 := hid hrow
      clear hrow HROW e
      go_wp2
      go_ret
      exact ⟨_, rfl, New.mk' rfl (by simp) HROW2.out HOB.out HFR.out⟩

theorem refPutLittle_calls (n v : Int) (w : World) (hv : -9223372036854775808 ≤ v ∧ v ≤ 9223372036854775807) :
    Calls Try.prog 36 #[.int .i64 n, .int .i64 v] w fun e w' => ∃ x, e = .returned x ∧ New B w w' x (putLE (cut8 n) v) := by
  go_enter Try.func36, Try.ntmps36
  go_wp2
  obtain ⟨N, hN⟩ : ∃ N, N = cut8 n := ⟨_, rfl⟩
  have HN := hid hN
  clear hN
  go_loopw [1, 5, 6] (fun x u i wr => ∃ (k : Nat) (A1 : Option Addr) (c1 : Nat) (ob1 : Option Nat), k ≤ N ∧ i = .int .i64 k ∧ x = .int .i64 (v / 256 ^ k) ∧ u = .slice A1 k c1 ∧
      Row wr 1 (.slice A1 k c1) ob1 k ((putLE k v).map B) ∧ (∀ q, ob1 = some q → w.heap.size ≤ q) ∧ Fr No w wr)
    (fun _ _ i _ => N - (intOf i).toNat)
  case atStart => exact ⟨0, none, 0, none, by omega, by simp, by simp, rfl, Row.nil _ _, fun _ h => (by cases h), Fr.refl _ _⟩
  case round =>
    obtain ⟨k, A1, c1, ob1, hk, rfl, rfl, rfl, hrow, hob, hfr⟩ := hrel
    have HROW := hid hrow
    have HOB := hid hob
    have HFR := hid hfr
    clear hrow hob hfr
    have HNe := HN.out
    unfold cut8 at HNe
    by_cases hlt : k < N
    · have h1 : (k : Int) < n := by omega
      have h2 : (k : Int) < 8 := by omega
      have h3 : k < 8 := by omega
      clear HNe
      obtain ⟨x, hx⟩ : ∃ x, x = v / 256 ^ k := ⟨_, rfl⟩
      have hxb : -9223372036854775808 ≤ x ∧ x ≤ 9223372036854775807 := by rw [hx]; exact div_bound v hv k
      have HX := hid hx
      rw [← hx]
      clear hx
      have hand := and255 x
      have HS : Hid ((putLE (k + 1) v).map B = (putLE k v).map B ++ [.int .u8 (x % 256)]) := by
        show _ = _
        rw [putLE_snoc, List.map_append, ← HX.out, List.map_cons, B_byteOf]; rfl
      go_wp2_with (at_builtin; refine wpList_app1 slU8 rfl (.tmp 16) (.tmp 20) rfl rfl HROW.out rfl (m := 1) (c := 1) (ys := [.int .u8 (x % 256)]) rfl (by simp [Value.oneCell']) (by omega) (by omega) ?_; intro A2 c2 w2 ob2 hrow2 hfr2 hob2)
      go_roundw
      case rel =>
        rw [← HS.out] at hrow2
        have := HFR.out.size
        refine ⟨k + 1, A2, c2, ob2, by omega, by go_num, by rw [div_succ, ← HX.out], rfl, hrow2, fun q hq => ?_, HFR.out.fresh hfr2 HOB.out⟩
        rcases hob2 with h | ⟨j, h, hj⟩
        · exact HOB.out q (by rw [← h]; exact hq)
        · rw [h] at hq; injection hq with hq; omega
      case measure => simp [intOf] <;> omega
    · obtain rfl : k = N := by omega
      have hnl : ¬ ((k : Int) < n ∧ (k : Int) < 8) := by omega
      by_cases h1 : (k : Int) < n
      · have h2 : ¬ (k : Int) < 8 := by omega
        clear HNe hnl
        go_wp2
        go_ret
        exact ⟨_, rfl, New.mk' rfl (by rw [← HN.out, putLE_length]) (by rw [← HN.out]; exact HROW.out) HOB.out HFR.out⟩
      · clear HNe hnl
        go_wp2
        go_ret
        exact ⟨_, rfl, New.mk' rfl (by rw [← HN.out, putLE_length]) (by rw [← HN.out]; exact HROW.out) HOB.out HFR.out⟩

theorem refPutBig_calls (n v : Int) (w : World) (hv : -9223372036854775808 ≤ v ∧ v ≤ 9223372036854775807) :
    Calls Try.prog 26 #[.int .i64 n, .int .i64 v] w fun e w' => ∃ x, e = .returned x ∧ New B w w' x (putBE (cut8 n) v) := by
  go_enter Try.func26, Try.ntmps26
  go_wp2_with fail
  refine (refPutLittle_calls n v _ hv).mono ?_
  rintro e w1 ⟨x, rfl, hnew⟩
  obtain ⟨A1, n1, c1, ob1, rfl, hn1, hrow1, hob1, hfr1⟩ := hnew.open
  clear hnew
  obtain ⟨r1, r2, r3, _⟩ := hrow1.rd
  have HH := hid (And.intro hrow1 (And.intro hob1 hfr1))
  have HN1 := hid hn1
  clear hrow1 hob1 hfr1 hn1
  go_wp2_with fail
  refine (refTurned_calls _ _ _ _ HN1.out _ r1 (by rw [putLE_length]; unfold cut8; omega)).mono ?_
  rintro e w2 ⟨x, rfl, hnew⟩
  obtain ⟨A2, n2, c2, ob2, rfl, hn2, hrow2, hob2, hfr2⟩ := hnew.open
  clear hnew
  have HN2 := hid hn2
  clear hn2
  go_wp2
  go_ret
  have := HH.out.2.2.size
  exact ⟨_, rfl, New.mk' rfl HN2.out hrow2 (fun k hk => by have := hob2 k hk; omega) (HH.out.2.2.then hfr2)⟩


theorem putBig_calls (n v : Int) (w : World) (hv : -9223372036854775808 ≤ v ∧ v ≤ 9223372036854775807) :
    Calls Try.prog 51 #[.int .i64 n, .int .i64 v] w fun e w' => ∃ x, e = .returned x ∧ New B w w' x (putBE (cut8 n) v) := by
  obtain ⟨N, hN⟩ : ∃ N, N = cut8 n := ⟨_, rfl⟩
  have hmx := cut8_mx n
  rw [← hN] at hmx ⊢
  have hN8 : N ≤ 8 := by rw [hN]; unfold cut8; omega
  clear hN
  go_enter Try.func51, Try.ntmps51
  go_wp2_with (at_make; refine wpList_mk slU8 u8zero rfl rfl (.tmp 10) (.tmp 10) rfl rfl rfl (n := N) rfl rfl (by omega) (by omega) ?_; intro w1 hrow1 hfr1)
  have HROW1 := hid hrow1
  have HFR1 := hid hfr1
  clear hrow1 hfr1 hmx
  go_loopw [6, 14] (fun _ i wr => ∃ (k : Nat), k ≤ N ∧ i = .int .i64 k ∧
      Row wr 1 (.slice (some ⟨w.heap.size, 0, none⟩) N N) (some w.heap.size) N ((((putBE N v).take k).map B) ++ List.replicate (N - k) (.int .u8 0)) ∧ Fr No w wr)
    (fun _ i _ => N - (intOf i).toNat)
  case atStart => exact ⟨0, by omega, rfl, by simpa using HROW1.out, HFR1.out⟩
  case round =>
    obtain ⟨k, hk, rfl, hrow, hfr⟩ := hrel
    have HROW := hid hrow
    have HFR := hid hfr
    clear hrow hfr HROW1 HFR1
    by_cases hlt : k < N
    · obtain ⟨g, o, old, e1, e2, hc, hf, hr⟩ := HROW.out.set k hlt (.int .u8 (v / 2 ^ (8 * (N - 1 - k)) % 256))
      injection e1 with e1
      injection e1 with e1 e3
      subst e1
      subst e3
      simp only [Nat.zero_add] at hc hf hr
      have HS : Hid (((((putBE N v).take k).map B) ++ List.replicate (N - k) (Value.int .u8 0)).set k (.int .u8 (v / 2 ^ (8 * (N - 1 - k)) % 256)) = ((((putBE N v).take (k + 1)).map B) ++ List.replicate (N - (k + 1)) (.int .u8 0))) := by
        show _ = _
        rw [fill_set _ _ _ _ _ hlt (by rw [List.length_map, List.length_take, putBE_length]; omega), putBE_take _ _ _ hlt, List.map_append, List.map_cons, B_byteOf]; rfl
      have HR := hid hr
      clear hr e2
      go_wp2
      go_roundw
      case rel => exact ⟨k + 1, by omega, by go_num, by rw [← HS.out]; exact HR.out, HFR.out.setCell (fun h => by simp at h) _⟩
      case measure => simp [intOf] <;> omega
    · obtain rfl : k = N := by omega
      have e : (putBE k v).take k = putBE k v := List.take_of_length_le (by rw [putBE_length]; exact Nat.le_refl _)
      have hrow := HROW.out
      rw [e, Nat.sub_self, List.replicate_zero, List.append_nil] at hrow
      have HROW2 := hid hrow
      clear hrow HROW e
      go_wp2
      go_ret
      exact ⟨_, rfl, New.mk' rfl (by rw [putBE_length]) HROW2.out (fun q hq => by injection hq with hq; omega) HFR.out⟩

theorem putLittle_calls (n v : Int) (w : World) (hv : -9223372036854775808 ≤ v ∧ v ≤ 9223372036854775807) :
    Calls Try.prog 21 #[.int .i64 n, .int .i64 v] w fun e w' => ∃ x, e = .returned x ∧ New B w w' x (putLE (cut8 n) v) := by
  obtain ⟨N, hN⟩ : ∃ N, N = cut8 n := ⟨_, rfl⟩
  have hmx := cut8_mx n
  rw [← hN] at hmx ⊢
  have hN8 : N ≤ 8 := by rw [hN]; unfold cut8; omega
  clear hN
  go_enter Try.func21, Try.ntmps21
  go_wp2_with (at_make; refine wpList_mk slU8 u8zero rfl rfl (.tmp 9) (.tmp 9) rfl rfl rfl (n := N) rfl rfl (by omega) (by omega) ?_; intro w1 hrow1 hfr1)
  have HROW1 := hid hrow1
  have HFR1 := hid hfr1
  clear hrow1 hfr1 hmx
  go_loopw [6, 13] (fun _ i wr => ∃ (k : Nat), k ≤ N ∧ i = .int .i64 k ∧
      Row wr 1 (.slice (some ⟨w.heap.size, 0, none⟩) N N) (some w.heap.size) N ((((putLE N v).take k).map B) ++ List.replicate (N - k) (.int .u8 0)) ∧ Fr No w wr)
    (fun _ i _ => N - (intOf i).toNat)
  case atStart => exact ⟨0, by omega, rfl, by simpa using HROW1.out, HFR1.out⟩
  case round =>
    obtain ⟨k, hk, rfl, hrow, hfr⟩ := hrel
    have HROW := hid hrow
    have HFR := hid hfr
    clear hrow hfr HROW1 HFR1
    by_cases hlt : k < N
    · obtain ⟨g, o, old, e1, e2, hc, hf, hr⟩ := HROW.out.set k hlt (.int .u8 (v / 2 ^ (8 * (k)) % 256))
      injection e1 with e1
      injection e1 with e1 e3
      subst e1
      subst e3
      simp only [Nat.zero_add] at hc hf hr
      have HS : Hid (((((putLE N v).take k).map B) ++ List.replicate (N - k) (Value.int .u8 0)).set k (.int .u8 (v / 2 ^ (8 * (k)) % 256)) = ((((putLE N v).take (k + 1)).map B) ++ List.replicate (N - (k + 1)) (.int .u8 0))) := by
        show _ = _
        rw [fill_set _ _ _ _ _ hlt (by rw [List.length_map, List.length_take, putLE_length]; omega), putLE_take _ _ _ hlt, List.map_append, List.map_cons, B_byteOf]; rfl
      have HR := hid hr
      clear hr e2
      go_wp2
      go_roundw
      case rel => exact ⟨k + 1, by omega, by go_num, by rw [← HS.out]; exact HR.out, HFR.out.setCell (fun h => by simp at h) _⟩
      case measure => simp [intOf] <;> omega
    · obtain rfl : k = N := by omega
      have e : (putLE k v).take k = putLE k v := List.take_of_length_le (by rw [putLE_length]; exact Nat.le_refl _)
      have hrow := HROW.out
      rw [e, Nat.sub_self, List.replicate_zero, List.append_nil] at hrow
      have HROW2 := hid hrow
      clear hrow HROW e
      go_wp2
      go_ret
      exact ⟨_, rfl, New.mk' rfl (by rw [putLE_length]) HROW2.out (fun q hq => by injection hq with hq; omega) HFR.out⟩


theorem u8U : Try.prog.underlying 5 = some (.int .u8) := Try.underlying5
theorem strU : Try.prog.underlying 9 = some .string := Try.underlying9
theorem same_calls (A A' : Option Addr) (xs ys : List UInt8) (n n' c c' : Nat) (hn : xs.length = n) (hn' : ys.length = n') (w : World) (hx : Rd B w A xs) (hy : Rd B w A' ys) :
    Calls Try.prog 11 #[.slice A n c, .slice A' n' c'] w fun e w' => e = .returned (.bool (decide (xs = ys))) ∧ w' = w := by
  have h1 := conv_bytes slU8 u8U strU hx n c hn
  have h2 := conv_bytes slU8 u8U strU hy n' c' hn'
  have H : Hid (((mkS xs).toList == (mkS ys).toList) = decide (xs = ys)) := by
    show _ = _
    rw [mkS_toList, mkS_toList]; by_cases h : xs = ys <;> simp [h]
  clear hx hy hn hn'
  go_enter Try.func11, Try.ntmps11
  go_wp2
  go_ret
  exact ⟨by rw [← H.out]; rfl, rfl⟩
end Go.Proofs.Ytamkfjbdcjkchaa

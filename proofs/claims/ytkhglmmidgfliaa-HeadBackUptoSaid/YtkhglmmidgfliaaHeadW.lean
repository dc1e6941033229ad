/- The contracts of head.WriteClear and of the document's, and HeadWrites' walk. -/
import Derived.Test.YtkhglmmidgfliaaHLaw
import Derived.Test.YtkhglmmidgfliaaRef2
import Derived.Deep.RegionHeld3
namespace Go.Proofs.Ytkhglmmidgfliaa
open Go.RowKit Go.Proofs.HK
set_option linter.unusedVariables false
set_option linter.unusedSimpArgs false
attribute [local go_sem] max2_int min2_int max_two min_two

/-- What covers nothing, or less, written. -/
def wcS (C : Int) (al cl : List Int) : List UInt8 := if C = 3 then al.map HK.byteOf else if C = 0 ∨ C = 2 then cl.flatMap (putBE 2) else []
def I64s (xs : List Int) : Prop := ∀ i (h : i < xs.length), -9223372036854775808 ≤ xs[i] ∧ xs[i] ≤ 9223372036854775807
theorem cut8_2 : cut8 2 = 2 := by decide
theorem wcS_nil {C : Int} (al cl : List Int) (h3 : C ≠ 3) (h0 : C ≠ 0) (h2 : C ≠ 2) : wcS C al cl = [] := by
  unfold wcS; rw [if_neg h3, if_neg (by rintro (h | h) <;> contradiction)]
theorem wcS_two {C : Int} (al cl : List Int) (h : C = 0 ∨ C = 2) : wcS C al cl = cl.flatMap (putBE 2) := by
  unfold wcS; rw [if_neg (by rcases h with rfl | rfl <;> decide), if_pos h]
theorem take_flat (l : List Int) (k : Nat) (h : k < l.length) : (l.take (k + 1)).flatMap (putBE 2) = (l.take k).flatMap (putBE 2) ++ putBE 2 l[k] := by
  rw [List.take_succ_eq_append_getElem h, List.flatMap_append]; simp
theorem put2_length (l : List Int) : (l.flatMap (putBE 2)).length = 2 * l.length := by
  induction l with
  | nil => rfl
  | cons a l ih => rw [List.flatMap_cons, List.length_append, ih, putBE_length, List.length_cons]; omega


set_option maxRecDepth 100000 in
set_option maxHeartbeats 1600000 in
theorem writeClear_calls (W H C D : Int) (L : Bool) (A : Option Addr) (al : List Int) (n c : Nat) (A' : Option Addr) (cl : List Int) (n' c' : Nat) (w : World) (hn : al.length = n) (hr : Rd II w A al) (hn' : cl.length = n') (hr' : Rd II w A' cl) (hb : I64s cl)
    (hl : n ≤ 17592186043904) (hl' : n' ≤ 17592186043904) :
    Calls Try.prog 33 #[headV W H C D L, .slice A n c, .slice A' n' c'] w fun e w' => ∃ v, e = .returned v ∧ New B w w' v (wcS C al cl) := by
  have HR := hid (And.intro hn (And.intro hr (And.intro hn' (And.intro hr' hb))))
  clear hn hr hn' hr' hb
  by_cases h3 : C = 3
  · have HS := hid (show wcS C al cl = al.map HK.byteOf from if_pos h3)
    subst h3
    unfold headV
    go_enter Try.func33, Try.ntmps33
    go_wp2_with fail
    obtain ⟨W0, hW0⟩ : ∃ W0, W0 = w.alloc (.cells #[.int .i64 W, .int .i64 H, .int .i64 3, .int .i64 D, .bool L] 33) := ⟨_, rfl⟩
    have hf0 : Fr No w W0 := by rw [hW0]; exact (Fr.refl _ _).alloc _
    have hc2 : W0.cell? ⟨w.heap.size, 2, none⟩ = some (.int .i64 3) := by rw [hW0]; exact cell_new1 _ _ _ 2 _ rfl
    rw [← hW0]
    obtain ⟨g, hgg⟩ : ∃ g, g = w.heap.size := ⟨_, rfl⟩
    have hgs : g < W0.heap.size := lt_of_cell (a := ⟨g, 2, none⟩) (by rw [hgg]; exact hc2)
    rw [← hgg] at hc2 ⊢
    have HF0 := hid (And.intro hf0 (And.intro hc2 (And.intro hgs hgg)))
    clear hW0 hf0 hgs hgg
    go_loopw [7, 18] (fun v i wr => ∃ (k : Nat) (A1 : Option Addr) (c1 : Nat) (ob1 : Option Nat), k ≤ n ∧ i = .int .i64 k ∧ v = .slice A1 k c1 ∧
        Row wr 1 (.slice A1 k c1) ob1 k (((al.take k).map HK.byteOf).map B) ∧ (∀ q, ob1 = some q → W0.heap.size ≤ q) ∧ Fr No W0 wr)
      (fun _ i _ => n - (intOf i).toNat)
    case atStart => exact ⟨0, none, 0, none, by omega, rfl, rfl, Row.nil _ _, fun _ h => (by cases h), Fr.refl _ _⟩
    case round =>
      obtain ⟨k, A1, c1, ob1, hk, rfl, rfl, h1, h2, h3⟩ := hrel
      have HREL := hid (And.intro h1 (And.intro h2 h3))
      clear h1 h2 h3
      by_cases hlt : k < n
      · have hlt' : k < al.length := by rw [HR.out.1]; exact hlt
        obtain ⟨ad, rfl, hc⟩ := ((HR.out.2.1.fr0 HF0.out.1).fr0 HREL.out.2.2) (by omega)
        have hcell : _ = some (Value.int .i64 (al[k]'hlt')) := hc k hlt'
        obtain ⟨x, hx⟩ : ∃ x, x = al[k]'hlt' := ⟨_, rfl⟩
        rw [← hx] at hcell
        have hst : ((al.take (k + 1)).map HK.byteOf).map B = ((al.take k).map HK.byteOf).map B ++ [.int .u8 (x % 256)] := by
          rw [List.take_succ_eq_append_getElem hlt', List.map_append, List.map_append, ← hx, List.map_cons, List.map_cons, B_byteOf]; rfl
        have HS2 := hid hst
        clear hst hx hc
        go_wp2_with (at_builtin; refine wpList_app1 slU8 rfl (.tmp 22) (.tmp 25) rfl rfl HREL.out.1 rfl (m := 1) (c := 1) (ys := [.int .u8 (x % 256)]) rfl (by simp [Value.oneCell']) (by omega) (by omega) ?_; intro A2 c2 w2 ob2 hrow2 hfr2 hob2)
        go_roundw
        case rel =>
          rw [← HS2.out] at hrow2
          have := HREL.out.2.2.size
          refine ⟨k + 1, A2, c2, ob2, by omega, by go_num, rfl, hrow2, fun q hq => ?_, HREL.out.2.2.fresh hfr2 HREL.out.2.1⟩
          rcases hob2 with h | ⟨j, h, hj⟩
          · exact HREL.out.2.1 q (by rw [← h]; exact hq)
          · rw [h] at hq; injection hq with hq; omega
        case measure => simp [intOf] <;> omega
      · obtain rfl : n = k := by omega
        clear hlt
        have h1 := HREL.out.1
        rw [List.take_of_length_le (by rw [HR.out.1]; exact Nat.le_refl _), ← HS.out] at h1
        have HO := hid (And.intro h1 (And.intro HREL.out.2.1 HREL.out.2.2))
        have hc2' := (HREL.out.2.2.cellg g 2 HF0.out.2.2.1 (fun h => h)).trans hc2
        clear h1
        go_wp2_with fail
        go_ret
        exact ⟨_, rfl, New.mk' rfl (by rw [HS.out, List.length_map, HR.out.1]) HO.out.1 (fun q hq => Nat.le_trans HF0.out.1.size (HO.out.2.1 q hq)) (HF0.out.1.then HO.out.2.2)⟩
  by_cases h02 : C = 0 ∨ C = 2
  · have HS := hid (wcS_two al cl h02)
    clear h3
    rcases h02 with rfl | rfl
    · unfold headV
      go_enter Try.func33, Try.ntmps33
      go_wp2_with fail
      obtain ⟨W0, hW0⟩ : ∃ W0, W0 = w.alloc (.cells #[.int .i64 W, .int .i64 H, .int .i64 0, .int .i64 D, .bool L] 33) := ⟨_, rfl⟩
      have hf0 : Fr No w W0 := by rw [hW0]; exact (Fr.refl _ _).alloc _
      have hc2 : W0.cell? ⟨w.heap.size, 2, none⟩ = some (.int .i64 0) := by rw [hW0]; exact cell_new1 _ _ _ 2 _ rfl
      rw [← hW0]
      have HF0 := hid hf0
      clear hW0 hf0
      go_loopw [7, 33] (fun v i wr => ∃ (k : Nat) (A1 : Option Addr) (c1 : Nat) (ob1 : Option Nat), k ≤ n' ∧ i = .int .i64 k ∧ v = .slice A1 (2 * k) c1 ∧
          Row wr 1 (.slice A1 (2 * k) c1) ob1 (2 * k) (((cl.take k).flatMap (putBE 2)).map B) ∧ (∀ q, ob1 = some q → w.heap.size ≤ q) ∧ Fr No w wr)
        (fun _ i _ => n' - (intOf i).toNat)
      case atStart => exact ⟨0, none, 0, none, by omega, rfl, rfl, Row.nil _ _, fun _ h => (by cases h), HF0.out⟩
      case round =>
        obtain ⟨k, A1, c1, ob1, hk, rfl, rfl, h1, h2, h3⟩ := hrel
        have HREL := hid (And.intro h1 (And.intro h2 h3))
        clear h1 h2 h3
        by_cases hlt : k < n'
        · have hlt' : k < cl.length := by rw [HR.out.2.2.1]; exact hlt
          obtain ⟨ad, rfl, hc⟩ := (HR.out.2.2.2.1.fr0 HREL.out.2.2) (by omega)
          have hcell : _ = some (Value.int .i64 (cl[k]'hlt')) := hc k hlt'
          obtain ⟨x, hx⟩ : ∃ x, x = cl[k]'hlt' := ⟨_, rfl⟩
          rw [← hx] at hcell
          have hst : ((cl.take (k + 1)).flatMap (putBE 2)).map B = ((cl.take k).flatMap (putBE 2)).map B ++ (putBE 2 x).map B := by
            rw [take_flat _ _ hlt', List.map_append, ← hx]
          have hxb : -9223372036854775808 ≤ x ∧ x ≤ 9223372036854775807 := by rw [hx]; exact HR.out.2.2.2.2 k hlt'
          have HS2 := hid (And.intro hst hxb)
          clear hst hx hc hxb
          go_wp2_with fail
          refine (putBig_calls 2 x _ HS2.out.2).mono ?_
          rw [cut8_2]
          rintro e w1 ⟨v, rfl, hnew⟩
          obtain ⟨A2, n2, c2, rfl, N2⟩ := hnew.use
          obtain rfl : n2 = 2 := by rw [← N2.out.1, putBE_length]
          go_wp2_with (at_builtin; refine wpList_app slU8 rfl (.tmp 37) (.tmp 39) rfl rfl (HREL.out.1.fr N2.out.2.2.2.1 (fun _ _ h => h)) rfl (by rw [List.length_map, N2.out.1]) (Rd.cells.1 N2.out.2.1) (oneB _) (by omega) (by omega) ?_; intro A3 c3 w3 ob3 hrow3 hfr3 hob3)
          go_roundw
          case rel =>
            rw [← HS2.out.1] at hrow3
            have := HREL.out.2.2.size
            have := N2.out.2.2.2.1.size
            refine ⟨k + 1, A3, c3, ob3, by omega, by go_num, by rw [show 2 * (k + 1) = 2 * k + 2 by omega], hrow3, fun q hq => ?_, (HREL.out.2.2.then N2.out.2.2.2.1).fresh hfr3 HREL.out.2.1⟩
            rcases hob3 with h | ⟨j, h, hj⟩
            · exact HREL.out.2.1 q (by rw [← h]; exact hq)
            · rw [h] at hq; injection hq with hq; omega
          case measure => simp [intOf] <;> omega
        · obtain rfl : n' = k := by omega
          clear hlt
          have h1 := HREL.out.1
          rw [List.take_of_length_le (by rw [HR.out.2.2.1]; exact Nat.le_refl _), ← HS.out] at h1
          have HO := hid (And.intro h1 (And.intro HREL.out.2.1 HREL.out.2.2))
          clear h1
          go_wp2_with fail
          go_ret
          exact ⟨_, rfl, New.mk' rfl (by rw [HS.out, put2_length, HR.out.2.2.1]) HO.out.1 HO.out.2.1 HO.out.2.2⟩
    · unfold headV
      go_enter Try.func33, Try.ntmps33
      go_wp2_with fail
      obtain ⟨W0, hW0⟩ : ∃ W0, W0 = w.alloc (.cells #[.int .i64 W, .int .i64 H, .int .i64 2, .int .i64 D, .bool L] 33) := ⟨_, rfl⟩
      have hf0 : Fr No w W0 := by rw [hW0]; exact (Fr.refl _ _).alloc _
      have hc2 : W0.cell? ⟨w.heap.size, 2, none⟩ = some (.int .i64 2) := by rw [hW0]; exact cell_new1 _ _ _ 2 _ rfl
      rw [← hW0]
      have HF0 := hid hf0
      clear hW0 hf0
      go_loopw [7, 33] (fun v i wr => ∃ (k : Nat) (A1 : Option Addr) (c1 : Nat) (ob1 : Option Nat), k ≤ n' ∧ i = .int .i64 k ∧ v = .slice A1 (2 * k) c1 ∧
          Row wr 1 (.slice A1 (2 * k) c1) ob1 (2 * k) (((cl.take k).flatMap (putBE 2)).map B) ∧ (∀ q, ob1 = some q → w.heap.size ≤ q) ∧ Fr No w wr)
        (fun _ i _ => n' - (intOf i).toNat)
      case atStart => exact ⟨0, none, 0, none, by omega, rfl, rfl, Row.nil _ _, fun _ h => (by cases h), HF0.out⟩
      case round =>
        obtain ⟨k, A1, c1, ob1, hk, rfl, rfl, h1, h2, h3⟩ := hrel
        have HREL := hid (And.intro h1 (And.intro h2 h3))
        clear h1 h2 h3
        by_cases hlt : k < n'
        · have hlt' : k < cl.length := by rw [HR.out.2.2.1]; exact hlt
          obtain ⟨ad, rfl, hc⟩ := (HR.out.2.2.2.1.fr0 HREL.out.2.2) (by omega)
          have hcell : _ = some (Value.int .i64 (cl[k]'hlt')) := hc k hlt'
          obtain ⟨x, hx⟩ : ∃ x, x = cl[k]'hlt' := ⟨_, rfl⟩
          rw [← hx] at hcell
          have hst : ((cl.take (k + 1)).flatMap (putBE 2)).map B = ((cl.take k).flatMap (putBE 2)).map B ++ (putBE 2 x).map B := by
            rw [take_flat _ _ hlt', List.map_append, ← hx]
          have hxb : -9223372036854775808 ≤ x ∧ x ≤ 9223372036854775807 := by rw [hx]; exact HR.out.2.2.2.2 k hlt'
          have HS2 := hid (And.intro hst hxb)
          clear hst hx hc hxb
          go_wp2_with fail
          refine (putBig_calls 2 x _ HS2.out.2).mono ?_
          rw [cut8_2]
          rintro e w1 ⟨v, rfl, hnew⟩
          obtain ⟨A2, n2, c2, rfl, N2⟩ := hnew.use
          obtain rfl : n2 = 2 := by rw [← N2.out.1, putBE_length]
          go_wp2_with (at_builtin; refine wpList_app slU8 rfl (.tmp 37) (.tmp 39) rfl rfl (HREL.out.1.fr N2.out.2.2.2.1 (fun _ _ h => h)) rfl (by rw [List.length_map, N2.out.1]) (Rd.cells.1 N2.out.2.1) (oneB _) (by omega) (by omega) ?_; intro A3 c3 w3 ob3 hrow3 hfr3 hob3)
          go_roundw
          case rel =>
            rw [← HS2.out.1] at hrow3
            have := HREL.out.2.2.size
            have := N2.out.2.2.2.1.size
            refine ⟨k + 1, A3, c3, ob3, by omega, by go_num, by rw [show 2 * (k + 1) = 2 * k + 2 by omega], hrow3, fun q hq => ?_, (HREL.out.2.2.then N2.out.2.2.2.1).fresh hfr3 HREL.out.2.1⟩
            rcases hob3 with h | ⟨j, h, hj⟩
            · exact HREL.out.2.1 q (by rw [← h]; exact hq)
            · rw [h] at hq; injection hq with hq; omega
          case measure => simp [intOf] <;> omega
        · obtain rfl : n' = k := by omega
          clear hlt
          have h1 := HREL.out.1
          rw [List.take_of_length_le (by rw [HR.out.2.2.1]; exact Nat.le_refl _), ← HS.out] at h1
          have HO := hid (And.intro h1 (And.intro HREL.out.2.1 HREL.out.2.2))
          clear h1
          go_wp2_with fail
          go_ret
          exact ⟨_, rfl, New.mk' rfl (by rw [HS.out, put2_length, HR.out.2.2.1]) HO.out.1 HO.out.2.1 HO.out.2.2⟩
  · have HS := hid (wcS_nil al cl h3 (fun h => h02 (.inl h)) (fun h => h02 (.inr h)))
    have hb3 : (C == 3) = false := by simpa using h3
    have hb0 : (C == 0) = false := by simp; omega
    have hb2 : (C == 2) = false := by simp; omega
    clear h3 h02
    unfold headV
    go_enter Try.func33, Try.ntmps33
    go_wp2
    go_ret
    refine ⟨_, rfl, ?_⟩
    rw [HS.out]
    exact ⟨NewR.nil, (Fr.refl _ _).alloc _⟩

set_option maxRecDepth 100000 in
set_option maxHeartbeats 1600000 in
theorem refWriteClear_calls (W H C D : Int) (L : Bool) (A : Option Addr) (al : List Int) (n c : Nat) (A' : Option Addr) (cl : List Int) (n' c' : Nat) (w : World) (hn : al.length = n) (hr : Rd II w A al) (hn' : cl.length = n') (hr' : Rd II w A' cl) (hb : I64s cl)
    (hl : n ≤ 17592186043904) (hl' : n' ≤ 17592186043904) :
    Calls Try.prog 34 #[headV W H C D L, .slice A n c, .slice A' n' c'] w fun e w' => ∃ v, e = .returned v ∧ New B w w' v (wcS C al cl) := by
  have HR := hid (And.intro hn (And.intro hr (And.intro hn' (And.intro hr' hb))))
  clear hn hr hn' hr' hb
  by_cases h3 : C = 3
  · have HS := hid (show wcS C al cl = al.map HK.byteOf from if_pos h3)
    subst h3
    unfold headV
    go_enter Try.func34, Try.ntmps34
    go_wp2_with fail
    obtain ⟨W0, hW0⟩ : ∃ W0, W0 = w.alloc (.cells #[.int .i64 W, .int .i64 H, .int .i64 3, .int .i64 D, .bool L] 33) := ⟨_, rfl⟩
    have hf0 : Fr No w W0 := by rw [hW0]; exact (Fr.refl _ _).alloc _
    have hc2 : W0.cell? ⟨w.heap.size, 2, none⟩ = some (.int .i64 3) := by rw [hW0]; exact cell_new1 _ _ _ 2 _ rfl
    rw [← hW0]
    obtain ⟨g, hgg⟩ : ∃ g, g = w.heap.size := ⟨_, rfl⟩
    have hgs : g < W0.heap.size := lt_of_cell (a := ⟨g, 2, none⟩) (by rw [hgg]; exact hc2)
    rw [← hgg] at hc2 ⊢
    have HF0 := hid (And.intro hf0 (And.intro hc2 (And.intro hgs hgg)))
    clear hW0 hf0 hgs hgg
    go_loopw [7, 17] (fun v i wr => ∃ (k : Nat) (A1 : Option Addr) (c1 : Nat) (ob1 : Option Nat), k ≤ n ∧ i = .int .i64 k ∧ v = .slice A1 k c1 ∧
        Row wr 1 (.slice A1 k c1) ob1 k (((al.take k).map HK.byteOf).map B) ∧ (∀ q, ob1 = some q → W0.heap.size ≤ q) ∧ Fr No W0 wr)
      (fun _ i _ => n - (intOf i).toNat)
    case atStart => exact ⟨0, none, 0, none, by omega, rfl, rfl, Row.nil _ _, fun _ h => (by cases h), Fr.refl _ _⟩
    case round =>
      obtain ⟨k, A1, c1, ob1, hk, rfl, rfl, h1, h2, h3⟩ := hrel
      have HREL := hid (And.intro h1 (And.intro h2 h3))
      clear h1 h2 h3
      by_cases hlt : k < n
      · have hlt' : k < al.length := by rw [HR.out.1]; exact hlt
        obtain ⟨ad, rfl, hc⟩ := ((HR.out.2.1.fr0 HF0.out.1).fr0 HREL.out.2.2) (by omega)
        have hcell : _ = some (Value.int .i64 (al[k]'hlt')) := hc k hlt'
        obtain ⟨x, hx⟩ : ∃ x, x = al[k]'hlt' := ⟨_, rfl⟩
        rw [← hx] at hcell
        have hst : ((al.take (k + 1)).map HK.byteOf).map B = ((al.take k).map HK.byteOf).map B ++ [.int .u8 (x % 256)] := by
          rw [List.take_succ_eq_append_getElem hlt', List.map_append, List.map_append, ← hx, List.map_cons, List.map_cons, B_byteOf]; rfl
        have HS2 := hid hst
        clear hst hx hc
        go_wp2_with (at_builtin; simp only [and255, IntKind.wrap_u8, Int.emod_emod_of_dvd, Int.emod_emod]; refine wpList_app1 slU8 rfl (.tmp 21) (.tmp 25) rfl rfl HREL.out.1 rfl (m := 1) (c := 1) (ys := [.int .u8 (x % 256)]) rfl (by simp [Value.oneCell']) (by omega) (by omega) ?_; intro A2 c2 w2 ob2 hrow2 hfr2 hob2)
        go_roundw
        case rel =>
          rw [← HS2.out] at hrow2
          have := HREL.out.2.2.size
          refine ⟨k + 1, A2, c2, ob2, by omega, by go_num, rfl, hrow2, fun q hq => ?_, HREL.out.2.2.fresh hfr2 HREL.out.2.1⟩
          rcases hob2 with h | ⟨j, h, hj⟩
          · exact HREL.out.2.1 q (by rw [← h]; exact hq)
          · rw [h] at hq; injection hq with hq; omega
        case measure => simp [intOf] <;> omega
      · obtain rfl : n = k := by omega
        clear hlt
        have h1 := HREL.out.1
        rw [List.take_of_length_le (by rw [HR.out.1]; exact Nat.le_refl _), ← HS.out] at h1
        have HO := hid (And.intro h1 (And.intro HREL.out.2.1 HREL.out.2.2))
        have hc2' := (HREL.out.2.2.cellg g 2 HF0.out.2.2.1 (fun h => h)).trans hc2
        clear h1
        go_wp2_with fail
        go_ret
        exact ⟨_, rfl, New.mk' rfl (by rw [HS.out, List.length_map, HR.out.1]) HO.out.1 (fun q hq => Nat.le_trans HF0.out.1.size (HO.out.2.1 q hq)) (HF0.out.1.then HO.out.2.2)⟩
  by_cases h02 : C = 0 ∨ C = 2
  · have HS := hid (wcS_two al cl h02)
    clear h3
    rcases h02 with rfl | rfl
    · unfold headV
      go_enter Try.func34, Try.ntmps34
      go_wp2_with fail
      obtain ⟨W0, hW0⟩ : ∃ W0, W0 = w.alloc (.cells #[.int .i64 W, .int .i64 H, .int .i64 0, .int .i64 D, .bool L] 33) := ⟨_, rfl⟩
      have hf0 : Fr No w W0 := by rw [hW0]; exact (Fr.refl _ _).alloc _
      have hc2 : W0.cell? ⟨w.heap.size, 2, none⟩ = some (.int .i64 0) := by rw [hW0]; exact cell_new1 _ _ _ 2 _ rfl
      rw [← hW0]
      have HF0 := hid hf0
      clear hW0 hf0
      go_loopw [7, 38] (fun v i wr => ∃ (k : Nat) (A1 : Option Addr) (c1 : Nat) (ob1 : Option Nat), k ≤ n' ∧ i = .int .i64 k ∧ v = .slice A1 (2 * k) c1 ∧
          Row wr 1 (.slice A1 (2 * k) c1) ob1 (2 * k) (((cl.take k).flatMap (putBE 2)).map B) ∧ (∀ q, ob1 = some q → w.heap.size ≤ q) ∧ Fr No w wr)
        (fun _ i _ => n' - (intOf i).toNat)
      case atStart => exact ⟨0, none, 0, none, by omega, rfl, rfl, Row.nil _ _, fun _ h => (by cases h), HF0.out⟩
      case round =>
        obtain ⟨k, A1, c1, ob1, hk, rfl, rfl, h1, h2, h3⟩ := hrel
        have HREL := hid (And.intro h1 (And.intro h2 h3))
        clear h1 h2 h3
        by_cases hlt : k < n'
        · have hlt' : k < cl.length := by rw [HR.out.2.2.1]; exact hlt
          obtain ⟨ad, rfl, hc⟩ := (HR.out.2.2.2.1.fr0 HREL.out.2.2) (by omega)
          have hcell : _ = some (Value.int .i64 (cl[k]'hlt')) := hc k hlt'
          obtain ⟨x, hx⟩ : ∃ x, x = cl[k]'hlt' := ⟨_, rfl⟩
          rw [← hx] at hcell
          have hst : ((cl.take (k + 1)).flatMap (putBE 2)).map B = ((cl.take k).flatMap (putBE 2)).map B ++ (putBE 2 x).map B := by
            rw [take_flat _ _ hlt', List.map_append, ← hx]
          have hxb : -9223372036854775808 ≤ x ∧ x ≤ 9223372036854775807 := by rw [hx]; exact HR.out.2.2.2.2 k hlt'
          have HS2 := hid (And.intro hst hxb)
          clear hst hx hc hxb
          go_wp2_with fail
          refine (refPutBig_calls 2 x _ HS2.out.2).mono ?_
          rw [cut8_2]
          rintro e w1 ⟨v, rfl, hnew⟩
          obtain ⟨A2, n2, c2, rfl, N2⟩ := hnew.use
          obtain rfl : n2 = 2 := by rw [← N2.out.1, putBE_length]
          go_wp2_with (at_builtin; refine wpList_app slU8 rfl (.tmp 42) (.tmp 44) rfl rfl (HREL.out.1.fr N2.out.2.2.2.1 (fun _ _ h => h)) rfl (by rw [List.length_map, N2.out.1]) (Rd.cells.1 N2.out.2.1) (oneB _) (by omega) (by omega) ?_; intro A3 c3 w3 ob3 hrow3 hfr3 hob3)
          go_roundw
          case rel =>
            rw [← HS2.out.1] at hrow3
            have := HREL.out.2.2.size
            have := N2.out.2.2.2.1.size
            refine ⟨k + 1, A3, c3, ob3, by omega, by go_num, by rw [show 2 * (k + 1) = 2 * k + 2 by omega], hrow3, fun q hq => ?_, (HREL.out.2.2.then N2.out.2.2.2.1).fresh hfr3 HREL.out.2.1⟩
            rcases hob3 with h | ⟨j, h, hj⟩
            · exact HREL.out.2.1 q (by rw [← h]; exact hq)
            · rw [h] at hq; injection hq with hq; omega
          case measure => simp [intOf] <;> omega
        · obtain rfl : n' = k := by omega
          clear hlt
          have h1 := HREL.out.1
          rw [List.take_of_length_le (by rw [HR.out.2.2.1]; exact Nat.le_refl _), ← HS.out] at h1
          have HO := hid (And.intro h1 (And.intro HREL.out.2.1 HREL.out.2.2))
          clear h1
          go_wp2_with fail
          go_ret
          exact ⟨_, rfl, New.mk' rfl (by rw [HS.out, put2_length, HR.out.2.2.1]) HO.out.1 HO.out.2.1 HO.out.2.2⟩
    · unfold headV
      go_enter Try.func34, Try.ntmps34
      go_wp2_with fail
      obtain ⟨W0, hW0⟩ : ∃ W0, W0 = w.alloc (.cells #[.int .i64 W, .int .i64 H, .int .i64 2, .int .i64 D, .bool L] 33) := ⟨_, rfl⟩
      have hf0 : Fr No w W0 := by rw [hW0]; exact (Fr.refl _ _).alloc _
      have hc2 : W0.cell? ⟨w.heap.size, 2, none⟩ = some (.int .i64 2) := by rw [hW0]; exact cell_new1 _ _ _ 2 _ rfl
      rw [← hW0]
      have HF0 := hid hf0
      clear hW0 hf0
      go_loopw [7, 38] (fun v i wr => ∃ (k : Nat) (A1 : Option Addr) (c1 : Nat) (ob1 : Option Nat), k ≤ n' ∧ i = .int .i64 k ∧ v = .slice A1 (2 * k) c1 ∧
          Row wr 1 (.slice A1 (2 * k) c1) ob1 (2 * k) (((cl.take k).flatMap (putBE 2)).map B) ∧ (∀ q, ob1 = some q → w.heap.size ≤ q) ∧ Fr No w wr)
        (fun _ i _ => n' - (intOf i).toNat)
      case atStart => exact ⟨0, none, 0, none, by omega, rfl, rfl, Row.nil _ _, fun _ h => (by cases h), HF0.out⟩
      case round =>
        obtain ⟨k, A1, c1, ob1, hk, rfl, rfl, h1, h2, h3⟩ := hrel
        have HREL := hid (And.intro h1 (And.intro h2 h3))
        clear h1 h2 h3
        by_cases hlt : k < n'
        · have hlt' : k < cl.length := by rw [HR.out.2.2.1]; exact hlt
          obtain ⟨ad, rfl, hc⟩ := (HR.out.2.2.2.1.fr0 HREL.out.2.2) (by omega)
          have hcell : _ = some (Value.int .i64 (cl[k]'hlt')) := hc k hlt'
          obtain ⟨x, hx⟩ : ∃ x, x = cl[k]'hlt' := ⟨_, rfl⟩
          rw [← hx] at hcell
          have hst : ((cl.take (k + 1)).flatMap (putBE 2)).map B = ((cl.take k).flatMap (putBE 2)).map B ++ (putBE 2 x).map B := by
            rw [take_flat _ _ hlt', List.map_append, ← hx]
          have hxb : -9223372036854775808 ≤ x ∧ x ≤ 9223372036854775807 := by rw [hx]; exact HR.out.2.2.2.2 k hlt'
          have HS2 := hid (And.intro hst hxb)
          clear hst hx hc hxb
          go_wp2_with fail
          refine (refPutBig_calls 2 x _ HS2.out.2).mono ?_
          rw [cut8_2]
          rintro e w1 ⟨v, rfl, hnew⟩
          obtain ⟨A2, n2, c2, rfl, N2⟩ := hnew.use
          obtain rfl : n2 = 2 := by rw [← N2.out.1, putBE_length]
          go_wp2_with (at_builtin; refine wpList_app slU8 rfl (.tmp 42) (.tmp 44) rfl rfl (HREL.out.1.fr N2.out.2.2.2.1 (fun _ _ h => h)) rfl (by rw [List.length_map, N2.out.1]) (Rd.cells.1 N2.out.2.1) (oneB _) (by omega) (by omega) ?_; intro A3 c3 w3 ob3 hrow3 hfr3 hob3)
          go_roundw
          case rel =>
            rw [← HS2.out.1] at hrow3
            have := HREL.out.2.2.size
            have := N2.out.2.2.2.1.size
            refine ⟨k + 1, A3, c3, ob3, by omega, by go_num, by rw [show 2 * (k + 1) = 2 * k + 2 by omega], hrow3, fun q hq => ?_, (HREL.out.2.2.then N2.out.2.2.2.1).fresh hfr3 HREL.out.2.1⟩
            rcases hob3 with h | ⟨j, h, hj⟩
            · exact HREL.out.2.1 q (by rw [← h]; exact hq)
            · rw [h] at hq; injection hq with hq; omega
          case measure => simp [intOf] <;> omega
        · obtain rfl : n' = k := by omega
          clear hlt
          have h1 := HREL.out.1
          rw [List.take_of_length_le (by rw [HR.out.2.2.1]; exact Nat.le_refl _), ← HS.out] at h1
          have HO := hid (And.intro h1 (And.intro HREL.out.2.1 HREL.out.2.2))
          clear h1
          go_wp2_with fail
          go_ret
          exact ⟨_, rfl, New.mk' rfl (by rw [HS.out, put2_length, HR.out.2.2.1]) HO.out.1 HO.out.2.1 HO.out.2.2⟩
  · have HS := hid (wcS_nil al cl h3 (fun h => h02 (.inl h)) (fun h => h02 (.inr h)))
    have hb3 : (C == 3) = false := by simpa using h3
    have hb0 : (C == 0) = false := by simp; omega
    have hb2 : (C == 2) = false := by simp; omega
    clear h3 h02
    unfold headV
    go_enter Try.func34, Try.ntmps34
    go_wp2
    go_ret
    refine ⟨_, rfl, ?_⟩
    rw [HS.out]
    exact ⟨NewR.nil, ((Fr.refl _ _).alloc _)⟩

end Go.Proofs.Ytkhglmmidgfliaa

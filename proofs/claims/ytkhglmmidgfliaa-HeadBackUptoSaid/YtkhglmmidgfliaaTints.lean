/- Tables of colours: written, and the same ones. A table of n colours is read as 3 n bytes. -/
import Derived.Test.YtkhglmmidgfliaaOct
import Derived.Test.YtkhglmmidgfliaaRef2
namespace Go.Proofs.Ytkhglmmidgfliaa
open Go.RowKit Go.Proofs.HK
set_option linter.unusedVariables false
set_option linter.unusedSimpArgs false

theorem slT3 : SlT Try.prog 59 94 3 3 := SlT.of (z := .agg #[.int .u8 0, .int .u8 0, .int .u8 0]) Try.underlying59 (by kernel_rfl) rfl (by decide)
theorem take3 (ts : List UInt8) (k : Nat) (h : 3 * k + 3 ≤ ts.length) : ts.take (3 * (k + 1)) = ts.take (3 * k) ++ [rdB ts (3 * k), rdB ts (3 * k + 1), rdB ts (3 * k + 2)] := by
  rw [show 3 * (k + 1) = 3 * k + 1 + 1 + 1 by omega, take_snocB _ _ (by omega), take_snocB _ _ (by omega), take_snocB _ _ (by omega)]
  simp
theorem cells3 {w : World} {A : Option Addr} {ts : List UInt8} (h : Cells w A (ts.map B)) (k : Nat) (hk : 3 * k + 3 ≤ ts.length) :
    ∃ ad, A = some ad ∧ w.cell? (ad.add (k * 3)) = some (.int .u8 ((rdB ts (3 * k)).toNat : Int)) ∧ w.cell? ⟨(ad.add (k * 3)).block, (ad.add (k * 3)).off + 1, none⟩ = some (.int .u8 ((rdB ts (3 * k + 1)).toNat : Int)) ∧
      w.cell? ⟨(ad.add (k * 3)).block, (ad.add (k * 3)).off + 2, none⟩ = some (.int .u8 ((rdB ts (3 * k + 2)).toNat : Int)) := by
  obtain ⟨ad, e, hc⟩ := h (by simp; omega)
  have g : ∀ j, j < ts.length → w.cell? (ad.add j) = some (.int .u8 ((rdB ts j).toNat : Int)) := fun j hj => hc j _ (by simp [List.getElem?_map, List.getElem?_eq_getElem hj, B, rdB, List.getD])
  have g0 := g (3 * k) (by omega)
  have g1 := g (3 * k + 1) (by omega)
  have g2 := g (3 * k + 2) (by omega)
  rw [show 3 * k = k * 3 by omega] at g0 g1 g2
  refine ⟨ad, e, ?_, ?_, ?_⟩
  · rw [show 3 * k = k * 3 by omega]; exact g0
  · rw [show 3 * k = k * 3 by omega]; exact cellAt g1
  · rw [show 3 * k = k * 3 by omega]; exact cellAt g2

set_option maxRecDepth 100000 in
set_option maxHeartbeats 800000 in
theorem writeTints_calls (A : Option Addr) (ts : List UInt8) (n c : Nat) (hn : ts.length = 3 * n) (w : World) (hr : Cells w A (ts.map B)) (hl : n ≤ 46912496117077) :
    Calls Try.prog 41 #[.slice A n c] w fun e w' => ∃ v, e = .returned v ∧ New B w w' v ts := by
  have HR := hid (And.intro hn hr)
  clear hn hr
  go_enter Try.func41, Try.ntmps41
  go_wp2_with fail
  go_loopw [3, 8] (fun v i wr => ∃ (k j : Nat) (A1 : Option Addr) (c1 : Nat) (ob1 : Option Nat), k ≤ n ∧ i = .int .i64 k ∧ v = .slice A1 j c1 ∧ j = 3 * k ∧
      Row wr 1 (.slice A1 j c1) ob1 j ((ts.take (3 * k)).map B) ∧ (∀ q, ob1 = some q → w.heap.size ≤ q) ∧ Fr No w wr)
    (fun _ i _ => n - (intOf i).toNat)
  case atStart => exact ⟨0, 0, none, 0, none, by omega, rfl, rfl, rfl, Row.nil _ _, fun _ h => (by cases h), Fr.refl _ _⟩
  case round =>
    obtain ⟨k, j, A1, c1, ob1, hk, rfl, rfl, hj, h1, h2, h3⟩ := hrel
    have HREL := hid (And.intro h1 (And.intro h2 (And.intro h3 hj)))
    clear h1 h2 h3 hj
    by_cases hlt : k < n
    · obtain ⟨ad, rfl, q0, q1, q2⟩ := cells3 (HR.out.2.fr HREL.out.2.2.1 (fun _ _ h => h)) k (by rw [HR.out.1]; omega)
      have hst := congrArg (List.map B) (take3 ts k (by rw [HR.out.1]; omega))
      rw [List.map_append] at hst
      obtain ⟨x0, hx0⟩ : ∃ x : Int, x = ((rdB ts (3 * k)).toNat : Int) := ⟨_, rfl⟩
      obtain ⟨x1, hx1⟩ : ∃ x : Int, x = ((rdB ts (3 * k + 1)).toNat : Int) := ⟨_, rfl⟩
      obtain ⟨x2, hx2⟩ : ∃ x : Int, x = ((rdB ts (3 * k + 2)).toNat : Int) := ⟨_, rfl⟩
      have hys : [rdB ts (3 * k), rdB ts (3 * k + 1), rdB ts (3 * k + 2)].map B = [.int .u8 x0, .int .u8 x1, .int .u8 x2] := by rw [hx0, hx1, hx2]; rfl
      rw [hys] at hst
      rw [← hx0] at q0
      rw [← hx1] at q1
      rw [← hx2] at q2
      have hjb : j + 3 ≤ 140737488355328 := by have := HREL.out.2.2.2; omega
      have HS := hid hst
      clear hst hys hx0 hx1 hx2
      go_wp2_with (at_builtin; refine wpList_app slU8 rfl (.tmp 12) (.tmp 19) rfl rfl (HREL.out.1.fr (((Fr.refl No wr).alloc _).alloc _) (fun _ _ h => h)) rfl (m := 3) (c := 3) (ys := [.int .u8 x0, .int .u8 x1, .int .u8 x2]) rfl (by have := cells_new (wr.alloc (.cells #[.int .u8 x0, .int .u8 x1, .int .u8 x2] 94)) [.int .u8 x0, .int .u8 x1, .int .u8 x2] 5; rw [World.size_alloc] at this; exact this) (by simp [Value.oneCell']) (by omega) (by omega) ?_; intro A2 c2 w2 ob2 hrow2 hfr2 hob2)
      go_roundw
      case rel =>
        rw [← HS.out] at hrow2
        have := HREL.out.2.2.1.size
        have hj := HREL.out.2.2.2
        refine ⟨k + 1, j + 3, A2, c2, ob2, by omega, by go_num, rfl, by omega, hrow2, fun q hq => ?_, ((HREL.out.2.2.1.alloc _).alloc _).fresh hfr2 HREL.out.2.1⟩
        rcases hob2 with h | ⟨i, h, hi⟩
        · exact HREL.out.2.1 q (by rw [← h]; exact hq)
        · rw [World.size_alloc, World.size_alloc] at hi
          rw [h] at hq; injection hq with hq; omega
      case measure => simp [intOf] <;> omega
    · obtain rfl : n = k := by omega
      clear hlt
      have h1 := HREL.out.1
      rw [List.take_of_length_le (by rw [HR.out.1]; exact Nat.le_refl _)] at h1
      have HO := hid h1
      clear h1
      go_wp2_with fail
      go_ret
      exact ⟨_, rfl, New.mk' rfl (by rw [HR.out.1, HREL.out.2.2.2]) HO.out HREL.out.2.1 HREL.out.2.2.1⟩
set_option maxRecDepth 100000 in
set_option maxHeartbeats 800000 in
theorem refWriteTints_calls (A : Option Addr) (ts : List UInt8) (n c : Nat) (hn : ts.length = 3 * n) (w : World) (hr : Cells w A (ts.map B)) (hl : n ≤ 46912496117077) :
    Calls Try.prog 42 #[.slice A n c] w fun e w' => ∃ v, e = .returned v ∧ New B w w' v ts := by
  have HR := hid (And.intro hn hr)
  clear hn hr
  go_enter Try.func42, Try.ntmps42
  go_wp2_with fail
  go_loopw [3, 8] (fun v i wr => ∃ (k j : Nat) (A1 : Option Addr) (c1 : Nat) (ob1 : Option Nat), k ≤ n ∧ i = .int .i64 k ∧ v = .slice A1 j c1 ∧ j = 3 * k ∧
      Row wr 1 (.slice A1 j c1) ob1 j ((ts.take (3 * k)).map B) ∧ (∀ q, ob1 = some q → w.heap.size ≤ q) ∧ Fr No w wr)
    (fun _ i _ => n - (intOf i).toNat)
  case atStart => exact ⟨0, 0, none, 0, none, by omega, rfl, rfl, rfl, Row.nil _ _, fun _ h => (by cases h), Fr.refl _ _⟩
  case round =>
    obtain ⟨k, j, A1, c1, ob1, hk, rfl, rfl, hj, h1, h2, h3⟩ := hrel
    have HREL := hid (And.intro h1 (And.intro h2 (And.intro h3 hj)))
    clear h1 h2 h3 hj
    by_cases hlt : k < n
    · obtain ⟨ad, rfl, q0, q1, q2⟩ := cells3 (HR.out.2.fr HREL.out.2.2.1 (fun _ _ h => h)) k (by rw [HR.out.1]; omega)
      have hst := congrArg (List.map B) (take3 ts k (by rw [HR.out.1]; omega))
      rw [List.map_append] at hst
      obtain ⟨x0, hx0⟩ : ∃ x : Int, x = ((rdB ts (3 * k)).toNat : Int) := ⟨_, rfl⟩
      obtain ⟨x1, hx1⟩ : ∃ x : Int, x = ((rdB ts (3 * k + 1)).toNat : Int) := ⟨_, rfl⟩
      obtain ⟨x2, hx2⟩ : ∃ x : Int, x = ((rdB ts (3 * k + 2)).toNat : Int) := ⟨_, rfl⟩
      have hys : [rdB ts (3 * k), rdB ts (3 * k + 1), rdB ts (3 * k + 2)].map B = [.int .u8 x0, .int .u8 x1, .int .u8 x2] := by rw [hx0, hx1, hx2]; rfl
      rw [hys] at hst
      rw [← hx0] at q0
      rw [← hx1] at q1
      rw [← hx2] at q2
      have hjb : j + 3 ≤ 140737488355328 := by have := HREL.out.2.2.2; omega
      have HS := hid hst
      clear hst hys hx0 hx1 hx2
      go_wp2_with (at_builtin; refine wpList_app slU8 rfl (.tmp 12) (.tmp 19) rfl rfl (HREL.out.1.fr (((Fr.refl No wr).alloc _).alloc _) (fun _ _ h => h)) rfl (m := 3) (c := 3) (ys := [.int .u8 x0, .int .u8 x1, .int .u8 x2]) rfl (by have := cells_new (wr.alloc (.cells #[.int .u8 x0, .int .u8 x1, .int .u8 x2] 94)) [.int .u8 x0, .int .u8 x1, .int .u8 x2] 5; rw [World.size_alloc] at this; exact this) (by simp [Value.oneCell']) (by omega) (by omega) ?_; intro A2 c2 w2 ob2 hrow2 hfr2 hob2)
      go_roundw
      case rel =>
        rw [← HS.out] at hrow2
        have := HREL.out.2.2.1.size
        have hj := HREL.out.2.2.2
        refine ⟨k + 1, j + 3, A2, c2, ob2, by omega, by go_num, rfl, by omega, hrow2, fun q hq => ?_, ((HREL.out.2.2.1.alloc _).alloc _).fresh hfr2 HREL.out.2.1⟩
        rcases hob2 with h | ⟨i, h, hi⟩
        · exact HREL.out.2.1 q (by rw [← h]; exact hq)
        · rw [World.size_alloc, World.size_alloc] at hi
          rw [h] at hq; injection hq with hq; omega
      case measure => simp [intOf] <;> omega
    · obtain rfl : n = k := by omega
      clear hlt
      have h1 := HREL.out.1
      rw [List.take_of_length_le (by rw [HR.out.1]; exact Nat.le_refl _)] at h1
      have HO := hid h1
      clear h1
      go_wp2_with fail
      go_ret
      exact ⟨_, rfl, New.mk' rfl (by rw [HR.out.1, HREL.out.2.2.2]) HO.out HREL.out.2.1 HREL.out.2.2.1⟩
set_option maxRecDepth 100000 in
set_option maxHeartbeats 800000 in
theorem sameTints_calls (A A' : Option Addr) (ts : List UInt8) (n c c' : Nat) (hn : ts.length = 3 * n) (w : World) (hx : Cells w A (ts.map B)) (hy : Cells w A' (ts.map B)) (hl : n ≤ 46912496117077) :
    Calls Try.prog 40 #[.slice A n c, .slice A' n c'] w fun e w' => e = .returned (.bool true) ∧ ∃ q, w' = w.drewN q := by
  have HR := hid (And.intro hn (And.intro hx hy))
  clear hn hx hy
  go_enter Try.func40, Try.ntmps40
  go_wp2_with fail
  go_loopw [13] (fun i wr => ∃ (k q : Nat), k ≤ n ∧ i = .int .i64 k ∧ wr = w.drewN q) (fun i _ => n - (intOf i).toNat)
  case atStart => exact ⟨0, 0, by omega, rfl, rfl⟩
  case round =>
    obtain ⟨k, q, hk, rfl, rfl⟩ := hrel
    by_cases hlt : k < n
    · obtain ⟨ad, rfl, q0, q1, q2⟩ := cells3 HR.out.2.1 k (by rw [HR.out.1]; omega)
      obtain ⟨ad', rfl, r0, r1, r2⟩ := cells3 HR.out.2.2 k (by rw [HR.out.1]; omega)
      obtain ⟨x0, hx0⟩ : ∃ x : Int, x = ((rdB ts (3 * k)).toNat : Int) := ⟨_, rfl⟩
      obtain ⟨x1, hx1⟩ : ∃ x : Int, x = ((rdB ts (3 * k + 1)).toNat : Int) := ⟨_, rfl⟩
      obtain ⟨x2, hx2⟩ : ∃ x : Int, x = ((rdB ts (3 * k + 2)).toNat : Int) := ⟨_, rfl⟩
      rw [← hx0] at q0 r0
      rw [← hx1] at q1 r1
      rw [← hx2] at q2 r2
      replace q0 : ∀ q, (w.drewN q).cell? (ad.add (k * 3)) = some (.int .u8 x0) := fun _ => q0
      replace q1 : ∀ q, (w.drewN q).cell? ⟨(ad.add (k * 3)).block, (ad.add (k * 3)).off + 1, none⟩ = some (.int .u8 x1) := fun _ => q1
      replace q2 : ∀ q, (w.drewN q).cell? ⟨(ad.add (k * 3)).block, (ad.add (k * 3)).off + 2, none⟩ = some (.int .u8 x2) := fun _ => q2
      replace r0 : ∀ q, (w.drewN q).cell? (ad'.add (k * 3)) = some (.int .u8 x0) := fun _ => r0
      replace r1 : ∀ q, (w.drewN q).cell? ⟨(ad'.add (k * 3)).block, (ad'.add (k * 3)).off + 1, none⟩ = some (.int .u8 x1) := fun _ => r1
      replace r2 : ∀ q, (w.drewN q).cell? ⟨(ad'.add (k * 3)).block, (ad'.add (k * 3)).off + 2, none⟩ = some (.int .u8 x2) := fun _ => r2
      have b1 : (0 : Int) ≤ (k : Int) := by omega
      have b2 : (k : Int) < (n : Int) := by omega
      clear hx0 hx1 hx2
      go_wp2_with fail
      go_quiet (fail)
      go_wp2_with fail
      go_roundw
      case rel => exact ⟨k + 1, _, by omega, by go_num, rfl⟩
      case measure => simp [intOf] <;> omega
    · obtain rfl : n = k := by omega
      clear hlt
      go_wp2_with fail
      go_ret
      exact ⟨rfl, _, rfl⟩
end Go.Proofs.Ytkhglmmidgfliaa

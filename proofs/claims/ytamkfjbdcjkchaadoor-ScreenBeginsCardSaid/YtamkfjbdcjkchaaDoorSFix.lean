/- What the document fixes, of screens. -/
import Derived.Test.YtamkfjbdcjkchaaDoorSSame
import Derived.Test.YtamkfjbdcjkchaaDoorSWr
import Derived.Laws.MakeOwn
namespace Go.Proofs.YtamkfjbdcjkchaaDoor
open Go.RowKit Go.Proofs.HK
set_option linter.unusedVariables false
set_option linter.unusedSimpArgs false
attribute [local go_sem] max2_int min2_int max_two min_two
def gif3 : List UInt8 := [71, 73, 70]
def gif6 : List UInt8 := [71, 73, 70, 56, 55, 97]
def zero6 : List UInt8 := [0, 0, 0, 0, 0, 0]
def fixS : ScrS := ⟨1, 2, zero6, false, -1, false, 2⟩
def fixB : List UInt8 := [71, 73, 70, 56, 57, 97, 1, 0, 2, 0, 240, 0, 0, 0, 0, 0, 0, 0, 0, 44, 0, 0, 0, 0, 1, 0, 2, 0, 0, 2]
theorem fix_facts : scrS gif3 = (2, zeroScr, 0) ∧ scrS gif6 = (3, zeroScr, 0) ∧ wrE fixS = 0 ∧ wrB fixS = fixB := by decide +kernel
theorem mk_tints (w : World) : (Instr.makeSlice 24 (.int .i64 2) (.int .i64 2)).run Tryd.prog w = .ok (.slice (some ⟨w.heap.size, 0, none⟩) 2 2) (w.alloc (.cells (zero6.map B).toArray 58)) := by
  obtain ⟨i, z, hi, hz, h2, h3, h4⟩ := slT3.info
  have h := run_make (P := Tryd.prog) w 24 58 i z slT3.und hi hz .i64 .i64 2 2 (by omega) (by omega) (by rw [h3]; omega) (by omega)
  have hz2 : (Tryd.prog.info? 58).map (·.zero) = some (some (.agg #[.int .u8 0, .int .u8 0, .int .u8 0])) := by kernel_rfl
  rw [hi] at hz2
  simp only [Option.map_some, Option.some.injEq] at hz2
  rw [hz] at hz2
  injection hz2 with hz2
  rw [h2, hz2] at h
  rw [h]
  have e : (madeCells (Value.cells (.agg #[.int .u8 0, .int .u8 0, .int .u8 0])) (Int.toNat 2 * 3)) = (zero6.map B).toArray := by kernel_rfl
  rw [e]
  rfl
set_option maxRecDepth 100000 in
set_option maxHeartbeats 3200000 in
theorem fixed17_calls (w : World) (hw : TabW w) : Calls Tryd.prog 7 #[] w fun e w' => e = .returned (.bool true) ∧ Fr No w w' := by
  have HF := hid fix_facts
  have HT := hid hw
  clear hw
  have rc : ∀ (o : List UInt8) (x : Int) (W : World) A n c, scrS o = (x, zeroScr, 0) → o.length = n → Rd B W A o → n ≤ c → n ≤ 100 → Calls Tryd.prog 8 #[.slice A n c] W fun e w' => ∃ tA tn tc, e = .returned (.tuple #[.agg #[.int .i64 0, .int .i64 0, .slice tA tn tc, .bool false, .int .i64 0, .bool false, .int .i64 0], .int .i64 0, .int .i64 x]) ∧ Fr No W w' := fun o x W A n c h0 h1 h2 h3 h4 => by
    refine (scread_calls A o n c W h1 h2 h3 (by omega)).mono ?_
    rw [h0]
    rintro e w' ⟨tA, tn, tc, e1, _, e2⟩
    exact ⟨tA, tn, tc, e1, e2⟩
  have wc : ∀ W A, TabW W → Cells W A (zero6.map B) → Calls Tryd.prog 12 #[.agg #[.int .i64 1, .int .i64 2, .slice A 2 2, .bool false, .int .i64 (-1), .bool false, .int .i64 2]] W fun e w' => ∃ v, e = .returned (.tuple #[v, .int .i64 0]) ∧ New B W w' v fixB := fun W A h1 h2 => by
    have h := scwrite_calls 1 2 zero6 A 2 2 false (-1) false 2 W rfl h2 (by omega) h1 (by omega) (by omega)
    rw [show (⟨1, 2, zero6, false, -1, false, 2⟩ : ScrS) = fixS from rfl, HF.out.2.2.1, HF.out.2.2.2] at h
    exact h
  have RC := hid rc
  have WC := hid wc
  clear rc wc
  have hcv3 : ∀ W : World, (convert 22 22 (.slice (some ⟨W.heap.size, 0, none⟩) 3 3)).run Tryd.prog (W.alloc (.cells #[.int .u8 71, .int .u8 73, .int .u8 70] 5)) = .ok (.slice (some ⟨W.heap.size, 0, none⟩) 3 3) (W.alloc (.cells #[.int .u8 71, .int .u8 73, .int .u8 70] 5 (3, 4))) := fun W => Lib.run_convert_bytes_const W 22 5 #[.int .u8 71, .int .u8 73, .int .u8 70] 3 3 slU8.und u8U
  have hcv6 : ∀ (W : World) o, (convert 22 22 (.slice (some ⟨W.heap.size + 1, 0, none⟩) 6 6)).run Tryd.prog ((W.alloc o).alloc (.cells #[.int .u8 71, .int .u8 73, .int .u8 70, .int .u8 56, .int .u8 55, .int .u8 97] 5)) = .ok (.slice (some ⟨W.heap.size + 1, 0, none⟩) 6 6) ((W.alloc o).alloc (.cells #[.int .u8 71, .int .u8 73, .int .u8 70, .int .u8 56, .int .u8 55, .int .u8 97] 5 (6, 7))) := fun W o => by
    have h := Lib.run_convert_bytes_const (P := Tryd.prog) (W.alloc o) 22 5 #[.int .u8 71, .int .u8 73, .int .u8 70, .int .u8 56, .int .u8 55, .int .u8 97] 6 6 slU8.und u8U
    rw [World.size_alloc] at h
    exact h
  have hmk := mk_tints
  go_enter Tryd.func7, Tryd.ntmps7
  go_wp2_with fail
  refine (RC.out gif3 2 _ _ 3 3 HF.out.1 rfl (rd_mark w gif3 5 _ rfl (3, 4)) (by omega) (by omega)).mono ?_
  rintro e w1 ⟨tA1, tn1, tc1, rfl, hf1⟩
  have H1 := hid (((Fr.refl No w).alloc _).then hf1)
  clear hf1
  go_wp2_with fail
  have hrd : Rd B ((w1.alloc (.cells #[.int .i64 0, .int .i64 0, .slice tA1 tn1 tc1, .bool false, .int .i64 0, .bool false, .int .i64 0] 26)).alloc (.cells #[.int .u8 71, .int .u8 73, .int .u8 70, .int .u8 56, .int .u8 55, .int .u8 97] 5 (6, 7))) (some ⟨w1.heap.size + 1, 0, none⟩) gif6 := by
    have h := rd_mark (w1.alloc (.cells #[.int .i64 0, .int .i64 0, .slice tA1 tn1 tc1, .bool false, .int .i64 0, .bool false, .int .i64 0] 26)) gif6 5 _ rfl (6, 7)
    rw [World.size_alloc] at h
    exact h
  refine (RC.out gif6 3 _ _ 6 6 HF.out.2.1 rfl hrd (by omega) (by omega)).mono ?_
  rintro e w3 ⟨tA2, tn2, tc2, rfl, hf3⟩
  have H3 := hid (((H1.out.alloc _).alloc _).then hf3)
  clear hf3 hrd
  go_wp2_with fail
  have hcl : Cells ((w3.alloc (.cells #[.int .i64 0, .int .i64 0, .slice tA2 tn2 tc2, .bool false, .int .i64 0, .bool false, .int .i64 0] 26)).alloc (.cells (zero6.map B).toArray 58)) (some ⟨w3.heap.size + 1, 0, none⟩) (zero6.map B) := by
    have h := cells_new (w3.alloc (.cells #[.int .i64 0, .int .i64 0, .slice tA2 tn2 tc2, .bool false, .int .i64 0, .bool false, .int .i64 0] 26)) (zero6.map B) 58
    rw [World.size_alloc] at h
    exact h
  refine (WC.out _ _ (HT.out.fr ((H3.out.alloc _).alloc _)) hcl).mono ?_
  rintro e w4 ⟨v4, rfl, hn4⟩
  obtain ⟨A4, n4, c4, rfl, N4⟩ := hn4.use
  clear hn4 hcl
  obtain rfl : n4 = 30 := by rw [← N4.out.1]; rfl
  go_wp2_with fail
  refine (same_calls A4 _ fixB fixB 30 30 c4 30 N4.out.1 rfl _ (N4.out.2.1.alloc _) (rd_new w4 fixB _ _ rfl)).mono ?_
  rintro e w5 ⟨rfl, hw5⟩
  rw [hw5, decide_eq_true rfl]
  clear hw5 w5
  go_wp2_with fail
  go_ret
  exact ⟨rfl, (((H3.out.alloc _).alloc _).then N4.out.2.2.2.1).alloc _⟩
end Go.Proofs.YtamkfjbdcjkchaaDoor

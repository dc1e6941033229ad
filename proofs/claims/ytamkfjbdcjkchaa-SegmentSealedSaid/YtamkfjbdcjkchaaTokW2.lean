/- The contracts of the document's Write of a token, and of Sealed. -/
import Derived.Test.YtamkfjbdcjkchaaTokW
import Derived.Lib.LazyBuf
namespace Go.Proofs.Ytamkfjbdcjkchaa
open Go.RowKit Go.Proofs.HK
set_option linter.unusedVariables false
set_option linter.unusedSimpArgs false
attribute [local go_sem] max2_int min2_int max_two min_two

def tokM (F : Int) (n : Nat) : Bool := decide (0 ≤ F ∧ F < 16 ∧ n ≤ 1048576)
set_option maxRecDepth 100000 in
set_option maxHeartbeats 1600000 in
theorem sealed_calls (A : Option Addr) (bs : List UInt8) (n c : Nat) (w : World) (hn : bs.length = n) (hr : Rd B w A bs) (hl : n ≤ 2097152) :
    Calls Try.prog 15 #[.slice A n c] w fun e w' => ∃ v, e = .returned v ∧ New B w w' v (sealB bs) := by
  have HN := hid (And.intro hn hr)
  clear hn hr
  go_enter Try.func15, Try.ntmps15
  go_wp2_with (at_builtin; refine wpList_app slU8 rfl (.tmp 3) (.tmp 4) rfl rfl (Row.new w 1 0 [] _ rfl (by omega)) rfl (by rw [List.length_map, HN.out.1]; omega) ((Rd.cells.1 HN.out.2).fr (S := No) ((Fr.refl _ _).alloc _) (fun _ _ h => h)) (oneB bs) (by omega) (by omega) ?_; intro A1 c1 w1 ob1 hv1 hf1 hob1; simp only [Nat.zero_add, List.nil_append] at hv1 ⊢)
  have hk := some_le (m := w.heap.size) (hob1.imp id (fun ⟨k, a, b⟩ => ⟨k, a, by simp at b; omega⟩)) (Nat.le_refl _)
  have hF1 : Fr No w w1 := ((Fr.refl No w).alloc _).fresh hf1 (fun k e => by injection e with e; omega)
  have H1 := hid (And.intro hv1 (And.intro hk hF1))
  clear hv1 hf1 hob1 hk hF1
  refine (refOf_calls A bs n c HN.out.1 _ (HN.out.2.fr0 H1.out.2.2) (by omega)).mono ?_
  rintro e w5 ⟨rfl, rfl⟩
  have hcl := crcM_lt 0 bs
  obtain ⟨C, hC⟩ : ∃ C, C = crcOf bs := ⟨_, rfl⟩
  have hCl : C < 4294967296 := by rw [hC]; exact hcl
  have HC := hid hC
  rw [← hC]
  clear hC hcl
  go_wp2_with fail
  refine (refPutLittle_calls 4 (C : Int) _ (by omega)).mono ?_
  rw [cut8_4]
  rintro e w6 ⟨v6, rfl, hnew6⟩
  obtain ⟨A6, n6, c6, rfl, N6⟩ := hnew6.use
  clear hnew6
  obtain rfl : n6 = 4 := by rw [← N6.out.1, putLE_length]
  go_wp2_with (at_builtin; refine wpList_app slU8 rfl (.tmp 5) (.tmp 9) rfl rfl (H1.out.1.fr N6.out.2.2.2.1 (fun _ _ h => h)) rfl (by rw [List.length_map, N6.out.1]) (Rd.cells.1 N6.out.2.1) (oneB _) (by omega) (by omega) ?_; intro A7 c7 w7 ob7 hrow7 hfr7 hob7)
  go_ret
  have hsz := H1.out.2.2.size
  have hsz6 := N6.out.2.2.2.1.size
  refine ⟨_, rfl, New.mk' rfl (by rw [sealB_length, HN.out.1]) (by rw [show (sealB bs).map B = bs.map B ++ (putLE 4 (C : Int)).map B by rw [HC.out, ← List.map_append]; rfl]; exact hrow7) (fun k hk => ?_) ((H1.out.2.2.then N6.out.2.2.2.1).fresh hfr7 H1.out.2.1)⟩
  rcases hob7 with h | ⟨j, h, hj⟩
  · exact H1.out.2.1 k (by rw [← h]; exact hk)
  · rw [h] at hk; injection hk with hk; omega
end Go.Proofs.Ytamkfjbdcjkchaa
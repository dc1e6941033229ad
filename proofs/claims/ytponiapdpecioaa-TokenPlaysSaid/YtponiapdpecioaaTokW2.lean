/- The contracts of the document's Write of a token, and of Sealed. -/
import Derived.Test.YtponiapdpecioaaTokW
import Derived.Lib.LazyBuf
namespace Go.Proofs.Ytponiapdpecioaa
open Go.RowKit Go.Proofs.HK
set_option linter.unusedVariables false
set_option linter.unusedSimpArgs false
attribute [local go_sem] max2_int min2_int max_two min_two

def tokM (F : Int) (n : Nat) : Bool := decide (0 ≤ F ∧ F < 16 ∧ n ≤ 1048576)
theorem refMay_calls (F : Int) (S : Nat) (A : Option Addr) (n c : Nat) (w : World) :
    Calls Try.prog 30 #[tokV F S A n c] w fun e w' => e = .returned (.bool (tokM F n)) ∧ Fr No w w' := by
  by_cases hE : 0 ≤ F ∧ F < 16 ∧ n ≤ 1048576
  · have HS := hid (show tokM F n = true from decide_eq_true hE)
    obtain ⟨e1, e2, e3⟩ := hE
    have e3' : (n : Int) ≤ 1048576 := by omega
    unfold tokV
    go_enter Try.func30, Try.ntmps30
    go_wp2_with fail
    go_ret
    rw [HS.out]
    exact ⟨by simp [e1, e2, e3'], (Fr.refl No w).alloc _⟩
  · have HS := hid (show tokM F n = false from decide_eq_false hE)
    unfold tokV
    by_cases h1 : 0 ≤ F
    · by_cases h2 : F < 16
      · have h3 : ¬ ((n : Int) ≤ 1048576) := by omega
        clear hE
        go_enter Try.func30, Try.ntmps30
        go_wp2_with fail
        go_ret
        rw [HS.out]
        exact ⟨by simp [h1, h2, h3], (Fr.refl No w).alloc _⟩
      · clear hE
        go_enter Try.func30, Try.ntmps30
        go_wp2_with fail
        go_ret
        rw [HS.out]
        exact ⟨by simp [h1, h2], (Fr.refl No w).alloc _⟩
    · clear hE
      go_enter Try.func30, Try.ntmps30
      go_wp2_with fail
      go_ret
      rw [HS.out]
      exact ⟨by simp [h1], (Fr.refl No w).alloc _⟩
set_option maxRecDepth 100000 in
set_option maxHeartbeats 1600000 in
theorem sealed_calls (A : Option Addr) (bs : List UInt8) (n c : Nat) (w : World) (hn : bs.length = n) (hr : Rd B w A bs) (hl : n ≤ 2097152) :
    Calls Try.prog 13 #[.slice A n c] w fun e w' => ∃ v, e = .returned v ∧ New B w w' v (sealB bs) := by
  have HN := hid (And.intro hn hr)
  clear hn hr
  go_enter Try.func13, Try.ntmps13
  go_wp2_with (at_builtin; refine wpList_app slU8 rfl (.tmp 3) (.tmp 4) rfl rfl (Row.new w 1 0 [] _ rfl (by omega)) rfl (by rw [List.length_map, HN.out.1]; omega) ((Rd.cells.1 HN.out.2).fr (S := No) ((Fr.refl _ _).alloc _) (fun _ _ h => h)) (oneB bs) (by omega) (by omega) ?_; intro A1 c1 w1 ob1 hv1 hf1 hob1; simp only [Nat.zero_add, List.nil_append] at hv1 ⊢)
  have hk := some_le (m := w.heap.size) (hob1.imp id (fun ⟨k, a, b⟩ => ⟨k, a, by simp at b; omega⟩)) (Nat.le_refl _)
  have hF1 : Fr No w w1 := ((Fr.refl No w).alloc _).fresh hf1 (fun k e => by injection e with e; omega)
  have H1 := hid (And.intro hv1 (And.intro hk hF1))
  clear hv1 hf1 hob1 hk hF1
  refine (refOf_calls A bs n c HN.out.1 _ (HN.out.2.fr0 H1.out.2.2) (by omega)).mono ?_
  rintro e w5 ⟨rfl, rfl⟩
  have hcl := crcM_lt 0 bs
  obtain ⟨C, hC⟩ : ∃ C, C = crcOf bs := ⟨_, rfl⟩
  have hCl : C < 4294967296 := by rw [hC]; exact hcl
  have HC := hid hC
  rw [← hC]
  clear hC hcl
  go_wp2_with fail
  refine (refPutLittle_calls 4 (C : Int) _ (by omega)).mono ?_
  rw [cut8_4]
  rintro e w6 ⟨v6, rfl, hnew6⟩
  obtain ⟨A6, n6, c6, rfl, N6⟩ := hnew6.use
  clear hnew6
  obtain rfl : n6 = 4 := by rw [← N6.out.1, putLE_length]
  go_wp2_with (at_builtin; refine wpList_app slU8 rfl (.tmp 5) (.tmp 9) rfl rfl (H1.out.1.fr N6.out.2.2.2.1 (fun _ _ h => h)) rfl (by rw [List.length_map, N6.out.1]) (Rd.cells.1 N6.out.2.1) (oneB _) (by omega) (by omega) ?_; intro A7 c7 w7 ob7 hrow7 hfr7 hob7)
  go_ret
  have hsz := H1.out.2.2.size
  have hsz6 := N6.out.2.2.2.1.size
  refine ⟨_, rfl, New.mk' rfl (by rw [sealB_length, HN.out.1]) (by rw [show (sealB bs).map B = bs.map B ++ (putLE 4 (C : Int)).map B by rw [HC.out, ← List.map_append]; rfl]; exact hrow7) (fun k hk => ?_) ((H1.out.2.2.then N6.out.2.2.2.1).fresh hfr7 H1.out.2.1)⟩
  rcases hob7 with h | ⟨j, h, hj⟩
  · exact H1.out.2.1 k (by rw [← h]; exact hk)
  · rw [h] at hk; injection hk with hk; omega
set_option maxRecDepth 100000 in
theorem clone_calls (A : Option Addr) (bs : List UInt8) (n c : Nat) (w : World) (hn : bs.length = n) (hr : Rd B w A bs) (hl : n ≤ 140737488355328) :
    Calls Try.prog 44 #[.slice A n c] w fun e w' => ∃ v, e = .returned v ∧ New B w w' v bs := by
  have HN := hid (And.intro hn hr)
  have heq : ∀ W, (binOp .eql 23 (.slice A n c) (.slice none 0 0)).run Try.prog W = .ok (.bool A.isNone) W := fun W => Go.run_eql_slice_nil W 23 5 A n c slU8.und
  clear hn hr
  cases hA : A with
  | none =>
    have hb : bs = [] := by
      cases bs with
      | nil => rfl
      | cons b l =>
        obtain ⟨ad, e, _⟩ := HN.out.2 (by simp)
        rw [hA] at e
        cases e
    subst hb
    subst hA
    simp only [Option.isNone_none] at heq
    go_enter Try.func44, Try.ntmps44
    go_wp2_with fail
    go_ret
    exact ⟨_, rfl, NewR.nil, Fr.refl _ _⟩
  | some ad =>
    subst hA
    simp only [Option.isNone_some] at heq
    go_enter Try.func44, Try.ntmps44
    go_wp2_with (at_builtin; refine wpList_app slU8 rfl (.tmp 5) (.tmp 6) rfl rfl (Row.new w 1 0 [] _ rfl (by omega)) rfl (by rw [List.length_map, HN.out.1]; omega) ((Rd.cells.1 HN.out.2).fr (S := No) ((Fr.refl _ _).alloc _) (fun _ _ h => h)) (oneB bs) (by omega) (by omega) ?_; intro A1 c1 w1 ob1 hv1 hf1 hob1; simp only [Nat.zero_add, List.nil_append] at hv1 ⊢)
    have hk := some_le (m := w.heap.size) (hob1.imp id (fun ⟨k, a, b⟩ => ⟨k, a, by simp at b; omega⟩)) (Nat.le_refl _)
    have hF1 : Fr No w w1 := ((Fr.refl No w).alloc _).fresh hf1 (fun k e => by injection e with e; omega)
    go_ret
    exact ⟨_, rfl, New.mk' rfl HN.out.1 hv1 hk hF1⟩
end Go.Proofs.Ytponiapdpecioaa

/- The contract of the document's Write of a token. -/
import Derived.Test.YtponiapdpecioaaTokW2
namespace Go.Proofs.Ytponiapdpecioaa
open Go.RowKit Go.Proofs.HK
set_option linter.unusedVariables false
set_option linter.unusedSimpArgs false
attribute [local go_sem] max2_int min2_int max_two min_two

set_option maxRecDepth 100000 in
set_option maxHeartbeats 1600000 in
theorem refWrite_calls (F : Int) (S : Nat) (D : List UInt8) (A : Option Addr) (n c : Nat) (w : World) (hn : D.length = n) (hr : Rd B w A D) (hS : S < 4294967296) :
    Calls Try.prog 11 #[tokV F S A n c] w fun e w' => ∃ v, e = .returned (.tuple #[v, .int .i64 (tokE F n)]) ∧ New B w w' v (tokB F S D) := by
  have HN := hid (And.intro hn hr)
  clear hn hr
  have hM : ∀ W, Calls Try.prog 30 #[.agg #[.int .i64 F, .int .u32 (S : Int), .slice A n c]] W fun e w' => e = .returned (.bool (tokM F n)) ∧ Fr No W w' := fun W => refMay_calls F S A n c W
  unfold tokV
  cases hE : tokM F n with
  | false =>
    have hE' : ¬ (0 ≤ F ∧ F < 16 ∧ n ≤ 1048576) := of_decide_eq_false hE
    have HS := hid (show tokB F S D = [] ∧ tokE F n = 1 from ⟨by unfold tokB tokE; rw [HN.out.1, if_neg hE']; rfl, by unfold tokE; rw [if_neg hE']⟩)
    rw [hE] at hM
    have HM := hid hM
    clear hM hE hE'
    go_enter Try.func11, Try.ntmps11
    go_wp2_with fail
    refine (HM.out _).mono ?_
    rintro e w1 ⟨rfl, hf1⟩
    go_wp2_with fail
    go_ret2
    rw [HS.out.1, HS.out.2]
    exact ⟨_, rfl, NewR.nil, ((Fr.refl No w).alloc _).then hf1⟩
  | true =>
    have hE' : 0 ≤ F ∧ F < 16 ∧ n ≤ 1048576 := of_decide_eq_true hE
    have HS := hid (show tokB F S D = sealB (tokO F S D) ∧ tokE F n = 0 from ⟨by unfold tokB tokE; rw [HN.out.1, if_pos hE']; rfl, by unfold tokE; rw [if_pos hE']⟩)
    rw [hE] at hM
    have HM := hid hM
    obtain ⟨e1, e2, e3⟩ := hE'
    clear hM hE
    obtain ⟨g, hgg⟩ : ∃ g, g = w.heap.size := ⟨_, rfl⟩
    have HG := hid hgg
    go_enter Try.func11, Try.ntmps11
    go_wp2_with fail
    refine (HM.out _).mono ?_
    rintro e w1 ⟨rfl, hf1⟩
    have hb1 : w1.heap[g]? = some (.cells #[.int .i64 F, .int .u32 (S : Int), .slice A n c] 25 (0, 0)) := (hf1.block g (by rw [HG.out, World.size_alloc]; omega) (fun h => h)).trans (by rw [HG.out]; exact heap_new _ _)
    obtain ⟨c0, c1, c2⟩ := blk3c hb1
    have hg1 : g < w1.heap.size := lt_of_cell c0
    have HF := hid (((Fr.refl No w).alloc _).then hf1)
    have HD := hid (HN.out.2.fr0 HF.out)
    rw [← hgg]
    have hwS : IntKind.i64.wrap (S : Int) = (S : Int) := w64 _ (by omega) (by omega)
    clear hf1 hgg hb1
    go_wp2_with fail
    go_region_held3 (fun w' => w'.cell? ⟨g, 0, none⟩ = some (.int .i64 F) ∧ w'.cell? ⟨g, 1, none⟩ = some (.int .u32 (S : Int)) ∧ w'.cell? ⟨g, 2, none⟩ = some (.slice A n c))
      (first | assumption | exact keep3 F4' (by first | omega | (simp; omega)) (fun h => Nat.lt_irrefl _ (Nat.lt_of_lt_of_le hg1 h)) (by assumption) | (refine keep3a ?_ (by assumption); first | omega | (simp; omega)) | exact keep3 N2.out.2.2.2.1 (by first | omega | (simp; omega)) (fun h => h) (by assumption) | exact ⟨c0, c1, c2⟩)
      (first
        | (go_at_call 31; (with_reducible refine (refPutBig_calls 4 (S : Int) _ (by omega)).mono ?_); rw [cut8_4]; rintro e w2 ⟨v2, rfl, hnew2⟩; obtain ⟨A2, n2, c2', rfl, N2⟩ := hnew2.use; clear hnew2; obtain rfl : n2 = 4 := by rw [← N2.out.1, putBE_length]
           have hg2 : g < w2.heap.size := by have := N2.out.2.2.2.1.size; (try simp at this); omega)
        | (first
             | refine step_app slU8 rfl (.tmp 11) (.tmp 15) rfl rfl (((Row.new w1 1 1 [.int .u8 (IntKind.u8.wrap F)] 5 rfl (by omega)).drew).fr N2.out.2.2.2.1 (fun _ _ h => h)) rfl (by rw [List.length_map, N2.out.1]) (Rd.cells.1 N2.out.2.1) (oneB _) (by omega) (by omega) ?_
             | refine step_app slU8 rfl (.tmp 11) (.tmp 15) rfl rfl (Row.new w2 1 1 [.int .u8 (IntKind.u8.wrap F)] 5 rfl (by omega)) rfl (by rw [List.length_map, N2.out.1]) (Rd.cells.1 (N2.out.2.1.alloc _)) (oneB _) (by omega) (by omega) ?_
           intro A4 c4' w4 ob4 hv4 F4 hob4
           have hsz2 := N2.out.2.2.2.1.size
           (try simp only [World.size_alloc, World.size_drew] at hsz2)
           have F4' := F4.mono (S' := fun k => w1.heap.size ≤ k) (fun k _ e => by injection e with e; (try simp only [World.size_alloc, World.size_drew] at e); omega)
           have hg3 : g < w4.heap.size := Nat.lt_of_lt_of_le hg2 (by have := F4.size; (try simp only [World.size_alloc, World.size_drew] at this); omega)))
    all_goals
      rename_i hHeldX
      obtain ⟨d0, d1, d2⟩ := hHeldX
      have hsz2 := N2.out.2.2.2.1.size
      (try simp only [World.size_alloc, World.size_drew] at hsz2)
      have hsz1 := HF.out.size
      have hf4 : Fr No w w4 := by
        refine Fr.trans ?_ F4' (fun k hk h => absurd h (by omega))
        repeat (first | with_reducible exact HF.out | with_reducible refine Fr.then ?_ N2.out.2.2.2.1 | with_reducible refine Fr.drew ?_ | with_reducible refine Fr.alloc ?_ _)
      have hk4 : ∀ k, ob4 = some k → w1.heap.size ≤ k := fun k hk => by
        rcases hob4 with h | ⟨j, h, hj⟩
        · rw [h] at hk; injection hk with hk; (try simp only [World.size_alloc, World.size_drew] at hk); omega
        · rw [h] at hk; injection hk with hk; (try simp only [World.size_alloc, World.size_drew] at hj); omega
      have hv4' : Row w4 1 (.slice A4 5 c4') ob4 5 ((HK.byteOf F :: putBE 4 (S : Int)).map B) := by
        rw [List.map_cons, B_byteOf, ← wrapu8]; exact hv4
      have hg4 : g < w4.heap.size := lt_of_cell d0
      have hs4 := hf4.size
      have hs4' : w1.heap.size ≤ w4.heap.size := by have := F4'.size; (try simp only [World.size_alloc, World.size_drew] at this); omega
      have HD4 := hid (HN.out.2.fr0 hf4)
      have H4 := hid (And.intro hv4' (And.intro hk4 hf4))
      clear hv4 hv4' hk4 hf4 hob4 F4 F4' hsz2 N2 HD c0 c1 c2 hs4
      go_wp2_with fail
      go_region_held3 (fun w' => w'.cell? ⟨g, 0, none⟩ = some (.int .i64 F) ∧ w'.cell? ⟨g, 1, none⟩ = some (.int .u32 (S : Int)) ∧ w'.cell? ⟨g, 2, none⟩ = some (.slice A n c))
        (first | assumption | exact keep3 F6' (by first | omega | (simp; omega)) (fun h => Nat.lt_irrefl _ (Nat.lt_of_lt_of_le hg1 h)) (by assumption) | exact keep3 F5' (by first | omega | (simp; omega)) (fun h => Nat.lt_irrefl _ (Nat.lt_of_lt_of_le hg1 h)) (by assumption) | exact keep3 N3.out.2.2.2.1 (by first | omega | (simp; omega)) (fun h => h) (by assumption) | exact ⟨d0, d1, d2⟩)
        (first
          | (go_at_call 31; (with_reducible refine (refPutBig_calls 4 (n : Int) _ (by omega)).mono ?_); rw [cut8_4]; rintro e w3 ⟨v3, rfl, hnew3⟩; obtain ⟨A3, n3, c3', rfl, N3⟩ := hnew3.use; clear hnew3; obtain rfl : n3 = 4 := by rw [← N3.out.1, putBE_length]
             have hs3 : w4.heap.size ≤ w3.heap.size := N3.out.2.2.2.1.size)
          | (refine step_app slU8 rfl (.tmp 17) (.tmp 21) rfl rfl (H4.out.1.drew.fr N3.out.2.2.2.1 (fun _ _ h => h)) rfl (by rw [List.length_map, N3.out.1]) (Rd.cells.1 N3.out.2.1) (oneB _) (by omega) (by omega) ?_
             intro A5 c5 w5 ob5 hv5 F5 hob5
             have F5' := F5.mono (S' := fun k => w1.heap.size ≤ k) (fun k _ e => H4.out.2.1 k e.symm)
             have hs5 : w3.heap.size ≤ w5.heap.size := F5.size
             have hk5 : ∀ k, ob5 = some k → w1.heap.size ≤ k := fun k hk => by
               rcases hob5 with h | ⟨j, h, hj⟩
               · exact H4.out.2.1 k (by rw [← h]; exact hk)
               · rw [h] at hk; injection hk with hk; omega
             have H5 := hid (And.intro hv5 (And.intro hk5 ((H4.out.2.2.drew.then N3.out.2.2.2.1).trans F5' (fun k hk h => absurd h (by omega)))))
             clear hv5 hk5 F5 hob5)
          | (refine step_app slU8 rfl (.tmp 22) (.tmp 24) rfl rfl H5.out.1 rfl (by rw [List.length_map, HN.out.1]; omega) (Rd.cells.1 (HN.out.2.fr0 H5.out.2.2)) (oneB _) (by omega) (by omega) ?_
             intro A6 c6 w6 ob6 hv6 F6 hob6
             have F6' := F6.mono (S' := fun k => w1.heap.size ≤ k) (fun k _ e => H5.out.2.1 k e.symm)))
      have hs6 : w5.heap.size ≤ w6.heap.size := F6.size
      have hk6 : ∀ k, ob6 = some k → w1.heap.size ≤ k := fun k hk => by
        rcases hob6 with h | ⟨j, h, hj⟩
        · exact H5.out.2.1 k (by rw [← h]; exact hk)
        · rw [h] at hk; injection hk with hk; omega
      have hv6' : Row w6 1 (.slice A6 (n + 9) c6) ob6 (n + 9) ((tokO F S D).map B) := by
        have e : (tokO F S D).map B = (HK.byteOf F :: putBE 4 (S : Int)).map B ++ (putBE 4 (n : Int)).map B ++ D.map B := by
          rw [← List.map_append, ← List.map_append, ← HN.out.1]; simp [tokO]
        rw [e, show n + 9 = 5 + 4 + n by omega]; exact hv6
      have hl6 : 5 + 4 + n = n + 9 := by omega
      rw [hl6]
      have H6 := hid (And.intro hv6' (And.intro hk6 (H5.out.2.2.trans F6' (fun k hk h => absurd h (by omega)))))
      rename_i hHeldY
      clear hv6 hv6' hk6 F6 F6' hob6 F5' hHeldY d0 d1 d2 hl6
      obtain ⟨r1, _, _, r4⟩ := H6.out.1.rd
      have HR6 := hid (And.intro r1 r4)
      clear r1 r4
      go_wp2_with fail
      refine (refOf_calls A6 (tokO F S D) (n + 9) c6 HR6.out.2 _ HR6.out.1 (by omega)).mono ?_
      rintro e w7 ⟨rfl, rfl⟩
      have hcl := crcM_lt 0 (tokO F S D)
      obtain ⟨C, hC⟩ : ∃ C, C = crcOf (tokO F S D) := ⟨_, rfl⟩
      have hCl : C < 4294967296 := by rw [hC]; exact hcl
      have HC := hid hC
      rw [← hC]
      clear hC hcl
      go_wp2_with fail
      refine (refPutLittle_calls 4 (C : Int) _ (by omega)).mono ?_
      rw [cut8_4]
      rintro e w8 ⟨v8, rfl, hnew8⟩
      obtain ⟨A8, n8, c8, rfl, N8⟩ := hnew8.use
      clear hnew8
      obtain rfl : n8 = 4 := by rw [← N8.out.1, putLE_length]
      go_wp2_with (at_builtin; refine wpList_app slU8 rfl (.tmp 26) (.tmp 30) rfl rfl (H6.out.1.fr N8.out.2.2.2.1 (fun _ _ h => h)) rfl (by rw [List.length_map, N8.out.1]) (Rd.cells.1 N8.out.2.1) (oneB _) (by omega) (by omega) ?_; intro A9 c9 w9 ob9 hrow9 hfr9 hob9)
      go_ret2
      have hsz8 := N8.out.2.2.2.1.size
      have hs1 := HF.out.size
      rw [HS.out.1, HS.out.2]
      refine ⟨_, rfl, New.mk' rfl (by rw [sealB_length, tokO_length, HN.out.1]) (by rw [show (sealB (tokO F S D)).map B = (tokO F S D).map B ++ (putLE 4 (C : Int)).map B by rw [HC.out, ← List.map_append]; rfl]; exact hrow9) (fun k hk => ?_) ((H6.out.2.2.then N8.out.2.2.2.1).fresh hfr9 (fun k hk => by have := H6.out.2.1 k hk; omega))⟩
      rcases hob9 with h | ⟨j, h, hj⟩
      · have := H6.out.2.1 k (by rw [← h]; exact hk)
        omega
      · rw [h] at hk; injection hk with hk; omega
end Go.Proofs.Ytponiapdpecioaa

/- The walks of ScreenReads and ScreenBegins. -/
import Derived.Test.YtamkfjbdcjkchaaDoorScLaw2
import Derived.Test.YtamkfjbdcjkchaaDoorSRr2
namespace Go.Proofs.YtamkfjbdcjkchaaDoor
open Go.RowKit Go.Proofs.HK
set_option linter.unusedVariables false
set_option linter.unusedSimpArgs false
attribute [local go_sem] max2_int min2_int max_two min_two
theorem scrS_tn {tn tn' : Nat} {T : List UInt8} (h : T.length = 3 * tn) (h' : T.length = 3 * tn') : tn = tn' := by omega
def Tab768 (r : Int × ScrS × Nat) : Prop := r.2.1.T.length ≤ 768
theorem no3_768 (e : Int) : Tab768 (no3 e) := by show (0 : Nat) ≤ 768; omega
theorem rEnd_768 {o : List UInt8} {p : Nat} {W H : Int} {T : List UInt8} {L : Bool} {C : Int} {I : Bool} (h : T.length ≤ 768) : Tab768 (rEnd o p W H T L C I) := by
  unfold rEnd
  split
  · exact no3_768 _
  · split
    · exact no3_768 _
    · exact h
theorem take_768 (l : List UInt8) (m : Nat) : (l.take (6 * 2 ^ (m % 8))).length ≤ 768 := by
  have h1 : 2 ^ (m % 8) ≤ 2 ^ 7 := Nat.pow_le_pow_right (by omega) (by omega)
  rw [List.length_take]
  omega
theorem rTail_768 {o : List UInt8} {p : Nat} {W H : Int} {T : List UInt8} {C : Int} (h : T.length ≤ 768) : Tab768 (rTail o p W H T C) := by
  unfold rTail
  repeat' split
  all_goals first | exact no3_768 _ | exact rEnd_768 h | exact rEnd_768 (take_768 _ _)
theorem rRest_768 {o : List UInt8} {p : Nat} {W H : Int} {T : List UInt8} (h : T.length ≤ 768) : Tab768 (rRest o p W H T) := by
  unfold rRest
  split
  · exact no3_768 _
  · exact rTail_768 h
theorem scrS_768 (o : List UInt8) : (scrS o).2.1.T.length ≤ 768 := by
  rw [← rScr_eq]
  show Tab768 (rScr o)
  unfold rScr
  split
  · unfold rHead
    repeat' split
    all_goals first | exact no3_768 _ | exact rRest_768 (take_768 _ _) | exact rRest_768 (by simp)
  · exact no3_768 _
set_option maxRecDepth 100000 in
set_option maxHeartbeats 3200000 in
theorem screenReads_walk (A : Option Addr) (xs : List UInt8) (n c : Nat) (w : World) (s1 : SlIn B 1 w A xs n c) (hw : TabW w) :
    Calls Tryd.prog 3 #[.slice A n c] w fun e w' => e = .returned (.bool true) ∧ Fr No w w' := by
  have HN := hid (And.intro s1.len (And.intro s1.rd s1.cap))
  have hnr : n ≤ 140737488351232 := by have := s1.reach; omega
  obtain ⟨r, hr⟩ : ∃ r, r = scrS xs := ⟨_, rfl⟩
  have rcl : ∀ W A c, Rd B W A xs → n ≤ c → Calls Tryd.prog 8 #[.slice A n c] W (RetS W r) := fun W A c h1 h2 => by rw [hr]; exact scread_calls A xs n c W HN.out.1 h1 h2 (by omega)
  have dcl : ∀ W A c, Rd B W A xs → n ≤ c → Calls Tryd.prog 9 #[.slice A n c] W (RetS W r) := fun W A c h1 h2 => by rw [hr, ← rScr_eq]; exact refRead17_calls A xs n c W HN.out.1 h1 h2 (by omega)
  have HRC := hid rcl
  have HDC := hid dcl
  have HT := hid hw
  have h768 : r.2.1.T.length ≤ 768 := by rw [hr]; exact scrS_768 xs
  clear rcl dcl hw s1 hr
  obtain ⟨er, ⟨sW, sH, T, L, C, I, K⟩, nn⟩ := r
  simp only at h768
  go_enter Tryd.func3, Tryd.ntmps3
  go_wp2_with fail
  refine (fixed17_calls _ HT.out).mono ?_
  rintro e w2 ⟨rfl, hf2⟩
  have H2 := hid hf2
  clear hf2
  go_wp2_with (at_builtin; refine wpList_app slU8 rfl (.tmp 12) (.tmp 13) rfl rfl (Row.new w2 1 0 [] _ rfl (by omega)) rfl (by rw [List.length_map, HN.out.1, Nat.mul_one]) ((Rd.cells.1 (HN.out.2.1.fr0 H2.out)).fr (S := No) ((Fr.refl No w2).alloc _) (fun _ _ h => h)) (oneB _) (by omega) (by omega) ?_; intro A4 c4 w4 ob4 hv4 hf4 hob4; simp only [Nat.zero_add, List.nil_append] at hv4 ⊢; obtain ⟨hF4, hk4⟩ := after_new hf4 hob4; have H4 := hid (And.intro hv4 (And.intro hF4 (H2.out.then hF4))); clear hv4 hf4 hob4 hF4 hk4)
  refine (HRC.out w4 A4 c4 H4.out.1.rd.1 H4.out.1.rd.2.1).mono ?_
  rintro e w5 ⟨tA, tn, tc, rfl, ht5, hf5⟩
  unfold scC
  have H5 := hid (And.intro ht5 hf5)
  clear ht5 hf5
  go_wp2_with fail
  obtain ⟨w6, hw6⟩ : ∃ W, W = w5.alloc (.cells #[.int .i64 sW, .int .i64 sH, .slice tA tn tc, .bool L, .int .i64 C, .bool I, .int .i64 K] 26) := ⟨_, rfl⟩
  obtain ⟨g1, hg1⟩ : ∃ g, g = w5.heap.size := ⟨_, rfl⟩
  rw [← hw6, ← hg1]
  have hf6 : Fr No w5 w6 := by rw [hw6]; exact (Fr.refl No w5).alloc _
  have hb6 : w6.heap[g1]? = some (.cells #[.int .i64 sW, .int .i64 sH, .slice tA tn tc, .bool L, .int .i64 C, .bool I, .int .i64 K] 26 (0, 0)) := by rw [hw6, hg1]; exact heap_new _ _
  have H6 := hid (And.intro hb6 hf6)
  clear hw6 hg1 hf6 hb6
  refine (HDC.out w6 A c (HN.out.2.1.fr0 (H4.out.2.2.then (H5.out.2.then H6.out.2))) HN.out.2.2).mono ?_
  rintro e w7 ⟨tA', tn', tc', rfl, ht7, hf7⟩
  unfold scC
  obtain rfl : tn = tn' := scrS_tn H5.out.1.1 ht7.1
  have H7 := hid (And.intro ht7 hf7)
  clear ht7 hf7
  obtain ⟨w8, hw8⟩ : ∃ W, W = w7.alloc (.cells #[.int .i64 sW, .int .i64 sH, .slice tA' tn tc', .bool L, .int .i64 C, .bool I, .int .i64 K] 26) := ⟨_, rfl⟩
  obtain ⟨g2, hg2⟩ : ∃ g, g = w7.heap.size := ⟨_, rfl⟩
  have hf8 : Fr No w7 w8 := by rw [hw8]; exact (Fr.refl No w7).alloc _
  have hb8 : w8.heap[g2]? = some (.cells #[.int .i64 sW, .int .i64 sH, .slice tA' tn tc', .bool L, .int .i64 C, .bool I, .int .i64 K] 26 (0, 0)) := by rw [hw8, hg2]; exact heap_new _ _
  have hb68 : w8.heap[g1]? = some (.cells #[.int .i64 sW, .int .i64 sH, .slice tA tn tc, .bool L, .int .i64 C, .bool I, .int .i64 K] 26 (0, 0)) := ((H7.out.2.then hf8).block g1 (Array.getElem?_eq_some_iff.1 H6.out.1).1 (fun h => h)).trans H6.out.1
  have H8 := hid hf8
  have HW8 := hid (And.intro hw8 hg2)
  clear hw8 hg2 hf8
  go_upto_region 6 with fail
  rw [← HW8.out.1, ← HW8.out.2]
  obtain ⟨p0, p1, p2, p3, p4, p5, p6, pf⟩ := blk7 hb68
  obtain ⟨q0, q1, q2, q3, q4, q5, q6, qf⟩ := blk7 hb8
  clear hb8 hb68
  have hself : (er == er) = true := by simp
  have hself2 : ((nn : Int) == (nn : Int)) = true := by simp
  have htn3 : tn ≤ 256 := by have := H5.out.1.1; omega
  clear h768
  go_wp2_with fail
  refine (same17_calls sW sH T L C I K tA tA' tn tc tc' w8 H5.out.1.1 (H5.out.1.cells.fr (H6.out.2.then (H7.out.2.then H8.out)) (fun _ _ h => h)) (H7.out.1.cells.fr H8.out (fun _ _ h => h)) (by omega)).mono ?_
  rintro e w9 ⟨rfl, hf9⟩
  have H9 := hid hf9
  clear hf9 p0 p1 p2 p3 p4 p5 p6 pf q0 q1 q2 q3 q4 q5 q6 qf
  go_wp2_with fail
  have hfA : Fr No w4 w9 := (H5.out.2.then H6.out.2).then ((H7.out.2.then H8.out).then H9.out)
  refine (same_calls A4 A xs xs n n c4 c HN.out.1 HN.out.1 w9 (H4.out.1.rd.1.fr0 hfA) (HN.out.2.1.fr0 (H4.out.2.2.then hfA))).mono ?_
  rw [decide_eq_true rfl]
  rintro e w10 ⟨rfl, h10⟩
  rw [h10]
  clear h10 w10
  have HFA := hid (H4.out.2.2.then hfA)
  clear hfA
  go_wp2_with fail
  go_ret
  exact ⟨rfl, HFA.out⟩
set_option maxRecDepth 100000 in
set_option maxHeartbeats 3200000 in
theorem screenBegins_walk (A : Option Addr) (ys : List UInt8) (m c : Nat) (at_ : Int) (w : World) (s1 : SlIn B 1 w A ys m c) (hat : 0 ≤ at_ ∧ at_ ≤ 65535) (hw : TabW w) :
    Calls Tryd.prog 4 #[.slice A m c, .int .u16 at_] w fun e w' => e = .returned (.bool true) ∧ Fr No w w' := by
  have HN0 := hid (And.intro s1.len (And.intro s1.rd s1.cap))
  have hnr : m ≤ 140737488351232 := by have := s1.reach; omega
  obtain ⟨n, hn⟩ : ∃ n, n = at_.toNat % (m + 1) := ⟨_, rfl⟩
  have hnm : n ≤ m := by have := Nat.mod_lt at_.toNat (show m + 1 > 0 by omega); omega
  have hrm : at_ % ((m : Int) + 1) = (n : Int) := by
    obtain ⟨a, rfl⟩ := Int.eq_ofNat_of_zero_le hat.1
    rw [hn, Int.toNat_natCast]
    have := (Int.natCast_emod a (m + 1)).symm
    rw [← this]
    push_cast
    rfl
  have hrt : at_.tmod ((m : Int) + 1) = (n : Int) := by rw [Int.tmod_eq_emod_of_nonneg hat.1]; exact hrm
  obtain ⟨xs, hxs⟩ : ∃ xs, xs = ys.take n := ⟨_, rfl⟩
  have HN := hid (show xs.length = n ∧ Rd B w A xs ∧ n ≤ c from by rw [hxs]; exact ⟨by rw [List.length_take, HN0.out.1]; omega, HN0.out.2.1.take n, by have := HN0.out.2.2; omega⟩)
  obtain ⟨r, hr⟩ : ∃ r, r = scrS xs := ⟨_, rfl⟩
  have rcl : ∀ W A c, Rd B W A xs → n ≤ c → Calls Tryd.prog 8 #[.slice A n c] W (RetS W r) := fun W A c h1 h2 => by rw [hr]; exact scread_calls A xs n c W HN.out.1 h1 h2 (by omega)
  have dcl : ∀ W A c, Rd B W A xs → n ≤ c → Calls Tryd.prog 9 #[.slice A n c] W (RetS W r) := fun W A c h1 h2 => by rw [hr, ← rScr_eq]; exact refRead17_calls A xs n c W HN.out.1 h1 h2 (by omega)
  have HRC := hid rcl
  have HDC := hid dcl
  have HT := hid hw
  have h768 : r.2.1.T.length ≤ 768 := by rw [hr]; exact scrS_768 xs
  have hcut := cut_h slU8 A m c (n : Int) n rfl (by have := HN.out.2.2; omega)
  have hm1 : IntKind.i64.wrap ((m : Int) + 1) = (m : Int) + 1 := w64 _ (by omega) (by omega)
  have hwat : IntKind.i64.wrap at_ = at_ := w64 _ (by omega) (by omega)
  have hnz : ((m : Int) + 1 == 0) = false := by rw [beq_eq_false_iff_ne]; omega
  clear rcl dcl hw s1 hr hxs hn
  obtain ⟨er, ⟨sW, sH, T, L, C, I, K⟩, nn⟩ := r
  simp only at h768
  go_enter Tryd.func4, Tryd.ntmps4
  go_wp2_with fail
  refine (fixed17_calls _ HT.out).mono ?_
  rintro e w2 ⟨rfl, hf2⟩
  have H2 := hid hf2
  clear hf2
  go_wp2_with fail
  refine (HRC.out w2 A c (HN.out.2.1.fr0 H2.out) HN.out.2.2).mono ?_
  rintro e w5 ⟨tA, tn, tc, rfl, ht5, hf5⟩
  unfold scC
  have H5 := hid (And.intro ht5 hf5)
  clear ht5 hf5
  go_wp2_with fail
  obtain ⟨w6, hw6⟩ : ∃ W, W = w5.alloc (.cells #[.int .i64 sW, .int .i64 sH, .slice tA tn tc, .bool L, .int .i64 C, .bool I, .int .i64 K] 26) := ⟨_, rfl⟩
  obtain ⟨g1, hg1⟩ : ∃ g, g = w5.heap.size := ⟨_, rfl⟩
  rw [← hw6, ← hg1]
  have hf6 : Fr No w5 w6 := by rw [hw6]; exact (Fr.refl No w5).alloc _
  have hb6 : w6.heap[g1]? = some (.cells #[.int .i64 sW, .int .i64 sH, .slice tA tn tc, .bool L, .int .i64 C, .bool I, .int .i64 K] 26 (0, 0)) := by rw [hw6, hg1]; exact heap_new _ _
  have H6 := hid (And.intro hb6 hf6)
  clear hw6 hg1 hf6 hb6
  refine (HDC.out w6 A c (HN.out.2.1.fr0 (H2.out.then (H5.out.2.then H6.out.2))) HN.out.2.2).mono ?_
  rintro e w7 ⟨tA', tn', tc', rfl, ht7, hf7⟩
  unfold scC
  obtain rfl : tn = tn' := scrS_tn H5.out.1.1 ht7.1
  have H7 := hid (And.intro ht7 hf7)
  clear ht7 hf7
  obtain ⟨w8, hw8⟩ : ∃ W, W = w7.alloc (.cells #[.int .i64 sW, .int .i64 sH, .slice tA' tn tc', .bool L, .int .i64 C, .bool I, .int .i64 K] 26) := ⟨_, rfl⟩
  obtain ⟨g2, hg2⟩ : ∃ g, g = w7.heap.size := ⟨_, rfl⟩
  have hf8 : Fr No w7 w8 := by rw [hw8]; exact (Fr.refl No w7).alloc _
  have hb8 : w8.heap[g2]? = some (.cells #[.int .i64 sW, .int .i64 sH, .slice tA' tn tc', .bool L, .int .i64 C, .bool I, .int .i64 K] 26 (0, 0)) := by rw [hw8, hg2]; exact heap_new _ _
  have hb68 : w8.heap[g1]? = some (.cells #[.int .i64 sW, .int .i64 sH, .slice tA tn tc, .bool L, .int .i64 C, .bool I, .int .i64 K] 26 (0, 0)) := ((H7.out.2.then hf8).block g1 (Array.getElem?_eq_some_iff.1 H6.out.1).1 (fun h => h)).trans H6.out.1
  have H8 := hid hf8
  have HW8 := hid (And.intro hw8 hg2)
  clear hw8 hg2 hf8
  go_upto_region 6 with fail
  rw [← HW8.out.1, ← HW8.out.2]
  obtain ⟨p0, p1, p2, p3, p4, p5, p6, pf⟩ := blk7 hb68
  obtain ⟨q0, q1, q2, q3, q4, q5, q6, qf⟩ := blk7 hb8
  clear hb8 hb68
  have hself : (er == er) = true := by simp
  have hself2 : ((nn : Int) == (nn : Int)) = true := by simp
  have htn3 : tn ≤ 256 := by have := H5.out.1.1; omega
  clear h768
  go_wp2_with fail
  refine (same17_calls sW sH T L C I K tA tA' tn tc tc' w8 H5.out.1.1 (H5.out.1.cells.fr (H6.out.2.then (H7.out.2.then H8.out)) (fun _ _ h => h)) (H7.out.1.cells.fr H8.out (fun _ _ h => h)) (by omega)).mono ?_
  rintro e w9 ⟨rfl, hf9⟩
  have H9 := hid hf9
  clear hf9 p0 p1 p2 p3 p4 p5 p6 pf q0 q1 q2 q3 q4 q5 q6 qf
  go_wp2_with fail
  go_ret
  exact ⟨rfl, H2.out.then ((H5.out.2.then H6.out.2).then ((H7.out.2.then H8.out).then H9.out))⟩
end Go.Proofs.YtamkfjbdcjkchaaDoor

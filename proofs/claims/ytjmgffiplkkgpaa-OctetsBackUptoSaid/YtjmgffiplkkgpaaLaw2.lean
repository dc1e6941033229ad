/- The walks of the laws of layer 2. -/
import Derived.Test.YtjmgffiplkkgpaaRefC
import Derived.Deep.Draws
import Derived.Test.YtjmgffiplkkgpaaOpen
namespace Go.Proofs.Ytjmgffiplkkgpaa
open Go.RowKit Go.Proofs.HK
set_option linter.unusedVariables false
set_option linter.unusedSimpArgs false
attribute [local go_sem] max2_int min2_int max_two min_two

theorem fixed2_calls (w : World) : Calls Try.prog 14 #[] w fun e w' => e = .returned (.bool true) ∧ Fr No w w' := by
  have e1 : bigS [1, 2, 3] 0 2 = 258 := by decide
  have e2 : littleS [1, 2, 3] 0 2 = 513 := by decide
  have e3 : fitsS 3 0 2 = 0 := by decide
  have e4 : fitsS 3 2 2 = 2 := by decide
  have e5 : numB [1, 2, 3] 0 0 2 = 258 := by decide
  have e6 : numP [1, 2, 3] 0 0 2 = 2 := by decide
  have e7 : numE [1, 2, 3] 0 0 2 = 0 := by decide
  have e8 : leftS [1, 2, 3] 2 0 = 1 := by decide
  have e9 : numL [1, 2, 3] 2 0 2 = 0 := by decide
  have e10 : numP [1, 2, 3] 2 0 2 = 2 := by decide
  have e11 : numE [1, 2, 3] 2 0 2 = 2 := by decide
  have e12 : leftS [1, 2, 3] 2 2 = 0 := by decide
  have E6 := hid e6
  have E7 := hid e7
  have E10 := hid e10
  have E11 := hid e11
  clear e6 e7 e10 e11
  go_enter Try.func14, Try.ntmps14
  go_wp2_with fail
  refine (big_calls _ [1, 2, 3] _ _ rfl _ _ _ (rd_new B w [1, 2, 3] _ _ rfl) (by decide)).mono ?_
  rintro e w1 ⟨rfl, hw⟩
  have hf : Fr No w w1 := by rw [hw]; exact (Fr.refl _ _).alloc _
  have HF := hid hf
  clear hf hw
  go_wp2_with fail
  refine (little_calls _ [1, 2, 3] _ _ rfl _ _ _ (rd_new B w1 [1, 2, 3] _ _ rfl) (by decide)).mono ?_
  rintro e w2 ⟨rfl, hw⟩
  have hf : Fr No w w2 := by rw [hw]; exact HF.out.alloc _
  clear HF
  have HF := hid hf
  clear hf hw
  go_wp2_with fail
  refine (big_calls _ [1, 2, 3] _ _ rfl _ _ _ (rd_new B w2 [1, 2, 3] _ _ rfl) (by decide)).mono ?_
  rintro e w3 ⟨rfl, hw⟩
  have hf : Fr No w w3 := by rw [hw]; exact HF.out.alloc _
  clear HF
  have HF := hid hf
  clear hf hw
  go_wp2_with fail
  refine (new_calls _ [1, 2, 3] _ _ rfl _ (rd_new B w3 [1, 2, 3] _ _ rfl) (by decide)).mono ?_
  rintro e w4 ⟨g, rfl, hc, hf⟩
  have hg := hc.gl
  have hgw : w.heap.size ≤ g := by have := HF.out.size; simp at hg; omega
  have hf4 : Fr No w w4 := (HF.out.alloc _).then hf
  clear HF hf hg
  have HH := hid (And.intro hc hf4)
  clear hc hf4
  go_wp2_with fail
  refine (cbig_calls _ _ _ _ _ _ HH.out.1).mono ?_
  rw [E6.out, E7.out]
  rintro e w5 ⟨rfl, hc, hf⟩
  have hf5 : Fr No w w5 := HH.out.2.trans hf (fun k hk e => by have : k = g := e; omega)
  clear HH hf
  have HH := hid (And.intro hc hf5)
  clear hc hf5
  go_wp2_with fail
  refine (left_calls _ _ _ _ _ HH.out.1).mono ?_
  rintro e w6 ⟨rfl, n6, hw⟩
  have hc := HH.out.1.drewN n6
  rw [← hw] at hc
  have hf6 : Fr No w w6 := by rw [hw]; exact HH.out.2.drewN _
  clear HH hw
  have HH := hid (And.intro hc hf6)
  clear hc hf6
  go_wp2_with fail
  refine (clittle_calls _ _ _ _ _ _ HH.out.1).mono ?_
  rw [E10.out, E11.out]
  rintro e w7 ⟨rfl, hc, hf⟩
  have hf7 : Fr No w w7 := HH.out.2.trans hf (fun k hk e => by have : k = g := e; omega)
  clear HH hf
  have HH := hid (And.intro hc hf7)
  clear hc hf7
  go_wp2_with fail
  refine (err_calls _ _ _ _ _ HH.out.1).mono ?_
  rintro e w8 ⟨rfl, rfl⟩
  go_wp2_with fail
  refine (left_calls _ _ _ _ _ HH.out.1).mono ?_
  rintro e w9 ⟨rfl, n9, hw⟩
  have hf9 : Fr No w w9 := by rw [hw]; exact HH.out.2.drewN _
  clear HH hw
  have HH := hid hf9
  clear hf9
  go_wp2
  go_ret
  exact ⟨rfl, HH.out⟩

theorem octetsNil_walk (n er : Int) (w : World) (b0 : -9223372036854775808 ≤ n ∧ n ≤ 9223372036854775807) (b1 : -9223372036854775808 ≤ er ∧ er ≤ 9223372036854775807) : Calls Try.prog 7 #[.int .i64 n, .int .i64 er] w fun e w' => e = .returned (.bool true) ∧ Fr No w w' := by
  go_enter Try.func7, Try.ntmps7
  go_wp2_with fail
  refine (fixed2_calls _).mono ?_
  rintro e w1 ⟨rfl, hf⟩
  have HF := hid hf
  clear hf
  go_wp2_with (first
    | (go_at_call 32; refine (fail_nil _ _).mono ?_; rintro e w' ⟨rfl, rfl⟩)
    | (go_at_call 25; refine (cbig_nil _ _).mono ?_; rintro e w' ⟨rfl, rfl⟩)
    | (go_at_call 27; refine (clittle_nil _ _).mono ?_; rintro e w' ⟨rfl, rfl⟩)
    | (go_at_call 30; refine (cbytes_nil _ _).mono ?_; rintro e w' ⟨rfl, rfl⟩)
    | (go_at_call 35; refine (left_nil _).mono ?_; rintro e w' ⟨rfl, rfl⟩)
    | (go_at_call 34; refine (err_nil _).mono ?_; rintro e w' ⟨rfl, rfl⟩))
  go_ret
  exact ⟨rfl, HF.out⟩

theorem octetsNumbers_walk (A : Option Addr) (bs : List UInt8) (n0 c : Nat) (at_ n : Int) (w : World) (s0 : SlIn B 1 w A bs n0 c) (b1 : -9223372036854775808 ≤ at_ ∧ at_ ≤ 9223372036854775807) (b2 : -9223372036854775808 ≤ n ∧ n ≤ 9223372036854775807) :
    Calls Try.prog 3 #[.slice A n0 c, .int .i64 at_, .int .i64 n] w fun e w' => e = .returned (.bool true) ∧ Fr No w w' := by
  obtain ⟨rfl, hr, hlc, hl⟩ := s0
  have HR := hid hr
  clear hr
  go_enter Try.func3, Try.ntmps3
  go_wp2_with fail
  refine (fixed2_calls _).mono ?_
  rintro e w1 ⟨rfl, hf⟩
  have HR1 := hid (HR.out.fr0 hf)
  have HF := hid hf
  clear hf HR
  go_wp2_with (first
    | (go_at_call 15; refine (big_calls _ _ _ _ rfl _ _ _ HR1.out (by omega)).mono ?_; rintro e w' ⟨rfl, rfl⟩)
    | (go_at_call 17; refine (little_calls _ _ _ _ rfl _ _ _ HR1.out (by omega)).mono ?_; rintro e w' ⟨rfl, rfl⟩)
    | (go_at_call 16; refine (refBig_calls _ _ _ _ rfl _ _ _ HR1.out (by omega) hlc).mono ?_; rintro e w' ⟨rfl, rfl⟩)
    | (go_at_call 18; refine (refLittle_calls _ _ _ _ rfl _ _ _ HR1.out (by omega) hlc).mono ?_; rintro e w' ⟨rfl, hf2⟩; have HF2 := hid hf2; clear hf2))
  go_ret
  exact ⟨rfl, HF.out.then HF2.out⟩

theorem octetsPuts_walk (n v : Int) (w : World) (b0 : -9223372036854775808 ≤ n ∧ n ≤ 9223372036854775807) (b1 : -9223372036854775808 ≤ v ∧ v ≤ 9223372036854775807) :
    Calls Try.prog 8 #[.int .i64 n, .int .i64 v] w fun e w' => e = .returned (.bool true) ∧ Fr No w w' := by
  have B1 := hid b1
  clear b0 b1
  go_enter Try.func8, Try.ntmps8
  go_wp2_with fail
  refine (fixed2_calls _).mono ?_
  rintro e w1 ⟨rfl, hf⟩
  have F1 := hid hf
  clear hf
  go_wp2_with fail
  refine (putBig_calls _ _ _ B1.out).mono ?_
  rintro e w2 ⟨x, rfl, hn⟩
  obtain ⟨A2, n2, c2, rfl, H2⟩ := hn.use
  clear hn
  go_wp2_with fail
  refine (refPutBig_calls _ _ _ B1.out).mono ?_
  rintro e w3 ⟨x, rfl, hn⟩
  obtain ⟨A3, n3, c3, rfl, H3⟩ := hn.use
  clear hn
  go_wp2_with fail
  refine (same_calls _ _ _ _ _ _ _ _ H2.out.1 H3.out.1 _ (H2.out.2.1.fr0 H3.out.2.2.2.1) H3.out.2.1).mono ?_
  rintro e w4 ⟨rfl, rfl⟩
  have F4 := hid ((F1.out.then H2.out.2.2.2.1).then H3.out.2.2.2.1)
  clear F1 H2 H3
  go_wp2_with fail
  refine (putLittle_calls _ _ _ B1.out).mono ?_
  rintro e w5 ⟨x, rfl, hn⟩
  obtain ⟨A5, n5, c5, rfl, H5⟩ := hn.use
  clear hn
  go_wp2_with fail
  refine (refPutLittle_calls _ _ _ B1.out).mono ?_
  rintro e w6 ⟨x, rfl, hn⟩
  obtain ⟨A6, n6, c6, rfl, H6⟩ := hn.use
  clear hn
  go_wp2_with fail
  refine (same_calls _ _ _ _ _ _ _ _ H5.out.1 H6.out.1 _ (H5.out.2.1.fr0 H6.out.2.2.2.1) H6.out.2.1).mono ?_
  rintro e w7 ⟨rfl, rfl⟩
  go_wp2
  go_ret
  exact ⟨rfl, (F4.out.then H5.out.2.2.2.1).then H6.out.2.2.2.1⟩

theorem octetsWhole_walk (A : Option Addr) (bs : List UInt8) (n0 c : Nat) (A' : Option Addr) (zs : List UInt8) (n1 c' : Nat) (w : World) (s0 : SlIn B 1 w A bs n0 c) (s1 : SlIn B 1 w A' zs n1 c') :
    Calls Try.prog 6 #[.slice A n0 c, .slice A' n1 c'] w fun e w' => e = .returned (.bool true) ∧ Fr No w w' := by
  obtain ⟨hn0, hr, hlc, hl⟩ := s0
  obtain ⟨hn1, hr', hlc', hl'⟩ := s1
  have hb0 : bs.length ≤ 140737488351232 := by omega
  have hz0 : zs.length ≤ 140737488351232 := by omega
  subst hn1
  have HR := hid (And.intro hn0 (And.intro hr hr'))
  clear hr hr' hn0
  go_enter Try.func6, Try.ntmps6
  go_wp2_with fail
  refine (fixed2_calls _).mono ?_
  rintro e w1 ⟨rfl, hf⟩
  have F1 := hid hf
  clear hf
  go_wp2_with fail
  refine (new_calls _ _ _ _ HR.out.1 _ (HR.out.2.1.fr0 F1.out) (by omega)).mono ?_
  rintro e w2 ⟨g, rfl, hc, hf⟩
  obtain ⟨L, U, hL, hU, hc2⟩ : ∃ L U, w.heap.size ≤ L ∧ U ≤ w2.heap.size ∧ Cur L U w2 g bs 0 0 := ⟨_, _, F1.out.size, Nat.le_refl _, hc⟩
  have H2 := hid (And.intro hc2 (F1.out.then hf))
  clear hc hc2 hf F1
  go_wp2
  go_loopw [6, 17] (fun v i wr => ∃ (k p : Nat) (A1 : Option Addr) (c1 : Nat) (ob1 : Option Nat), k ≤ zs.length ∧ i = .int .i64 k ∧ p ≤ bs.length ∧ v = .slice A1 p c1 ∧
      Row wr 1 (.slice A1 p c1) ob1 p ((bs.take p).map B) ∧ Cur L U wr g bs p 0 ∧ (∀ q, ob1 = some q → U ≤ q) ∧ Fr No w wr ∧ U ≤ wr.heap.size)
    (fun _ i _ => zs.length - (intOf i).toNat)
  case atStart => exact ⟨0, 0, none, 0, none, by omega, rfl, by omega, rfl, Row.nil _ _, H2.out.1, fun _ h => (by cases h), H2.out.2, hU⟩
  case round =>
    obtain ⟨k, p, A1, c1, ob1, hk, rfl, hp, rfl, h1, h2, h3, h4, h5⟩ := hrel
    have HREL := hid (And.intro h1 (And.intro h2 (And.intro h3 (And.intro h4 h5))))
    clear h1 h2 h3 h4 h5 H2
    by_cases hlt : k < zs.length
    · obtain ⟨ad, hA', hcell⟩ := (HR.out.2.2.fr0 HREL.out.2.2.2.1).atN k hlt
      subst hA'
      have hbz := B_lt (rdB zs k)
      go_wp2_with fail
      refine (left_calls _ _ _ _ _ HREL.out.2.1).mono ?_
      rintro e w3 ⟨rfl, n3, hw3⟩
      have e1 : leftS bs p 0 = ((bs.length - p : Nat) : Int) := rfl
      obtain ⟨m, hm⟩ : ∃ m : Nat, mn ((rdB zs k).toNat : Int) ((bs.length - p : Nat) : Int) = (m : Int) := ⟨(mn ((rdB zs k).toNat : Int) ((bs.length - p : Nat) : Int)).toNat, by rw [mn_eq]; omega⟩
      have hmp : p + m ≤ bs.length := by rw [mn_eq] at hm; omega
      have E3 : Hid (byE bs p 0 m = 0) := by unfold byE; rw [if_pos rfl, if_neg (by omega), if_neg (by omega)]; exact rfl
      have E2 : Hid (byP bs p 0 m = p + m) := by unfold byP; rw [E3.out, if_pos ⟨rfl, rfl⟩]; exact rfl
      have E1 : Hid (byB bs p 0 m = (bs.drop p).take m) := by unfold byB; rw [E3.out, if_pos ⟨rfl, rfl⟩]; exact rfl
      have hc3 := HREL.out.2.1.drewN n3
      have hf3 : Fr No wr w3 := by rw [hw3]; exact (Fr.refl _ _).drewN _
      rw [← hw3] at hc3
      have H3 := hid (And.intro hc3 hf3)
      clear hw3 hc3 hf3
      go_wp2_with fail
      refine (cbytes_calls _ _ _ _ _ _ H3.out.1).mono ?_
      rw [E1.out, E2.out, E3.out]
      rintro e w4 ⟨x, rfl, hnew, hc4, hf4⟩
      obtain ⟨A4, n4, c4, rfl, H4⟩ := hnew.use
      have hlm : n4 = m := by rw [← H4.out.1, List.length_take, List.length_drop]; omega
      subst hlm
      clear hnew
      have hgL := hc4.gl
      have hgU := hc4.gu
      have hrow4 : Row w4 1 (.slice A1 p c1) ob1 p ((bs.take p).map B) := (HREL.out.1.fr H3.out.2 (fun _ _ h => h)).fr hf4 (fun q hq (e : q = g) => by have := HREL.out.2.2.1 q hq; omega)
      have hfr4 : Fr No w w4 := (HREL.out.2.2.2.1.then H3.out.2).trans hf4 (fun q hq (e : q = g) => by omega)
      have hs4 : U ≤ w4.heap.size := by have := HREL.out.2.2.2.2; have := H3.out.2.size; have := hf4.size; omega
      have H5 := hid (And.intro hrow4 (And.intro hfr4 (And.intro hs4 hc4)))
      clear hrow4 hfr4 hc4 hf4 hs4 H3
      go_wp2_with (at_builtin; refine wpList_app slU8 rfl (.tmp 33) (.tmp 34) rfl rfl H5.out.1 rfl (by rw [List.length_map, H4.out.1, Nat.mul_one]) (Rd.cells.1 H4.out.2.1) (oneB _) (by omega) (by omega) ?_; intro A6 c6 w6 ob6 hv6 hf6 hob6)
      have hv6' : Row w6 1 (.slice A6 (p + n4) c6) ob6 (p + n4) ((bs.take (p + n4)).map B) := by rw [take_add, List.map_append]; exact hv6
      have hc6 := H5.out.2.2.2.fr hf6 (fun q h1 h2 (e : some q = ob1) => by have := HREL.out.2.2.1 q e.symm; omega)
      have hfr6 : Fr No w w6 := H5.out.2.1.fresh hf6 (fun q hq => by have := HREL.out.2.2.1 q hq; omega)
      have hs6 : U ≤ w6.heap.size := by have := H5.out.2.2.1; have := hf6.size; omega
      have ho6 : ∀ q, ob6 = some q → U ≤ q := fun q hq => by
        rcases hob6 with h | ⟨j, h, hj⟩
        · exact HREL.out.2.2.1 q (by rw [← h]; exact hq)
        · rw [h] at hq; injection hq with hq; have := H5.out.2.2.1; omega
      have H6 := hid (And.intro hv6' (And.intro hc6 (And.intro ho6 (And.intro hfr6 hs6))))
      clear hv6 hv6' hc6 ho6 hfr6 hs6 hf6 hob6 H5 HREL
      go_wp2
      go_roundw
      case rel => exact ⟨k + 1, p + n4, A6, c6, ob6, by omega, by go_num, hmp, rfl, H6.out⟩
      case measure => simp [intOf] <;> omega
    · have hkz : zs.length ≤ k := by omega
      obtain ⟨m, hm⟩ : ∃ m : Nat, m = bs.length - p := ⟨_, rfl⟩
      have e1 : leftS bs p 0 = (m : Int) := by rw [hm]; rfl
      have e2 : leftS bs (p + m) 0 = 0 := by show ((bs.length - (p + m) : Nat) : Int) = 0; omega
      have hmp : p + m = bs.length := by omega
      have E3 : Hid (byE bs p 0 m = 0) := by unfold byE; rw [if_pos rfl, if_neg (by omega), if_neg (by omega)]; exact rfl
      have E2 : Hid (byP bs p 0 m = p + m) := by unfold byP; rw [E3.out, if_pos ⟨rfl, rfl⟩]; exact rfl
      have E1 : Hid (byB bs p 0 m = (bs.drop p).take m) := by unfold byB; rw [E3.out, if_pos ⟨rfl, rfl⟩]; exact rfl
      have HMP := hid hmp
      clear hm hmp
      go_wp2_with fail
      refine (left_calls _ _ _ _ _ HREL.out.2.1).mono ?_
      rintro e w3 ⟨rfl, n3, hw3⟩
      have hc3 := HREL.out.2.1.drewN n3
      have hf3 : Fr No wr w3 := by rw [hw3]; exact (Fr.refl _ _).drewN _
      rw [← hw3] at hc3
      have H3 := hid (And.intro hc3 hf3)
      clear hw3 hc3 hf3
      go_wp2_with fail
      refine (cbytes_calls _ _ _ _ _ _ H3.out.1).mono ?_
      rw [E1.out, E2.out, E3.out]
      rintro e w4 ⟨x, rfl, hnew, hc4, hf4⟩
      obtain ⟨A4, n4, c4, rfl, H4⟩ := hnew.use
      have hlm : n4 = m := by have := HMP.out; rw [← H4.out.1, List.length_take, List.length_drop]; omega
      subst hlm
      clear hnew
      have hgL := hc4.gl
      have hgU := hc4.gu
      have hrow4 : Row w4 1 (.slice A1 p c1) ob1 p ((bs.take p).map B) := (HREL.out.1.fr H3.out.2 (fun _ _ h => h)).fr hf4 (fun q hq (e : q = g) => by have := HREL.out.2.2.1 q hq; omega)
      have hfr4 : Fr No w w4 := (HREL.out.2.2.2.1.then H3.out.2).trans hf4 (fun q hq (e : q = g) => by omega)
      have hs4 : U ≤ w4.heap.size := by have := HREL.out.2.2.2.2; have := H3.out.2.size; have := hf4.size; omega
      have H5 := hid (And.intro hrow4 (And.intro hfr4 (And.intro hs4 hc4)))
      clear hrow4 hfr4 hc4 hf4 hs4 H3
      have hn4 : p + n4 ≤ 140737488351232 := by have := HMP.out; omega
      go_wp2_with (at_builtin; refine wpList_app slU8 rfl (.tmp 37) (.tmp 41) rfl rfl H5.out.1 rfl (by rw [List.length_map, H4.out.1, Nat.mul_one]) (Rd.cells.1 H4.out.2.1) (oneB _) (by omega) (by omega) ?_; intro A6 c6 w6 ob6 hv6 hf6 hob6)
      have hv6' : Row w6 1 (.slice A6 (p + n4) c6) ob6 (p + n4) (bs.map B) := by
        have e : bs.map B = (bs.take p).map B ++ ((bs.drop p).take n4).map B := by rw [← List.map_append, ← take_add, HMP.out, List.take_length]
        rw [e]; exact hv6
      have hc6 := H5.out.2.2.2.fr hf6 (fun q h1 h2 (e : some q = ob1) => by have := HREL.out.2.2.1 q e.symm; omega)
      have hfr6 : Fr No w w6 := H5.out.2.1.fresh hf6 (fun q hq => by have := HREL.out.2.2.1 q hq; omega)
      have H6 := hid (And.intro hv6'.rd.1 (And.intro hc6 hfr6))
      clear hv6 hv6' hc6 hfr6 hf6 hob6 H5 HREL
      go_wp2_with fail
      refine (err_calls _ _ _ _ _ H6.out.2.1).mono ?_
      rintro e w7 ⟨rfl, rfl⟩
      go_wp2_with fail
      refine (left_calls _ _ _ _ _ H6.out.2.1).mono ?_
      rintro e w8 ⟨rfl, n8, hw8⟩
      have hf8 : Fr No w7 w8 := by rw [hw8]; exact (Fr.refl _ _).drewN _
      have H8 := hid hf8
      clear hw8 hf8
      go_wp2_with fail
      refine (same_calls _ _ bs bs _ _ _ _ HMP.out.symm HR.out.1 _ (H6.out.1.fr0 H8.out) (HR.out.2.1.fr0 (H6.out.2.2.then H8.out))).mono ?_
      rintro e w9 ⟨rfl, rfl⟩
      go_wp2
      go_ret
      exact ⟨rfl, H6.out.2.2.then H8.out⟩
end Go.Proofs.Ytjmgffiplkkgpaa

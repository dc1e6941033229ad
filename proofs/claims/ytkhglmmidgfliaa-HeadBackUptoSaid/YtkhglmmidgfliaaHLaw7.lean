/- The walk of HeadBack. -/
import Derived.Test.YtkhglmmidgfliaaHBackP
import Derived.Test.YtkhglmmidgfliaaHLaw6
import Derived.Test.YtkhglmmidgfliaaHLaw5
namespace Go.Proofs.Ytkhglmmidgfliaa
open Go.RowKit Go.WideShapes Go.Proofs.HK
set_option linter.unusedVariables false
set_option linter.unusedSimpArgs false
attribute [local go_sem] max2_int min2_int max_two min_two

set_option maxRecDepth 100000 in
set_option maxHeartbeats 3200000 in
theorem headBack_w (A1 : Option Addr) (aas : List UInt8) (n1 c1 : Nat) (A2 : Option Addr) (bs : List UInt8) (n2 c2 : Nat) (A3 : Option Addr) (cs : List UInt8) (n3 c3 : Nat) (w : World)
    (ha : aas.length = n1) (hra : Rd B w A1 aas) (hb : bs.length = n2) (hrb : Rd B w A2 bs) (hc : cs.length = n3) (hrc : Rd B w A3 cs) (hl1 : n1 ≤ 1048576) (hl2 : n2 ≤ 1048576) (hl3 : n3 ≤ 1048576) (hbc : n2 ≤ c2) :
    Calls Try.prog 13 #[.slice A1 n1 c1, .slice A2 n2 c2, .slice A3 n3 c3] w fun e w' => e = .returned (.bool true) ∧ Fr No w w' := by
  have HR := hid (And.intro (And.intro ha hra) (And.intro (And.intro hb hrb) (And.intro (And.intro hc hrc) (And.intro (And.intro hl1 hbc) (And.intro hl2 hl3)))))
  clear ha hra hb hrb hc hrc hl1 hbc
  obtain ⟨q, hq⟩ : ∃ q, q = n2 / 3 := ⟨_, rfl⟩
  have t1 : (n2 : Int) / 3 = (q : Int) := by omega
  have t3 : (n2 : Int).tdiv 3 = (q : Int) := by rw [Int.tdiv_eq_ediv_of_nonneg (by omega)]; exact t1
  clear hq
  by_cases hok : rdOk aas
  · obtain ⟨W, hW⟩ : ∃ W : Int, W = ((be (aas.take 4) : Nat) : Int) := ⟨_, rfl⟩
    obtain ⟨H, hH⟩ : ∃ H : Int, H = ((be ((aas.drop 4).take 4) : Nat) : Int) := ⟨_, rfl⟩
    obtain ⟨C, hC⟩ : ∃ C : Int, C = ((rdB aas 9).toNat : Int) := ⟨_, rfl⟩
    obtain ⟨D, hD⟩ : ∃ D : Int, D = ((rdB aas 8).toNat : Int) := ⟨_, rfl⟩
    obtain ⟨L, hL⟩ : ∃ L, L = ((rdB aas 12).toNat == 1) := ⟨_, rfl⟩
    have hv := (rd_good hok).1
    have he := (rd_good hok).2
    have hbk := head_back hok
    have hm := hok.2.2.2.2
    have hHk : HeadOk W H C D := by rw [hW, hH]; exact ⟨bounds_be _ (by rw [List.length_take]; omega), bounds_be _ (by rw [List.length_take]; omega)⟩
    rw [← hW, ← hH, ← hC, ← hD, ← hL] at hv hbk
    rw [← hW, ← hH, ← hC, ← hD] at hm
    have HV := hid (And.intro hv (And.intro he (And.intro hbk (And.intro hm hHk))))
    clear hW hH hC hD hL hv he hbk hm hHk hok
    go_enter Try.func13, Try.ntmps13
    go_wp2_with fail
    refine (fixed12_calls _).mono ?_
    rintro e w1 ⟨rfl, hf1⟩
    have H1 := hid hf1
    clear hf1
    go_wp2_with fail
    refine (read_calls A1 aas n1 c1 HR.out.1.1 _ (HR.out.1.2.fr0 H1.out) (by have := HR.out.2.2.2.1.1; omega)).mono ?_
    rw [HV.out.1, HV.out.2.1]
    rintro e w2 ⟨rfl, hf2⟩
    have H2 := hid (H1.out.then hf2)
    clear hf2 H1
    unfold headV
    have hA : ∀ o, Fr No w (w2.alloc o) := fun o => H2.out.alloc _
    obtain ⟨W3, hW3⟩ : ∃ W3, W3 = w2.alloc (.cells #[.int .i64 W, .int .i64 H, .int .i64 C, .int .i64 D, .bool L] 33) := ⟨_, rfl⟩
    obtain ⟨g, hg⟩ : ∃ g, g = w2.heap.size := ⟨_, rfl⟩
    have hb3 : W3.heap[g]? = some (.cells #[.int .i64 W, .int .i64 H, .int .i64 C, .int .i64 D, .bool L] 33 (0, 0)) := by rw [hW3, hg]; exact heap_new _ _
    have hg3 : g < W3.heap.size := (Array.getElem?_eq_some_iff.1 hb3).1
    have H3 := hid (And.intro (show Fr No w W3 by rw [hW3]; exact hA _) hb3)
    go_wp2_with fail
    rw [← hW3, ← hg]
    clear hW3 hg hb3 hA H2
    refine (write_calls W H C D L HV.out.2.2.2.2 _).mono ?_
    rw [HV.out.2.2.1.1, HV.out.2.2.1.2]
    rintro e w4 ⟨v4, rfl, hnew4⟩
    have hb4 := (hnew4.2.block g hg3 (fun h => h)).trans H3.out.2
    have H4 := hid (And.intro (H3.out.1.then hnew4.2) hb4)
    have hg4 : g < w4.heap.size := (Array.getElem?_eq_some_iff.1 hb4).1
    obtain ⟨c40, c41, c42, c43, c44, _⟩ := blk5 hb4
    obtain ⟨A4, n4, c4, rfl, N4⟩ := hnew4.use
    clear hnew4 hb4 H3
    go_wp2_with fail
    refine (same_calls _ _ _ _ _ _ _ _ N4.out.1 HR.out.1.1 _ N4.out.2.1 (HR.out.1.2.fr0 H4.out.1)).mono ?_
    rw [decide_eq_true (rfl : aas = aas)]
    rintro e w5 ⟨rfl, hw5⟩
    rw [hw5]
    clear hw5 w5
    go_wp2_with fail
    refine (readTints_calls W H C D L A2 bs n2 c2 HR.out.2.1.1 HR.out.2.2.2.1.2 _ (HR.out.2.1.2.fr0 H4.out.1) (by omega)).mono ?_
    by_cases hrt : rtOk C D bs.length
    · have HT := hid (rt_good (W := W) (H := H) (bs := bs) HV.out.2.2.2.1 hrt)
      rintro e w6 ⟨v6, he, hnew6⟩
      rw [HT.out.2] at he
      rw [HT.out.1] at hnew6
      subst he
      have hb6 := (hnew6.2.block g hg4 (fun h => h)).trans H4.out.2
      have H6 := hid (And.intro (H4.out.1.then hnew6.2) hb6)
      have hg6 : g < w6.heap.size := (Array.getElem?_eq_some_iff.1 hb6).1
      obtain ⟨c60, c61, c62, c63, c64, _⟩ := blk5 hb6
      obtain ⟨A6, n6, c6, rfl, N6⟩ := hnew6.use
      clear hnew6 hb6 H4 hg4 c40 c41 c42 c43 c44
      go_wp2_with fail
      refine (writeTints_calls A6 bs n6 c6 N6.out.1 _ N6.out.2.1 (by have := N6.out.1; have := HR.out.2.1.1; omega)).mono ?_
      rintro e w7 ⟨v7, rfl, hnew7⟩
      have hb7 := (hnew7.2.block g hg6 (fun h => h)).trans H6.out.2
      have H7 := hid (And.intro (H6.out.1.then hnew7.2) hb7)
      have hg7 : g < w7.heap.size := (Array.getElem?_eq_some_iff.1 hb7).1
      obtain ⟨c70, c71, c72, c73, c74, _⟩ := blk5 hb7
      obtain ⟨A7, n7, c7, rfl, N7⟩ := hnew7.use
      clear hnew7 hb7 H6 hg6 c60 c61 c62 c63 c64 hrt
      go_wp2_with fail
      refine (same_calls _ _ _ _ _ _ _ _ N7.out.1 HR.out.2.1.1 _ N7.out.2.1 (HR.out.2.1.2.fr0 H7.out.1)).mono ?_
      rw [decide_eq_true (rfl : bs = bs)]
      rintro e w8 ⟨rfl, hw8⟩
      rw [hw8]
      clear hw8 w8
      go_wp2_with fail
      refine (readClear_calls W H C D L q A3 cs n3 c3 HR.out.2.2.1.1 _ (HR.out.2.2.1.2.fr0 H7.out.1) (by omega)).mono ?_
      by_cases hrc : rc3 C q cs.length ∨ rc2 C D cs
      · have HC := hid (clear_back (W := W) (H := H) HV.out.2.2.2.1 hrc)
        rintro e w9 ⟨v9, v10, he, hnew9, hnew10⟩
        rw [HC.out.2] at he
        subst he
        have hb9 := (hnew9.2.block g hg7 (fun h => h)).trans H7.out.2
        have H9 := hid (H7.out.1.then hnew9.2)
        obtain ⟨c90, c91, c92, c93, c94, _⟩ := blk5 hb9
        obtain ⟨A9, n9, c9, rfl, N9⟩ := hnew9.use
        obtain ⟨A10, n10, c10, rfl, N10⟩ := hnew10.use
        clear hnew9 hnew10 hb9 H7 hg7 c70 c71 c72 c73 c74 hrc
        have hk1 : n9 ≤ 17592186043904 := by have := rcA_le W H C D q cs; rw [N9.out.1, HR.out.2.2.1.1] at this; omega
        have hk2 : n10 ≤ 17592186043904 := by have := rcC_le W H C D cs; rw [N10.out.1, HR.out.2.2.1.1] at this; omega
        go_wp2_with fail
        refine (writeClear_calls W H C D L A9 _ n9 c9 A10 _ n10 c10 _ N9.out.1 N9.out.2.1 N10.out.1 N10.out.2.1 (rcC_bounds W H C D cs) hk1 hk2).mono ?_
        rw [HC.out.1]
        rintro e w11 ⟨v11, rfl, hnew11⟩
        obtain ⟨A11, n11, c11, rfl, N11⟩ := hnew11.use
        clear hnew11
        go_wp2_with fail
        refine (same_calls _ _ _ _ _ _ _ _ N11.out.1 HR.out.2.2.1.1 _ N11.out.2.1 ((HR.out.2.2.1.2.fr0 H9.out).fr0 N11.out.2.2.2.1)).mono ?_
        rw [decide_eq_true (rfl : cs = cs)]
        rintro e w12 ⟨rfl, hw12⟩
        rw [hw12]
        clear hw12 w12
        go_wp2_with fail
        go_ret
        exact ⟨rfl, H9.out.then N11.out.2.2.2.1⟩
      · have HC := hid (rc_bad (W := W) (H := H) (T := q) (bs := cs) HV.out.2.2.2.1 (fun h => hrc (.inl h)) (fun h => hrc (.inr h)))
        rintro e w9 ⟨v9, v10, he, hnew9, hnew10⟩
        rw [HC.out.2.2] at he
        subst he
        have H9 := hid (H7.out.1.then hnew9.2)
        clear hnew9 hnew10 hrc
        go_wp2_with fail
        go_ret
        exact ⟨rfl, H9.out⟩
    · have HT := hid (rt_bad (W := W) (H := H) (bs := bs) HV.out.2.2.2.1 hrt)
      rintro e w7 ⟨v7, he, hnew7⟩
      rw [HT.out.2] at he
      subst he
      have hb7 := (hnew7.2.block g hg4 (fun h => h)).trans H4.out.2
      have H7 := hid (And.intro (H4.out.1.then hnew7.2) hb7)
      have hg7 : g < w7.heap.size := (Array.getElem?_eq_some_iff.1 hb7).1
      obtain ⟨c70, c71, c72, c73, c74, _⟩ := blk5 hb7
      clear hnew7 hb7 H4 hg4 c40 c41 c42 c43 c44 hrt
      go_wp2_with fail
      refine (readClear_calls W H C D L q A3 cs n3 c3 HR.out.2.2.1.1 _ (HR.out.2.2.1.2.fr0 H7.out.1) (by omega)).mono ?_
      by_cases hrc : rc3 C q cs.length ∨ rc2 C D cs
      · have HC := hid (clear_back (W := W) (H := H) HV.out.2.2.2.1 hrc)
        rintro e w9 ⟨v9, v10, he, hnew9, hnew10⟩
        rw [HC.out.2] at he
        subst he
        have hb9 := (hnew9.2.block g hg7 (fun h => h)).trans H7.out.2
        have H9 := hid (H7.out.1.then hnew9.2)
        obtain ⟨c90, c91, c92, c93, c94, _⟩ := blk5 hb9
        obtain ⟨A9, n9, c9, rfl, N9⟩ := hnew9.use
        obtain ⟨A10, n10, c10, rfl, N10⟩ := hnew10.use
        clear hnew9 hnew10 hb9 H7 hg7 c70 c71 c72 c73 c74 hrc
        have hk1 : n9 ≤ 17592186043904 := by have := rcA_le W H C D q cs; rw [N9.out.1, HR.out.2.2.1.1] at this; omega
        have hk2 : n10 ≤ 17592186043904 := by have := rcC_le W H C D cs; rw [N10.out.1, HR.out.2.2.1.1] at this; omega
        go_wp2_with fail
        refine (writeClear_calls W H C D L A9 _ n9 c9 A10 _ n10 c10 _ N9.out.1 N9.out.2.1 N10.out.1 N10.out.2.1 (rcC_bounds W H C D cs) hk1 hk2).mono ?_
        rw [HC.out.1]
        rintro e w11 ⟨v11, rfl, hnew11⟩
        obtain ⟨A11, n11, c11, rfl, N11⟩ := hnew11.use
        clear hnew11
        go_wp2_with fail
        refine (same_calls _ _ _ _ _ _ _ _ N11.out.1 HR.out.2.2.1.1 _ N11.out.2.1 ((HR.out.2.2.1.2.fr0 H9.out).fr0 N11.out.2.2.2.1)).mono ?_
        rw [decide_eq_true (rfl : cs = cs)]
        rintro e w12 ⟨rfl, hw12⟩
        rw [hw12]
        clear hw12 w12
        go_wp2_with fail
        go_ret
        exact ⟨rfl, H9.out.then N11.out.2.2.2.1⟩
      · have HC := hid (rc_bad (W := W) (H := H) (T := q) (bs := cs) HV.out.2.2.2.1 (fun h => hrc (.inl h)) (fun h => hrc (.inr h)))
        rintro e w9 ⟨v9, v10, he, hnew9, hnew10⟩
        rw [HC.out.2.2] at he
        subst he
        have H9 := hid (H7.out.1.then hnew9.2)
        clear hnew9 hnew10 hrc
        go_wp2_with fail
        go_ret
        exact ⟨rfl, H9.out⟩
  · have hv := (rd_bad hok).1
    have he := (rd_bad hok).2
    have HV := hid (And.intro hv he)
    clear hok hv he
    go_enter Try.func13, Try.ntmps13
    go_wp2_with fail
    refine (fixed12_calls _).mono ?_
    rintro e w1 ⟨rfl, hf1⟩
    have H1 := hid hf1
    clear hf1
    go_wp2_with fail
    refine (read_calls A1 aas n1 c1 HR.out.1.1 _ (HR.out.1.2.fr0 H1.out) (by have := HR.out.2.2.2.1.1; omega)).mono ?_
    rw [HV.out.1, HV.out.2]
    rintro e w2 ⟨rfl, hf2⟩
    have H2 := hid (H1.out.then hf2)
    clear hf2 H1
    unfold headV
    go_wp2_with fail
    go_ret
    exact ⟨by simp, H2.out.alloc _⟩
set_option maxRecDepth 100000 in
theorem headBack_walk (A1 : Option Addr) (aas : List UInt8) (n1 c1 : Nat) (A2 : Option Addr) (bs : List UInt8) (n2 c2 : Nat) (A3 : Option Addr) (cs : List UInt8) (n3 c3 : Nat) (w : World)
    (h1 : SlIn B 1 w A1 aas n1 c1) (l1 : n1 ≤ 1048576) (h2 : SlIn B 1 w A2 bs n2 c2) (l2 : n2 ≤ 1048576) (h3 : SlIn B 1 w A3 cs n3 c3) (l3 : n3 ≤ 1048576) :
    Calls Try.prog 13 #[.slice A1 n1 c1, .slice A2 n2 c2, .slice A3 n3 c3] w fun e w' => e = .returned (.bool true) ∧ Fr No w w' :=
  headBack_w A1 aas n1 c1 A2 bs n2 c2 A3 cs n3 c3 w h1.len h1.rd h2.len h2.rd h3.len h3.rd l1 l2 l3 h2.cap
end Go.Proofs.Ytkhglmmidgfliaa

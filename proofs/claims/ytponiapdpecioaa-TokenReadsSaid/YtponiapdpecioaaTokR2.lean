/- The contract of the document's Read of a token. -/
import Derived.Test.YtponiapdpecioaaTokR
import Derived.Test.YtponiapdpecioaaReg
import Derived.BigRegion
namespace Go.Proofs.Ytponiapdpecioaa
open Go.RowKit Go.Proofs.HK
set_option linter.unusedVariables false
set_option linter.unusedSimpArgs false
attribute [local go_sem] max2_int min2_int max_two min_two

theorem keepA {w : World} {o : Obj} {ad : Addr} {v : Option Value} (hg : ad.block < w.heap.size) (h : w.cell? ad = v) : (w.alloc o).cell? ad = v := (((Fr.refl No w).alloc o).cell hg (fun h => h)).trans h
theorem keepS {w : World} {g : Nat} {ad : Addr} {u x y : Value} {v : Option Value} (hg : ad.block < w.heap.size) (hn : ad.block ≠ g) (h : w.cell? ad = v) : (((w.setCell ⟨g, 0, none⟩ u).setCell ⟨g, 1, none⟩ x).setCell ⟨g, 2, none⟩ y).cell? ad = v := ((fr3 u x y (Fr.refl (HK.One g) w) (fun _ => rfl)).cell hg hn).trans h
theorem keepD {w : World} {ad : Addr} {v : Option Value} (h : w.cell? ad = v) : w.drew.cell? ad = v := h
theorem keepAA {w : World} {o o' : Obj} {ad : Addr} {v : Option Value} (hg : ad.block < w.heap.size) (h : w.cell? ad = v) : ((w.alloc o).alloc o').cell? ad = v := keepA (by rw [World.size_alloc]; omega) (keepA hg h)
theorem keepB {w : World} {o o' : Obj} {ad : Addr} {v : Option Value} (hg : ad.block < w.heap.size) (h : (w.alloc o').cell? ad = v) : (w.alloc o).cell? ad = v := keepA hg ((keepA (o := o') hg rfl).symm.trans h)
set_option maxRecDepth 100000 in
set_option maxHeartbeats 6400000 in
theorem refRead_calls (A : Option Addr) (bs : List UInt8) (m c : Nat) (w : World) (hn : bs.length = m) (hr : Rd B w A bs) (hc : m ≤ c) (hl : m ≤ 2097152) :
    Calls Try.prog 15 #[.slice A m c] w (RetTok w (trdT bs) (trdE bs)) := by
  have HN := hid (And.intro hn hr)
  clear hn hr
  by_cases h13 : m < 13
  · have HE := hid (show trdE bs = 2 by unfold trdE; rw [if_pos (by rw [HN.out.1]; exact h13)])
    have h13' : (m : Int) - 4 < 9 := by omega
    obtain ⟨c0, c1, c2⟩ := (blk3f (heap_new w (.cells #[.int .i64 0, .int .u32 0, .slice none 0 0] 25))).1
    obtain ⟨f0, f1, f2⟩ := (blk3f (heap_new w (.cells #[.int .i64 0, .int .u32 0, .slice none 0 0] 25))).2
    have hb := heap_new w (.cells #[.int .i64 0, .int .u32 0, .slice none 0 0] 25)
    have HB := hid hb
    clear hb
    go_enter Try.func15, Try.ntmps15
    go_wp2_with fail
    refine ret_tok rfl (g := w.heap.size) HB.out rfl rfl rfl ?_
    refine ⟨_, by rw [HE.out, trdT_no HE.out (by decide)]; rfl, ?_⟩
    rw [trdT_no HE.out (by decide)]
    exact ⟨NewR.nil, (Fr.refl No w).alloc _⟩
  · have hm4 : (m : Int) - 4 = ((m - 4 : Nat) : Int) := by omega
    obtain ⟨k, hk⟩ : ∃ k, k = m - 4 := ⟨_, rfl⟩
    rw [← hk] at hm4
    have hk9 : 9 ≤ k := by omega
    obtain ⟨L, hL⟩ : ∃ L, L = le (bs.drop k) := ⟨_, rfl⟩
    have hd4 : (bs.drop k).length = 4 := by rw [List.length_drop, HN.out.1]; omega
    have hLl : L < 4294967296 := by have := le_lt (bs.drop k); rw [hd4] at this; rw [hL]; omega
    obtain ⟨C, hC⟩ : ∃ C, C = crcOf (bs.take k) := ⟨_, rfl⟩
    have hCl : C < 4294967296 := by rw [hC]; exact crcM_lt _ _
    have HLB := hid (show L = be (bs.drop k).reverse by rw [hL, le_eq_be])
    have HKK := hid (And.intro hk (And.intro hL (And.intro hC hd4)))
    have hcut := cut_h slU8 A m c (k : Int) k rfl (by omega)
    have hcut2 := cut_l slU8 A m c (k : Int) k rfl (by omega)
    rw [show m - k = 4 by omega] at hcut2
    have htk : (bs.take k).length = k := by rw [List.length_take, HN.out.1]; omega
    have HT := hid htk
    obtain ⟨g, hgg⟩ : ∃ g, g = w.heap.size := ⟨_, rfl⟩
    obtain ⟨w1, hw1⟩ : ∃ W, W = w.alloc (.cells #[.int .i64 0, .int .u32 0, .slice none 0 0] 25) := ⟨_, rfl⟩
    have hb := heap_new w (.cells #[.int .i64 0, .int .u32 0, .slice none 0 0] 25)
    rw [← hgg, ← hw1] at hb
    have hf1 : Fr No w w1 := by rw [hw1]; exact (Fr.refl No w).alloc _
    have HB := hid (And.intro hb (And.intro hf1 hgg))
    have hge9 : ¬ ((k : Int) < 9) := by omega
    have hmm : ¬ ((m : Int) - 4 < 9) := by omega
    have hwL : IntKind.u32.wrap (L : Int) = (L : Int) := wraps_u32 _ (by omega) (by omega)
    have HRD := hid ((HN.out.2.fr0 hf1).cutA k c (by rw [HN.out.1]; exact hc) (by rw [HN.out.1]; omega))
    by_cases hS : C = L
    · obtain ⟨ad, rfl, hcb⟩ := HN.out.2 (by rw [HN.out.1]; omega)
      obtain ⟨F, hF⟩ : ∃ F, F = (rdB bs 0).toNat := ⟨_, rfl⟩
      have hcb0 : w.cell? (ad.add 0) = some (.int .u8 (F : Int)) := by
        have h0 : 0 < bs.length := by rw [HN.out.1]; omega
        rw [hcb 0 h0, hF]; simp [B, rdB, List.getD, h0]
      obtain ⟨S, hS'⟩ : ∃ S, S = trdS bs := ⟨_, rfl⟩
      obtain ⟨N, hN⟩ : ∃ N, N = trdN bs := ⟨_, rfl⟩
      have hFl : F < 256 := by rw [hF]; exact (rdB bs 0).toNat_lt
      have hSl : S < 4294967296 := by rw [hS']; exact trdS_lt bs
      have hNl : N < 4294967296 := by rw [hN]; exact trdN_lt bs
      have hFt : trdF bs = (F : Int) := by rw [hF]; rfl
      have hne : ((C : Int) != (L : Int)) = false := by rw [hS]; simp
      have hE3 : trdE bs = if F < 16 ∧ N ≤ 1048576 ∧ N = k - 9 then 0 else 3 := by
        unfold trdE
        rw [if_neg (by rw [HN.out.1]; exact h13), HN.out.1, ← hk, if_neg (by rw [← hC, ← hL]; exact fun h => h hS), hFt, ← hN, show m - 13 = k - 9 by omega]
        by_cases h : F < 16 ∧ N ≤ 1048576 ∧ N = k - 9
        · rw [if_pos h, if_pos ⟨by omega, h.2⟩]
        · rw [if_neg h, if_neg (fun h' => h ⟨by omega, h'.2⟩)]
      have HV := hid (And.intro hE3 (And.intro hFt (And.intro hS' hN)))
      obtain ⟨n, hn⟩ : ∃ n, n = k - 9 := ⟨_, rfl⟩
      have hn9 : (k : Int) = ((9 : Nat) : Int) + (n : Int) := by omega
      have hs1 := cut_lh slU8 (some ad) m c 1 5 1 4 rfl rfl (by omega)
      have hs2 := cut_lh slU8 (some ad) m c 5 9 5 4 rfl rfl (by omega)
      have hs3 := cut_lh slU8 (some ad) m c 9 (k : Int) 9 n rfl hn9 (by omega)
      have hr1 := ((HN.out.2.cutA 1 c (by rw [HN.out.1]; exact hc) (by rw [HN.out.1]; omega)).take 4)
      have hr2 := ((HN.out.2.cutA 5 c (by rw [HN.out.1]; exact hc) (by rw [HN.out.1]; omega)).take 4)
      have hr3 := ((HN.out.2.cutA 9 c (by rw [HN.out.1]; exact hc) (by rw [HN.out.1]; omega)).take n)
      have l1 : ((bs.drop 1).take 4).length = 4 := by rw [List.length_take, List.length_drop, HN.out.1]; omega
      have l2 : ((bs.drop 5).take 4).length = 4 := by rw [List.length_take, List.length_drop, HN.out.1]; omega
      have l3 : ((bs.drop 9).take n).length = n := by rw [List.length_take, List.length_drop, HN.out.1]; omega
      have hD : trdD bs = (bs.drop 9).take n := by
        unfold trdD
        rw [HN.out.1, ← hk, List.drop_take, hn]
      have HRR := hid (And.intro hr1 (And.intro hr2 (And.intro hr3 (And.intro l1 (And.intro l2 (And.intro l3 hD))))))
      have HCB := hid hcb0
      have hwS : IntKind.u32.wrap (S : Int) = (S : Int) := wraps_u32 _ (by omega) (by omega)
      have HKN := hid hn
      have hwF : IntKind.i64.wrap (F : Int) = (F : Int) := w64 _ (by omega) (by omega)
      have hnb : n ≤ 2097152 := by omega
      clear hk hL hC hd4 htk hb hf1 hS hE3 hFt hS' hN hF hr1 hr2 hr3 l1 l2 l3 hD hcb hn hn9 hcb0
      go_enter Try.func15, Try.ntmps15
      go_wp2_with fail
      rw [← hw1, ← hgg]
      clear hw1 hgg
      go_region_held3 (fun _ => True) (first | trivial | exact ⟨⟩)
        (first
          | (go_at_call 33; (with_reducible refine (refOf_calls (some ad) (bs.take k) k c HT.out _ ?rd1 (by omega)).mono ?_); (case rd1 => exact (HN.out.2.fr0 HB.out.2.1).take k); rw [← HKK.out.2.2.1]; rintro e w5 ⟨rfl, h5⟩; rw [h5]; clear h5 w5)
          | (go_at_call 41; (with_reducible refine (refTurned_calls _ (bs.drop k) 4 _ HKK.out.2.2.2 _ ?rd2 (by rw [HKK.out.2.2.2]; decide)).mono ?_); (case rd2 => exact HRD.out); rintro e w6 ⟨v6, rfl, hnew6⟩; obtain ⟨A6, n6, c6, rfl, N6⟩ := hnew6.use; clear hnew6; obtain rfl : n6 = 4 := by rw [← N6.out.1, List.length_reverse, HKK.out.2.2.2])
          | (go_at_call 40; (with_reducible refine (refNumber_calls A6 (bs.drop k).reverse 4 c6 N6.out.1 _ N6.out.2.1 (by rw [N6.out.1]; decide)).mono ?_); rw [← HLB.out]; rintro e w7 ⟨rfl, h7⟩; rw [h7]; clear h7 w7))
      have hf6 : Fr No w1 w6 := ((Fr.refl No w1).drew).then N6.out.2.2.2.1
      have hcell : w6.cell? (ad.add 0) = some (.int .u8 (F : Int)) := ((HB.out.2.1.then hf6).cell (lt_of_cell HCB.out) (fun h => h)).trans HCB.out
      have hcell' : w6.cell? ad = some (.int .u8 (F : Int)) := hcell
      have H6 := hid hf6
      rename_i hHeldX
      clear hHeldX hf6 N6
      go_wp2_with fail
      have hm0 : 0 < m := by omega
      have hs6 := H6.out.size
      have hblk : ad.block < w6.heap.size := lt_of_cell hcell'
      have HR3 := hid (HRR.out.1.fr0 (HB.out.2.1.then H6.out))
      go_region_held3 (fun W => W.cell? ad = some (.int .u8 (F : Int))) (first | with_reducible assumption | with_reducible exact HC8.out | with_reducible exact keepA (w := w8) (Nat.lt_of_lt_of_le hblk hs8) HC8.out | with_reducible exact keepS (Nat.lt_of_lt_of_le hblk hs8) hne8 HC8.out | with_reducible exact keepA hblk hcell' | with_reducible exact hcell' | with_reducible exact keepAA hblk hcell' | with_reducible exact keepD hcell' | with_reducible exact keepD (keepA hblk hcell') | with_reducible exact keepD (keepAA hblk hcell') | go_keep)
        (first
          | (go_at_call 40; (with_reducible refine (refNumber_calls _ ((bs.drop 1).take 4) 4 _ HRR.out.2.2.2.1 _ ?rd3 (by rw [HRR.out.2.2.2.1]; decide)).mono ?_); (case rd3 => repeat (first | with_reducible exact HR3.out | with_reducible refine Rd.drew ?_ | with_reducible refine Rd.alloc ?_ _)); rw [show be ((bs.drop 1).take 4) = S from HV.out.2.2.1.symm]; rintro e w7 ⟨rfl, h7⟩; rw [h7]; clear h7 w7)
          | (refine step_app slU8 rfl (.tmp 32) (.tmp 35) rfl rfl (Row.new w6 1 0 [] 5 rfl (by omega)).drew rfl (by rw [List.length_map, HRR.out.2.2.2.2.2.1]; omega) (Rd.cells.1 (HRR.out.2.2.1.fr0 (((HB.out.2.1.then H6.out).alloc _).drew))) (oneB _) (by omega) (by omega) ?_
             intro A8 c8 w8 ob8 hv8 F8 hob8
             have F8' := F8.mono (S' := fun k => w6.heap.size ≤ k) (fun k _ e => by injection e with e; (try simp only [World.size_alloc, World.size_drew] at e); omega)
             have hs8 : w6.heap.size ≤ w8.heap.size := by have := F8.size; (try simp only [World.size_alloc, World.size_drew] at this); omega
             have HC8 := hid ((F8'.cell (p := ad) (by simp only [World.size_drew, World.size_alloc]; omega) (fun h => Nat.not_le.2 hblk h)).trans (keepD (keepA hblk hcell'))))
          | (refine step_app slU8 rfl (.tmp 32) (.tmp 35) rfl rfl ((Row.new w6 1 0 [] 5 rfl (by omega)).fr ((Fr.refl No _).alloc (.cells #[.int .i64 0, .int .u32 0, .slice none 0 0] 25)) (fun _ _ h => h)).drew rfl (by rw [List.length_map, HRR.out.2.2.2.2.2.1]; omega) (Rd.cells.1 (HRR.out.2.2.1.fr0 ((((HB.out.2.1.then H6.out).alloc _).alloc _).drew))) (oneB _) (by omega) (by omega) ?_
             intro A8 c8 w8 ob8 hv8 F8 hob8
             have F8' := F8.mono (S' := fun k => w6.heap.size ≤ k) (fun k _ e => by injection e with e; (try simp only [World.size_alloc, World.size_drew] at e); omega)
             have hs8 : w6.heap.size ≤ w8.heap.size := by have := F8.size; (try simp only [World.size_alloc, World.size_drew] at this); omega
             have HC8 := hid ((F8'.cell (p := ad) (by simp only [World.size_drew, World.size_alloc]; omega) (fun h => Nat.not_le.2 hblk h)).trans (keepD (keepAA hblk hcell')))
             have hne8 : ad.block ≠ w6.heap.size + 1 := by omega
             have hz8 : w8.heap[w6.heap.size + 1]? = some (.cells #[.int .i64 0, .int .u32 0, .slice none 0 0] 25 (0, 0)) := (F8.block (w6.heap.size + 1) (by simp) (fun e => by injection e with e; omega)).trans (by
               have := heap_new (w6.alloc (.cells #[] 5)) (.cells #[.int .i64 0, .int .u32 0, .slice none 0 0] 25)
               rw [World.size_alloc] at this
               exact this)
             obtain ⟨⟨z0, z1, z2⟩, q0, q1, q2⟩ := blk3f hz8)
          | (have hE8 := heap_new (w6.alloc (.cells #[.int .i64 0, .int .u32 0, .slice none 0 0] 25)) (.cells #[] 5)
             rw [World.size_alloc] at hE8
             have hE9 : ((w6.alloc (.cells #[.int .i64 0, .int .u32 0, .slice none 0 0] 25)).alloc (.cells #[] 5)).drew.heap[w6.heap.size + 1]? = some (.cells [].toArray 5 (0, 0)) := hE8
             have HE9 := hid (Row.blk (g := w6.heap.size + 1) 1 0 [] 5 hE9 rfl (by omega))
             clear hE8 hE9
             refine step_app slU8 rfl (.tmp 32) (.tmp 35) rfl rfl HE9.out rfl (by rw [List.length_map, HRR.out.2.2.2.2.2.1]; omega) (Rd.cells.1 (HRR.out.2.2.1.fr0 ((((HB.out.2.1.then H6.out).alloc _).alloc _).drew))) (oneB _) (by omega) (by omega) ?_
             intro A8 c8 w8 ob8 hv8 F8 hob8
             have F8' := F8.mono (S' := fun k => w6.heap.size ≤ k) (fun k _ e => by injection e with e; (try simp only [World.size_alloc, World.size_drew] at e); omega)
             have hs8 : w6.heap.size ≤ w8.heap.size := by have := F8.size; (try simp only [World.size_alloc, World.size_drew] at this); omega
             have HC8 := hid ((F8'.cell (p := ad) (by simp only [World.size_drew, World.size_alloc]; omega) (fun h => Nat.not_le.2 hblk h)).trans (keepD (keepAA hblk hcell')))
             have hne8 : ad.block ≠ w6.heap.size := by omega
             have hz8 : w8.heap[w6.heap.size]? = some (.cells #[.int .i64 0, .int .u32 0, .slice none 0 0] 25 (0, 0)) := (F8.block w6.heap.size (by simp; omega) (fun e => by injection e with e; simp at e)).trans
               (((Fr.refl No (w6.alloc (.cells #[.int .i64 0, .int .u32 0, .slice none 0 0] 25))).alloc (.cells #[] 5)).drew.block w6.heap.size (by simp) (fun h => h) |>.trans (heap_new w6 _))
             obtain ⟨⟨z0, z1, z2⟩, q0, q1, q2⟩ := blk3f hz8))
      all_goals
        rename_i hHeldY
        clear hHeldY
        have hl9 : (bs.drop 9).take n = trdD bs := HRR.out.2.2.2.2.2.2.symm
        have hvv : Row w8 1 (.slice A8 n c8) ob8 n ((trdD bs).map B) := by rw [← hl9]; simpa using hv8
        have hkb : ∀ q, ob8 = some q → w6.heap.size ≤ q := fun q hq => by
          rcases hob8 with h | ⟨j, h, hj⟩
          · rw [h] at hq; injection hq with hq; omega
          · rw [h] at hq; injection hq with hq; (try simp only [World.size_alloc, World.size_drew] at hj); omega
        have hF68 : Fr (fun k => w6.heap.size ≤ k) w6 w8 := by
          refine Fr.then ?_ F8'
          repeat (first | with_reducible exact Fr.refl _ _ | with_reducible refine Fr.drew ?_ | with_reducible refine Fr.alloc ?_ _)
        first
          | (obtain ⟨gt, hgt⟩ : ∃ g, g = w8.heap.size := ⟨_, rfl⟩
             obtain ⟨X, hX⟩ : ∃ X, X = w8.alloc (.cells #[.int .i64 (F : Int), .int .u32 (S : Int), .slice A8 n c8] 25) := ⟨_, rfl⟩
             rw [← hX, ← hgt]
             have HX : Hid (X.heap[gt]? = some (.cells #[.int .i64 (F : Int), .int .u32 (S : Int), .slice A8 n c8] 25 (0, 0)) ∧ Fr (fun k => w6.heap.size ≤ k) w6 X ∧ (∃ ob, Row X 1 (.slice A8 n c8) ob n ((trdD bs).map B) ∧ ∀ q, ob = some q → w6.heap.size ≤ q) ∧ w6.heap.size ≤ gt) :=
               ⟨by rw [hX, hgt]; exact heap_new _ _, by rw [hX]; exact hF68.alloc _, ⟨ob8, by rw [hX]; exact hvv.fr ((Fr.refl No w8).alloc _) (fun _ _ h => h), hkb⟩, by omega⟩)
          | (obtain ⟨X, hX⟩ : ∃ X, X = ((w8.setCell ⟨w6.heap.size + 1, 0, none⟩ (.int .i64 (F : Int))).setCell ⟨w6.heap.size + 1, 1, none⟩ (.int .u32 (S : Int))).setCell ⟨w6.heap.size + 1, 2, none⟩ (.slice A8 n c8) := ⟨_, rfl⟩
             rw [← hX]
             have hgs : w6.heap.size + 1 ≠ w6.heap.size := by omega
             have HX0 : X.heap[w6.heap.size + 1]? = some (.cells #[.int .i64 (F : Int), .int .u32 (S : Int), .slice A8 n c8] 25 (0, 0)) := by rw [hX]; exact set3 hz8
             have HX1 : Fr (HK.One (w6.heap.size + 1)) w8 X := by rw [hX]; exact fr3 _ _ _ (Fr.refl _ w8) (fun _ => rfl)
             have hq8 : ∀ q, ob8 = some q → q ≠ w6.heap.size + 1 := fun q hq => by
               rcases hob8 with h | ⟨j, h, hj⟩
               · rw [h] at hq; injection hq with hq; omega
               · rw [h] at hq; injection hq with hq; (try simp only [World.size_alloc, World.size_drew] at hj); omega
             obtain ⟨gt, hgt⟩ : ∃ g, g = w6.heap.size + 1 := ⟨_, rfl⟩
             rw [← hgt] at HX0 HX1 hq8 ⊢
             have HX : Hid (X.heap[gt]? = some (.cells #[.int .i64 (F : Int), .int .u32 (S : Int), .slice A8 n c8] 25 (0, 0)) ∧ Fr (fun k => w6.heap.size ≤ k) w6 X ∧ (∃ ob, Row X 1 (.slice A8 n c8) ob n ((trdD bs).map B) ∧ ∀ q, ob = some q → w6.heap.size ≤ q) ∧ w6.heap.size ≤ gt) :=
               ⟨HX0, hF68.then (HX1.mono (fun k _ e => by have e : k = gt := e; omega)), ⟨ob8, hvv.fr HX1 (fun k hk e => hq8 k hk e), hkb⟩, by omega⟩
             clear HX0 HX1 hq8 hgs)
          | (obtain ⟨X, hX⟩ : ∃ X, X = ((w8.setCell ⟨w6.heap.size, 0, none⟩ (.int .i64 (F : Int))).setCell ⟨w6.heap.size, 1, none⟩ (.int .u32 (S : Int))).setCell ⟨w6.heap.size, 2, none⟩ (.slice A8 n c8) := ⟨_, rfl⟩
             rw [← hX]
             have HX0 : X.heap[w6.heap.size]? = some (.cells #[.int .i64 (F : Int), .int .u32 (S : Int), .slice A8 n c8] 25 (0, 0)) := by rw [hX]; exact set3 hz8
             have HX1 : Fr (HK.One w6.heap.size) w8 X := by rw [hX]; exact fr3 _ _ _ (Fr.refl _ w8) (fun _ => rfl)
             have hq8 : ∀ q, ob8 = some q → q ≠ w6.heap.size := fun q hq => by
               rcases hob8 with h | ⟨j, h, hj⟩
               · rw [h] at hq; injection hq with hq; omega
               · rw [h] at hq; injection hq with hq; (try simp only [World.size_alloc, World.size_drew] at hj); omega
             obtain ⟨gt, hgt⟩ : ∃ g, g = w6.heap.size := ⟨_, rfl⟩
             have HX : Hid (X.heap[gt]? = some (.cells #[.int .i64 (F : Int), .int .u32 (S : Int), .slice A8 n c8] 25 (0, 0)) ∧ Fr (fun k => w6.heap.size ≤ k) w6 X ∧ (∃ ob, Row X 1 (.slice A8 n c8) ob n ((trdD bs).map B) ∧ ∀ q, ob = some q → w6.heap.size ≤ q) ∧ w6.heap.size ≤ gt) :=
               ⟨by rw [hgt]; exact HX0, hF68.then (HX1.mono (fun k _ e => by have e : k = w6.heap.size := e; omega)), ⟨ob8, hvv.fr HX1 (fun k hk e => hq8 k hk e), hkb⟩, by omega⟩
             rw [← hgt]
             clear HX0 HX1 hq8)
        clear hvv hkb hF68 hv8 F8 hob8 F8' HC8 hcell hcell' hX hgt
        (try clear hz8 hne8)
        (try clear z0 z1 z2 q0 q1 q2)
        clear hl9 hs8 hblk
        have hgw1 : g < w1.heap.size := (Array.getElem?_eq_some_iff.1 HB.out.1).1
        have hFX : Fr No w X := (HB.out.2.1.then H6.out).trans HX.out.2.1 (fun k hk h => absurd h (by have := HB.out.2.1.size; omega))
        have hg0 : X.heap[g]? = some (.cells #[.int .i64 0, .int .u32 0, .slice none 0 0] 25 (0, 0)) :=
          ((HX.out.2.1.block g (by omega) (fun h => absurd h (by omega))).trans (H6.out.block g hgw1 (fun h => h))).trans HB.out.1
        have hgX : g < X.heap.size := (Array.getElem?_eq_some_iff.1 hg0).1
        have hend : ∀ (W : World), Fr No X W → RetTok w ⟨0, 0, []⟩ 3 (.returned (.tuple #[.agg #[.int .i64 0, .int .u32 0, .slice none 0 0], .int .i64 3])) (((W.setCell ⟨g, 0, none⟩ (.int .i64 0)).setCell ⟨g, 1, none⟩ (.int .u32 0)).setCell ⟨g, 2, none⟩ (.slice none 0 0)) := fun W hW =>
          ⟨_, rfl, NewR.nil, fr3 _ _ _ (hFX.then hW) (fun h => absurd h (by have := HB.out.2.2; omega))⟩
        have hgW : ∀ (W : World), Fr No X W → W.heap[g]? = some (.cells #[.int .i64 0, .int .u32 0, .slice none 0 0] 25 (0, 0)) := fun W hW => (hW.block g hgX (fun h => h)).trans hg0
        have htW : ∀ (W : World), Fr No X W → W.heap[gt]? = some (.cells #[.int .i64 (F : Int), .int .u32 (S : Int), .slice A8 n c8] 25 (0, 0)) := fun W hW => (hW.block gt (Array.getElem?_eq_some_iff.1 HX.out.1).1 (fun h => h)).trans HX.out.1
        have HEND := hid (And.intro hend (And.intro hgW (And.intro htW hFX)))
        have hgt0 : gt < X.heap.size := (Array.getElem?_eq_some_iff.1 HX.out.1).1
        clear hend hgW htW hg0 hFX
        have hMc : ∀ W, Calls Try.prog 30 #[.agg #[.int .i64 (F : Int), .int .u32 (S : Int), .slice A8 n c8]] W fun e w' => e = .returned (.bool (tokM (F : Int) n)) ∧ Fr No W w' := fun W => refMay_calls (F : Int) S A8 n c8 W
        obtain ⟨t0, t1, t2⟩ := blk3c HX.out.1
        cases hM : tokM (F : Int) n with
        | false =>
          rw [hM] at hMc
          have HMC := hid hMc
          have hE3 := hid (show trdE bs = 3 by
            rw [HV.out.1, if_neg]
            rintro ⟨h1, h2, h3⟩
            have := of_decide_eq_false hM
            exact this ⟨by omega, by omega, by have := HKN.out; omega⟩)
          clear hMc hM
          go_wp2_with fail
          refine wp_region_held_drew (S := (fun W => W.cell? ⟨gt, 0, none⟩ = some (.int .i64 (F : Int)) ∧ W.cell? ⟨gt, 1, none⟩ = some (.int .u32 (S : Int)) ∧ W.cell? ⟨gt, 2, none⟩ = some (.slice A8 n c8))) (by kernel_rfl) ⟨t0, t1, t2⟩ (fun hHeld => ?_)
          refine takeD (i := 0) (d := some 38) (v := ?_) rfl rfl (by kernel_rfl) (by kernel_rfl) (by kernel_rfl) (fun _ _ _ h => h) (by rfl) ?_ (by assumption) ?_
          rotate_left
          · intro w' hSw
            (try dsimp only at hSw)
            go_simp
            try with_reducible rfl
          try simp only [Act.put, List.setIfInBounds_toArray, List.set_cons_zero, List.set_cons_succ]
          refine oneD (i := 1) (by kernel_rfl) rfl (fun K hK => ?_)
          go_simp
          go_at_call 30
          refine (HMC.out _).mono ?_
          rintro e w9 ⟨rfl, hf9⟩
          refine hK.out _ _ (keep3 hf9 hgt0 (fun h => h) ⟨t0, t1, t2⟩) (fun hHeld2 => ?_)
          clear hK K
          try simp only [Act.put, List.setIfInBounds_toArray, List.set_cons_zero, List.set_cons_succ]
          refine takeD (i := 2) (d := some 40) (v := ?_) rfl rfl (by kernel_rfl) (by kernel_rfl) (by kernel_rfl) (fun _ _ _ h => h) (by rfl) ?_ (by assumption) ?_
          rotate_left
          · intro w' hSw
            (try dsimp only at hSw)
            go_simp
            try with_reducible rfl
          try simp only [Act.put, List.setIfInBounds_toArray, List.set_cons_zero, List.set_cons_succ]
          refine takeD (i := 3) (d := some 41) (v := ?_) rfl rfl (by kernel_rfl) (by kernel_rfl) (by kernel_rfl) (fun _ _ _ h => h) (by rfl) ?_ (by assumption) ?_
          rotate_left
          · intro w' hSw
            (try dsimp only at hSw)
            go_simp
            try with_reducible rfl
          try simp only [Act.put, List.setIfInBounds_toArray, List.set_cons_zero, List.set_cons_succ]
          refine skipD (i := 4) (d := some 42) rfl rfl (by kernel_rfl) (by kernel_rfl) (by kernel_rfl) (fun _ _ _ h => h) (by rfl) (by assumption) ?_
          try simp only [Act.put, List.setIfInBounds_toArray, List.set_cons_zero, List.set_cons_succ]
          refine skipD (i := 5) (d := some 43) rfl rfl (by kernel_rfl) (by kernel_rfl) (by kernel_rfl) (fun _ _ _ h => h) (by rfl) (by assumption) ?_
          try simp only [Act.put, List.setIfInBounds_toArray, List.set_cons_zero, List.set_cons_succ]
          refine skipD (i := 6) (d := some 44) rfl rfl (by kernel_rfl) (by kernel_rfl) (by kernel_rfl) (fun _ _ _ h => h) (by rfl) (by assumption) ?_
          try simp only [Act.put, List.setIfInBounds_toArray, List.set_cons_zero, List.set_cons_succ]
          refine skipD (i := 7) (d := some 45) rfl rfl (by kernel_rfl) (by kernel_rfl) (by kernel_rfl) (fun _ _ _ h => h) (by rfl) (by assumption) ?_
          try simp only [Act.put, List.setIfInBounds_toArray, List.set_cons_zero, List.set_cons_succ]
          refine skipD (i := 8) (d := some 46) rfl rfl (by kernel_rfl) (by kernel_rfl) (by kernel_rfl) (fun _ _ _ h => h) (by rfl) (by assumption) ?_
          try simp only [Act.put, List.setIfInBounds_toArray, List.set_cons_zero, List.set_cons_succ]
          refine skipD (i := 9) (d := some 47) rfl rfl (by kernel_rfl) (by kernel_rfl) (by kernel_rfl) (fun _ _ _ h => h) (by rfl) (by assumption) ?_
          try simp only [Act.put, List.setIfInBounds_toArray, List.set_cons_zero, List.set_cons_succ]
          refine skipD (i := 10) (d := some 48) rfl rfl (by kernel_rfl) (by kernel_rfl) (by kernel_rfl) (fun _ _ _ h => h) (by rfl) (by assumption) ?_
          try simp only [Act.put, List.setIfInBounds_toArray, List.set_cons_zero, List.set_cons_succ]
          refine takeD (i := 11) (d := some 49) (v := ?_) rfl rfl (by kernel_rfl) (by kernel_rfl) (by kernel_rfl) (fun _ _ _ h => h) (by rfl) ?_ (by assumption) ?_
          rotate_left
          · intro w' hSw
            (try dsimp only at hSw)
            go_simp
            try with_reducible rfl
          try simp only [Act.put, List.setIfInBounds_toArray, List.set_cons_zero, List.set_cons_succ]
          refine wpAnyH_done (by kernel_rfl) ?_ _
          clear hHeld hHeld2
          all_goals
            have hfq : Fr No X w9 := ((Fr.refl No X).drew).then hf9
            have hbq := HEND.out.2.1 _ hfq
            obtain ⟨⟨y0, y1, y2⟩, f0, f1, f2⟩ := blk3f hbq
            have HBQ := hid (And.intro hbq hfq)
            clear hbq hfq hf9
            go_wp2_with fail
            refine ret_tok rfl (g := g) (set3 HBQ.out.1) rfl rfl rfl ?_
            rw [hE3.out, trdT_no hE3.out (by decide)]
            exact HEND.out.1 _ HBQ.out.2
        | true =>
          rw [hM] at hMc
          have HMC := hid hMc
          have hMd := of_decide_eq_true hM
          have hl6 : (trdD bs).length = n := by rw [HRR.out.2.2.2.2.2.2, HRR.out.2.2.2.2.2.1]
          have HD6 := hid hl6
          have hN := HV.out.2.2.2
          have HR2 := hid (HRR.out.2.1.fr0 HEND.out.2.2.2)
          have HNB := hid (show be ((bs.drop 5).take 4) = N from HV.out.2.2.2.symm)
          clear hMc hM hl6 hN
          by_cases hNn : N = n
          · have hE3 := hid (show trdE bs = 0 by rw [HV.out.1, if_pos ⟨by omega, by omega, by have := HKN.out; omega⟩])
            have hb0 : ((N : Int) != (n : Int)) = false := by rw [hNn]; simp
            clear hNn hMd
            go_wp2_with fail
            refine wp_region_held_drew (S := (fun W => W.cell? ⟨gt, 0, none⟩ = some (.int .i64 (F : Int)) ∧ W.cell? ⟨gt, 1, none⟩ = some (.int .u32 (S : Int)) ∧ W.cell? ⟨gt, 2, none⟩ = some (.slice A8 n c8))) (by kernel_rfl) ⟨t0, t1, t2⟩ (fun hHeld => ?_)
            refine takeD (i := 0) (d := some 38) (v := ?_) rfl rfl (by kernel_rfl) (by kernel_rfl) (by kernel_rfl) (fun _ _ _ h => h) (by rfl) ?_ (by assumption) ?_
            rotate_left
            · intro w' hSw
              (try dsimp only at hSw)
              go_simp
              try with_reducible rfl
            try simp only [Act.put, List.setIfInBounds_toArray, List.set_cons_zero, List.set_cons_succ]
            refine oneD (i := 1) (by kernel_rfl) rfl (fun K hK => ?_)
            go_simp
            go_at_call 30
            refine (HMC.out _).mono ?_
            rintro e w9 ⟨rfl, hf9⟩
            refine hK.out _ _ (keep3 hf9 hgt0 (fun h => h) ⟨t0, t1, t2⟩) (fun hHeld2 => ?_)
            clear hK K
            try simp only [Act.put, List.setIfInBounds_toArray, List.set_cons_zero, List.set_cons_succ]
            refine takeD (i := 2) (d := some 40) (v := ?_) rfl rfl (by kernel_rfl) (by kernel_rfl) (by kernel_rfl) (fun _ _ _ h => h) (by rfl) ?_ (by assumption) ?_
            rotate_left
            · intro w' hSw
              (try dsimp only at hSw)
              go_simp
              try with_reducible rfl
            try simp only [Act.put, List.setIfInBounds_toArray, List.set_cons_zero, List.set_cons_succ]
            refine takeD (i := 3) (d := some 41) (v := ?_) rfl rfl (by kernel_rfl) (by kernel_rfl) (by kernel_rfl) (fun _ _ _ h => h) (by rfl) ?_ (by assumption) ?_
            rotate_left
            · intro w' hSw
              (try dsimp only at hSw)
              go_simp
              try with_reducible rfl
            try simp only [Act.put, List.setIfInBounds_toArray, List.set_cons_zero, List.set_cons_succ]
            refine takeD (i := 4) (d := some 42) (v := ?_) rfl rfl (by kernel_rfl) (by kernel_rfl) (by kernel_rfl) (fun _ _ _ h => h) (by rfl) ?_ (by assumption) ?_
            rotate_left
            · intro w' hSw
              (try dsimp only at hSw)
              go_simp
              try with_reducible rfl
            try simp only [Act.put, List.setIfInBounds_toArray, List.set_cons_zero, List.set_cons_succ]
            refine takeD (i := 5) (d := some 43) (v := ?_) rfl rfl (by kernel_rfl) (by kernel_rfl) (by kernel_rfl) (fun _ _ _ h => h) (by rfl) ?_ (by assumption) ?_
            rotate_left
            · intro w' hSw
              (try dsimp only at hSw)
              go_simp
              try with_reducible rfl
            try simp only [Act.put, List.setIfInBounds_toArray, List.set_cons_zero, List.set_cons_succ]
            refine takeD (i := 7) (d := some 45) (v := ?_) rfl rfl (by kernel_rfl) (by kernel_rfl) (by kernel_rfl) (fun _ _ _ h => h) (by rfl) ?_ (by assumption) ?_
            rotate_left
            · intro w' hSw
              (try dsimp only at hSw)
              go_simp
              try with_reducible rfl
            try simp only [Act.put, List.setIfInBounds_toArray, List.set_cons_zero, List.set_cons_succ]
            refine takeD (i := 8) (d := some 46) (v := ?_) rfl rfl (by kernel_rfl) (by kernel_rfl) (by kernel_rfl) (fun _ _ _ h => h) (by rfl) ?_ (by assumption) ?_
            rotate_left
            · intro w' hSw
              (try dsimp only at hSw)
              go_simp
              try with_reducible rfl
            try simp only [Act.put, List.setIfInBounds_toArray, List.set_cons_zero, List.set_cons_succ]
            refine takeD (i := 9) (d := some 47) (v := ?_) rfl rfl (by kernel_rfl) (by kernel_rfl) (by kernel_rfl) (fun _ _ _ h => h) (by rfl) ?_ (by assumption) ?_
            rotate_left
            · intro w' hSw
              (try dsimp only at hSw)
              go_simp
              try with_reducible rfl
            try simp only [Act.put, List.setIfInBounds_toArray, List.set_cons_zero, List.set_cons_succ]
            refine oneD (i := 6) (by kernel_rfl) rfl (fun K hK => ?_)
            go_simp
            go_at_call 40
            refine (refNumber_calls _ ((bs.drop 5).take 4) 4 _ HRR.out.2.2.2.2.1 _ (HR2.out.fr0 (((Fr.refl No X).drew).then hf9)) (by rw [HRR.out.2.2.2.2.1]; decide)).mono ?_
            rw [HNB.out]
            rintro e w7 ⟨rfl, h7⟩
            rw [h7]
            clear h7 w7
            refine hK.out _ _ hHeld2 (fun hHeld3 => ?_)
            clear hK K
            try simp only [Act.put, List.setIfInBounds_toArray, List.set_cons_zero, List.set_cons_succ]
            refine takeD (i := 10) (d := some 48) (v := ?_) rfl rfl (by kernel_rfl) (by kernel_rfl) (by kernel_rfl) (fun _ _ _ h => h) (by rfl) ?_ (by assumption) ?_
            rotate_left
            · intro w' hSw
              (try dsimp only at hSw)
              go_simp
              try with_reducible rfl
            try simp only [Act.put, List.setIfInBounds_toArray, List.set_cons_zero, List.set_cons_succ]
            refine takeD (i := 11) (d := some 49) (v := ?_) rfl rfl (by kernel_rfl) (by kernel_rfl) (by kernel_rfl) (fun _ _ _ h => h) (by rfl) ?_ (by assumption) ?_
            rotate_left
            · intro w' hSw
              (try dsimp only at hSw)
              go_simp
              try with_reducible rfl
            try simp only [Act.put, List.setIfInBounds_toArray, List.set_cons_zero, List.set_cons_succ]
            refine wpAnyH_done (by kernel_rfl) ?_ _
            clear hHeld hHeld2 hHeld3
            have hfq : Fr No X w9 := ((Fr.refl No X).drew).then hf9
            have hbq := HEND.out.2.1 _ hfq
            obtain ⟨⟨y0, y1, y2⟩, f0, f1, f2⟩ := blk3f hbq
            have htq := HEND.out.2.2.1 _ hfq
            obtain ⟨u0, u1, u2⟩ := blk3c htq
            have HBQ := hid (And.intro hbq (And.intro hfq htq))
            clear hbq hfq hf9 htq
            go_wp2_with fail
            refine ret_tok rfl (g := g) (set3 HBQ.out.1) rfl rfl rfl ?_
            unfold trdT
            rw [hE3.out, if_pos rfl, HV.out.2.1, ← HV.out.2.2.1]
            obtain ⟨ob, hr1, hr2⟩ := HX.out.2.2.1
            have hgw6 : g < w6.heap.size := by omega
            have hw06 : w.heap.size ≤ w6.heap.size := by have := HB.out.2.1.size; omega
            refine ⟨_, rfl, New.mk' rfl HD6.out ((hr1.fr HBQ.out.2.1 (fun _ _ h => h)).fr (((Fr.refl (HK.One g) _).setCell (p := ⟨g, 0, none⟩) (fun _ => rfl) _).setCell (p := ⟨g, 1, none⟩) (fun _ => rfl) _ |>.setCell (p := ⟨g, 2, none⟩) (fun _ => rfl) _) (fun q hq e => by have e : q = g := e; have := hr2 q hq; omega)) (fun q hq => by have := hr2 q hq; omega) (fr3 _ _ _ (HEND.out.2.2.2.then HBQ.out.2.1) (fun h => absurd h (by have := HB.out.2.2; omega)))⟩
          · have hE3 := hid (show trdE bs = 3 by rw [HV.out.1, if_neg (fun h => hNn (by have := HKN.out; omega))])
            have hb0 : ((N : Int) != (n : Int)) = true := by rw [bne_iff_ne]; omega
            clear hNn hMd
            go_wp2_with fail
            refine wp_region_held_drew (S := (fun W => W.cell? ⟨gt, 0, none⟩ = some (.int .i64 (F : Int)) ∧ W.cell? ⟨gt, 1, none⟩ = some (.int .u32 (S : Int)) ∧ W.cell? ⟨gt, 2, none⟩ = some (.slice A8 n c8))) (by kernel_rfl) ⟨t0, t1, t2⟩ (fun hHeld => ?_)
            refine takeD (i := 0) (d := some 38) (v := ?_) rfl rfl (by kernel_rfl) (by kernel_rfl) (by kernel_rfl) (fun _ _ _ h => h) (by rfl) ?_ (by assumption) ?_
            rotate_left
            · intro w' hSw
              (try dsimp only at hSw)
              go_simp
              try with_reducible rfl
            try simp only [Act.put, List.setIfInBounds_toArray, List.set_cons_zero, List.set_cons_succ]
            refine oneD (i := 1) (by kernel_rfl) rfl (fun K hK => ?_)
            go_simp
            go_at_call 30
            refine (HMC.out _).mono ?_
            rintro e w9 ⟨rfl, hf9⟩
            refine hK.out _ _ (keep3 hf9 hgt0 (fun h => h) ⟨t0, t1, t2⟩) (fun hHeld2 => ?_)
            clear hK K
            try simp only [Act.put, List.setIfInBounds_toArray, List.set_cons_zero, List.set_cons_succ]
            refine takeD (i := 2) (d := some 40) (v := ?_) rfl rfl (by kernel_rfl) (by kernel_rfl) (by kernel_rfl) (fun _ _ _ h => h) (by rfl) ?_ (by assumption) ?_
            rotate_left
            · intro w' hSw
              (try dsimp only at hSw)
              go_simp
              try with_reducible rfl
            try simp only [Act.put, List.setIfInBounds_toArray, List.set_cons_zero, List.set_cons_succ]
            refine takeD (i := 3) (d := some 41) (v := ?_) rfl rfl (by kernel_rfl) (by kernel_rfl) (by kernel_rfl) (fun _ _ _ h => h) (by rfl) ?_ (by assumption) ?_
            rotate_left
            · intro w' hSw
              (try dsimp only at hSw)
              go_simp
              try with_reducible rfl
            try simp only [Act.put, List.setIfInBounds_toArray, List.set_cons_zero, List.set_cons_succ]
            refine takeD (i := 4) (d := some 42) (v := ?_) rfl rfl (by kernel_rfl) (by kernel_rfl) (by kernel_rfl) (fun _ _ _ h => h) (by rfl) ?_ (by assumption) ?_
            rotate_left
            · intro w' hSw
              (try dsimp only at hSw)
              go_simp
              try with_reducible rfl
            try simp only [Act.put, List.setIfInBounds_toArray, List.set_cons_zero, List.set_cons_succ]
            refine takeD (i := 5) (d := some 43) (v := ?_) rfl rfl (by kernel_rfl) (by kernel_rfl) (by kernel_rfl) (fun _ _ _ h => h) (by rfl) ?_ (by assumption) ?_
            rotate_left
            · intro w' hSw
              (try dsimp only at hSw)
              go_simp
              try with_reducible rfl
            try simp only [Act.put, List.setIfInBounds_toArray, List.set_cons_zero, List.set_cons_succ]
            refine takeD (i := 7) (d := some 45) (v := ?_) rfl rfl (by kernel_rfl) (by kernel_rfl) (by kernel_rfl) (fun _ _ _ h => h) (by rfl) ?_ (by assumption) ?_
            rotate_left
            · intro w' hSw
              (try dsimp only at hSw)
              go_simp
              try with_reducible rfl
            try simp only [Act.put, List.setIfInBounds_toArray, List.set_cons_zero, List.set_cons_succ]
            refine takeD (i := 8) (d := some 46) (v := ?_) rfl rfl (by kernel_rfl) (by kernel_rfl) (by kernel_rfl) (fun _ _ _ h => h) (by rfl) ?_ (by assumption) ?_
            rotate_left
            · intro w' hSw
              (try dsimp only at hSw)
              go_simp
              try with_reducible rfl
            try simp only [Act.put, List.setIfInBounds_toArray, List.set_cons_zero, List.set_cons_succ]
            refine takeD (i := 9) (d := some 47) (v := ?_) rfl rfl (by kernel_rfl) (by kernel_rfl) (by kernel_rfl) (fun _ _ _ h => h) (by rfl) ?_ (by assumption) ?_
            rotate_left
            · intro w' hSw
              (try dsimp only at hSw)
              go_simp
              try with_reducible rfl
            try simp only [Act.put, List.setIfInBounds_toArray, List.set_cons_zero, List.set_cons_succ]
            refine oneD (i := 6) (by kernel_rfl) rfl (fun K hK => ?_)
            go_simp
            go_at_call 40
            refine (refNumber_calls _ ((bs.drop 5).take 4) 4 _ HRR.out.2.2.2.2.1 _ (HR2.out.fr0 (((Fr.refl No X).drew).then hf9)) (by rw [HRR.out.2.2.2.2.1]; decide)).mono ?_
            rw [HNB.out]
            rintro e w7 ⟨rfl, h7⟩
            rw [h7]
            clear h7 w7
            refine hK.out _ _ hHeld2 (fun hHeld3 => ?_)
            clear hK K
            try simp only [Act.put, List.setIfInBounds_toArray, List.set_cons_zero, List.set_cons_succ]
            refine takeD (i := 10) (d := some 48) (v := ?_) rfl rfl (by kernel_rfl) (by kernel_rfl) (by kernel_rfl) (fun _ _ _ h => h) (by rfl) ?_ (by assumption) ?_
            rotate_left
            · intro w' hSw
              (try dsimp only at hSw)
              go_simp
              try with_reducible rfl
            try simp only [Act.put, List.setIfInBounds_toArray, List.set_cons_zero, List.set_cons_succ]
            refine takeD (i := 11) (d := some 49) (v := ?_) rfl rfl (by kernel_rfl) (by kernel_rfl) (by kernel_rfl) (fun _ _ _ h => h) (by rfl) ?_ (by assumption) ?_
            rotate_left
            · intro w' hSw
              (try dsimp only at hSw)
              go_simp
              try with_reducible rfl
            try simp only [Act.put, List.setIfInBounds_toArray, List.set_cons_zero, List.set_cons_succ]
            refine wpAnyH_done (by kernel_rfl) ?_ _
            clear hHeld hHeld2 hHeld3
            have hfq : Fr No X w9 := ((Fr.refl No X).drew).then hf9
            have hbq := HEND.out.2.1 _ hfq
            obtain ⟨⟨y0, y1, y2⟩, f0, f1, f2⟩ := blk3f hbq
            have htq := HEND.out.2.2.1 _ hfq
            obtain ⟨u0, u1, u2⟩ := blk3c htq
            have HBQ := hid (And.intro hbq (And.intro hfq htq))
            clear hbq hfq hf9 htq
            go_wp2_with fail
            refine ret_tok rfl (g := g) (set3 HBQ.out.1) rfl rfl rfl ?_
            rw [hE3.out, trdT_no hE3.out (by decide)]
            exact HEND.out.1 _ HBQ.out.2.1
    · have HE := hid (show trdE bs = 4 by
        unfold trdE
        rw [if_neg (by rw [HN.out.1]; exact h13), HN.out.1, ← hk, if_pos (by rw [← hC, ← hL]; exact hS)])
      have hne : ((C : Int) != (L : Int)) = true := by rw [bne_iff_ne]; omega
      clear hk hL hC hd4 htk hb hf1 hS
      go_enter Try.func15, Try.ntmps15
      go_wp2_with fail
      rw [← hw1, ← hgg]
      clear hw1 hgg
      go_region_held3 (fun _ => True) (first | trivial | exact ⟨⟩)
        (first
          | (go_at_call 33; (with_reducible refine (refOf_calls A (bs.take k) k c HT.out _ ?rd1 (by omega)).mono ?_); (case rd1 => exact (HN.out.2.fr0 HB.out.2.1).take k); rw [← HKK.out.2.2.1]; rintro e w5 ⟨rfl, h5⟩; rw [h5]; clear h5 w5)
          | (go_at_call 41; (with_reducible refine (refTurned_calls _ (bs.drop k) 4 _ HKK.out.2.2.2 _ ?rd2 (by rw [HKK.out.2.2.2]; decide)).mono ?_); (case rd2 => exact HRD.out); rintro e w6 ⟨v6, rfl, hnew6⟩; obtain ⟨A6, n6, c6, rfl, N6⟩ := hnew6.use; clear hnew6; obtain rfl : n6 = 4 := by rw [← N6.out.1, List.length_reverse, HKK.out.2.2.2])
          | (go_at_call 40; (with_reducible refine (refNumber_calls A6 (bs.drop k).reverse 4 c6 N6.out.1 _ N6.out.2.1 (by rw [N6.out.1]; decide)).mono ?_); rw [← HLB.out]; rintro e w7 ⟨rfl, h7⟩; rw [h7]; clear h7 w7))
      have hfX : Fr No w w6 := HB.out.2.1.then (((Fr.refl No w1).drew).then N6.out.2.2.2.1)
      have hbX : w6.heap[g]? = some (.cells #[.int .i64 0, .int .u32 0, .slice none 0 0] 25 (0, 0)) :=
        ((((Fr.refl No w1).drew).then N6.out.2.2.2.1).block g (Array.getElem?_eq_some_iff.1 HB.out.1).1 (fun h => h)).trans HB.out.1
      obtain ⟨⟨c0, c1, c2⟩, f0, f1, f2⟩ := blk3f hbX
      have HX := hid (And.intro hbX hfX)
      clear hbX hfX
      go_wp2_with fail
      refine ret_tok rfl (g := g) (set3 HX.out.1) rfl rfl rfl ?_
      refine ⟨_, by rw [HE.out, trdT_no HE.out (by decide)]; rfl, ?_⟩
      rw [trdT_no HE.out (by decide)]
      exact ⟨NewR.nil, fr3 _ _ _ HX.out.2 (fun h => absurd h (by have := HB.out.2.2; omega))⟩
end Go.Proofs.Ytponiapdpecioaa

/- The contract of screen.extension: one extension of a beginning. -/
import Derived.Test.YtamkfjbdcjkchaaDoorSTab
import Derived.Test.YtamkfjbdcjkchaaDoorBlk2
namespace Go.Proofs.YtamkfjbdcjkchaaDoor
open Go.RowKit Go.Proofs.HK
set_option linter.unusedVariables false
set_option linter.unusedSimpArgs false
attribute [local go_sem] max2_int min2_int max_two min_two
theorem one_yes (o : List UInt8) (p : Nat) (h : p < o.length) : numL o p 0 1 = ((rdB o p).toNat : Int) ∧ numP o p 0 1 = p + 1 ∧ numE o p 0 1 = 0 := by
  have hf : fitsS o.length (p : Int) 1 = 0 := by
    unfold fitsS
    rw [if_neg (by omega), if_neg (by omega)]
  refine ⟨?_, ?_, ?_⟩
  · unfold numL littleS
    rw [if_pos rfl, if_pos hf, if_pos hf]
    simp only [Int.toNat_natCast]
    have e : (o.drop p).take (1 : Int).toNat = [rdB o p] := by
      rw [show (1 : Int).toNat = 1 from rfl, List.drop_eq_getElem_cons h, List.take_succ_cons, List.take_zero]
      unfold rdB
      simp [List.getD, h]
    rw [e]
    simp [le]
  · unfold numP
    rw [if_pos ⟨rfl, hf⟩]
    rfl
  · unfold numE
    rw [if_pos rfl, hf]
theorem one_no (o : List UInt8) (p : Nat) (h : o.length ≤ p) : numL o p 0 1 = 0 ∧ numP o p 0 1 = p ∧ numE o p 0 1 = 2 := by
  have hf : fitsS o.length (p : Int) 1 = 2 := by
    unfold fitsS
    rw [if_neg (by omega), if_pos (by omega)]
  refine ⟨?_, ?_, ?_⟩
  · unfold numL; rw [if_pos rfl, if_neg (by rw [hf]; decide)]
  · unfold numP; rw [if_neg (by rw [hf]; simp)]
  · unfold numE; rw [if_pos rfl, hf]
theorem and1_8 : ∀ m : Fin 256, bits .and .u8 ((m.val : Nat) : Int) 1 = ((m.val % 2 : Nat) : Int) := by decide +kernel
def b00 : BSt := ⟨0, 0, false, []⟩
/-- What an extension makes of the reader, and of the colour that covers nothing; p: where its label stands. -/
def exS (o : List UInt8) (p : Nat) (c : Int) : LS × Int :=
  if o.length ≤ p then (⟨p, 2⟩, c)
  else if (bRun b00 (o.drop (p + 1))).done = false then (⟨p + 1, 2⟩, c)
  else if (rdB o p).toNat ≠ 249 then (⟨p + 1 + (bRun b00 (o.drop (p + 1))).seen, 0⟩, c)
  else if (bRun b00 (o.drop (p + 1))).seen ≠ 6 ∨ (bRun b00 (o.drop (p + 1))).out.length ≠ 4 then (⟨p + 1 + (bRun b00 (o.drop (p + 1))).seen, 3⟩, c)
  else (⟨p + 1 + (bRun b00 (o.drop (p + 1))).seen, 0⟩, if (rdB (bRun b00 (o.drop (p + 1))).out 0).toNat % 2 = 1 then ((rdB (bRun b00 (o.drop (p + 1))).out 3).toNat : Int) else -1)
/-- A screen's box. -/
def scC (W H : Int) (tv : Value) (lo : Bool) (cl : Int) (la : Bool) (bi : Int) : Array Value := #[.int .i64 W, .int .i64 H, tv, .bool lo, .int .i64 cl, .bool la, .int .i64 bi]
theorem blk7 {W : World} {g : Nat} {v0 v1 v2 v3 v4 v5 v6 : Value} {t : TypeId} (hb : W.heap[g]? = some (.cells #[v0, v1, v2, v3, v4, v5, v6] t (0, 0))) :
    W.cell? ⟨g, 0, none⟩ = some v0 ∧ W.cell? ⟨g, 1, none⟩ = some v1 ∧ W.cell? ⟨g, 2, none⟩ = some v2 ∧ W.cell? ⟨g, 3, none⟩ = some v3 ∧ W.cell? ⟨g, 4, none⟩ = some v4 ∧ W.cell? ⟨g, 5, none⟩ = some v5 ∧ W.cell? ⟨g, 6, none⟩ = some v6 ∧ ∀ i, W.frozen? ⟨g, i, none⟩ = false := by
  simp [World.cell?, World.frozen?, hb]
def RetX {L T : Nat} (w : World) (g h : Nat) (o : List UInt8) (s : LS) (vs : Array Value) (e : Ending) (w' : World) : Prop :=
  e = .returned (.tuple #[]) ∧ Cur L T w' g o s.p s.e ∧ w'.heap[h]? = some (.cells vs 26 (0, 0)) ∧ Fr (fun k => k = g ∨ k = h) w w'
theorem bytes_yes (o : List UInt8) (p n : Nat) (h : p + n ≤ o.length) : byP o p 0 (n : Int) = p + n ∧ byE o p 0 (n : Int) = 0 := by
  have he : byE o p 0 (n : Int) = 0 := by unfold byE; rw [if_pos rfl, if_neg (by omega), if_neg (by omega)]
  exact ⟨by unfold byP; rw [if_pos ⟨rfl, he⟩]; simp, he⟩
set_option maxRecDepth 100000 in
set_option maxHeartbeats 3200000 in
theorem ext_calls {L T : Nat} (w : World) (g h : Nat) (o : List UInt8) (p : Nat) (A : Option Addr) (n c : Nat) (W H : Int) (tv : Value) (lo : Bool) (cl : Int) (la : Bool) (bi : Int)
    (hc : Cur L T w g o p 0) (hT : T ≤ w.heap.size) (hr : Rd B w A (o.drop p)) (hn : (o.drop p).length = n) (hnc : n ≤ c) (hA : ∀ ad, A = some ad → ad.block ≠ g ∧ ad.block ≠ h) (hb : w.heap[h]? = some (.cells (scC W H tv lo cl la bi) 26 (0, 0))) (hh : h < L ∨ T ≤ h) :
    Calls Tryd.prog 20 #[.pointer (some ⟨g, 0, none⟩), .slice A n c, .pointer (some ⟨h, 0, none⟩)] w (RetX (L := L) (T := T) w g h o (exS o p cl).1 (scC W H tv lo (exS o p cl).2 la bi)) := by
  have hol := hc.len
  have hgl := hc.gl
  have hgT := hc.gu
  have hgh : g ≠ h := by omega
  have HC := hid hc
  have HB := hid hb
  have HN := hid (And.intro hr (And.intro hn (And.intro hnc hA)))
  have hn1 : n + p = o.length ∨ (n = 0 ∧ o.length ≤ p) := by rw [← hn, List.length_drop]; omega
  have hhs : h < w.heap.size := (Array.getElem?_eq_some_iff.1 hb).1
  have HN1 := hid hn1
  clear hc hb hr hn hnc hA hn1
  by_cases hp : p < o.length
  · obtain ⟨f1, f2, f3⟩ := one_yes o p hp
    have hlx := (rdB o p).toNat_lt
    obtain ⟨lx, hlxe⟩ : ∃ x, x = (rdB o p).toNat := ⟨_, rfl⟩
    rw [← hlxe] at f1 hlx
    obtain ⟨st, hst⟩ : ∃ s, s = bRun b00 (o.drop (p + 1)) := ⟨_, rfl⟩
    have hsn := bRun_seen (o.drop (p + 1)) b00
    rw [← hst, List.length_drop] at hsn
    have hsn1 : st.seen ≤ o.length - (p + 1) := by have := hsn.1; simp [b00] at this; omega
    have HEX := hid (show exS o p cl = (if st.done = false then (⟨p + 1, 2⟩, cl) else if lx ≠ 249 then (⟨p + 1 + st.seen, 0⟩, cl) else if st.seen ≠ 6 ∨ st.out.length ≠ 4 then (⟨p + 1 + st.seen, 3⟩, cl) else (⟨p + 1 + st.seen, 0⟩, if (rdB st.out 0).toNat % 2 = 1 then ((rdB st.out 3).toNat : Int) else -1)) from by
      unfold exS; rw [if_neg (by omega), ← hst, ← hlxe])
    have HF := hid (And.intro f1 (And.intro f2 f3))
    have HST := hid hst
    have hn2 : o.length ≤ n + p := by have := HN1.out; omega
    have hn3 : n + p ≤ o.length := by have := HN1.out; omega
    have hcut := cut_l slU8 A n c 1 1 rfl (by omega)
    clear f1 f2 f3 hlxe hst hsn
    go_enter Tryd.func20, Tryd.ntmps20
    go_wp2_with fail
    refine (clittle_calls w g o p 0 1 HC.out).mono ?_
    rw [HF.out.1, HF.out.2.1, HF.out.2.2]
    rintro e w1 ⟨rfl, hc1, hf1⟩
    have H1 := hid (And.intro hc1 hf1)
    clear hc1 hf1
    go_wp2_with fail
    refine (bnew_calls w1).mono ?_
    rintro e w2 ⟨rfl, hw2⟩
    obtain ⟨gr, hgr⟩ : ∃ q, q = w1.heap.size := ⟨_, rfl⟩
    have hb2 : w2.heap[gr]? = some (.cells (bkC 0 0 false (.slice none 0 0)) 82 (0, 0)) := by rw [hw2, hgr]; exact heap_new _ _
    have hf2 : Fr No w1 w2 := by rw [hw2]; exact (Fr.refl _ _).alloc _
    rw [← hgr]
    have hs1 := H1.out.2.size
    have hgr1 : w1.heap.size ≤ gr := by omega
    have hgr3 : gr ≤ w1.heap.size := by omega
    have H2 := hid (And.intro hb2 (And.intro (H1.out.1.fr hf2 (fun _ _ _ h => h)) (H1.out.2.then hf2.any)))
    clear hw2 hb2 hf2 hgr
    go_wp2_with fail
    refine (err_calls w2 g o (p + 1) 0 H2.out.2.1).mono ?_
    rintro e w3 ⟨rfl, hw3⟩
    rw [hw3]
    clear hw3 w3
    have hA2 : ∀ ad, cutA A c 1 1 = some ad → ad.block ≠ gr := fun ad e => by
      obtain ⟨a, ea, eb⟩ := cutA_blk e
      subst ea
      have := HN.out.1.lt (by rw [HN.out.2.1]; omega)
      omega
    have hrd2 : Rd B w2 (cutA A c 1 1) (o.drop (p + 1)) := by
      have h := (HN.out.1.fr H2.out.2.2 (fun ad e h => (HN.out.2.2.2 ad e).1 h)).cutA 1 c (by rw [HN.out.2.1]; exact HN.out.2.2.1) (by rw [HN.out.2.1]; omega)
      rw [List.drop_drop] at h
      exact h
    have HRD := hid (And.intro hrd2 hA2)
    clear hrd2 hA2
    go_wp2_with fail
    refine (bpush_calls (cutA A c 1 1) (o.drop (p + 1)) (n - 1) (c - 1) w2 gr 0 0 (by rw [List.length_drop]; omega) HRD.out.1 (by have := HN.out.2.2.1; omega) HRD.out.2 (by omega) (by omega) (by omega) H2.out.1).mono ?_
    rw [show bRun ⟨0, 0, false, []⟩ (o.drop (p + 1)) = st from HST.out.symm]
    rintro e w4 ⟨oA, on, oc, rA, rn, rc, rfl, hout, hbr, hrest, hf4⟩
    have hgL : g ≠ gr := by have := HC.out.lt; omega
    have hgr2 : ∀ k, L ≤ k → k < T → ¬ HK.One gr k := fun k h1 h2 e => by have e : k = gr := e; omega
    have hb4 : w4.heap[h]? = some (.cells (scC W H tv lo cl la bi) 26 (0, 0)) := (hf4.block h (by have := H2.out.2.2.size; omega) (fun e => by have e : h = gr := e; omega)).trans ((H2.out.2.2.block h hhs (fun e => by have e : h = g := e; omega)).trans HB.out)
    have hfa4 : Fr (HK.One g) w w4 := H2.out.2.2.trans hf4 (fun k hk e => by have e : k = gr := e; omega)
    have H4 := hid (And.intro hout (And.intro hbr (And.intro (H2.out.2.1.fr hf4 hgr2) (And.intro hb4 hfa4))))
    clear hout hbr hrest hf4 hb4 hfa4
    go_wp2_with fail
    refine (bdone_calls w4 gr _ _ _ _ H4.out.2.1).mono ?_
    rintro e w5 ⟨rfl, hw5⟩
    rw [hw5]
    clear hw5 w5
    obtain ⟨sl, sn, sd, so⟩ := st
    simp only at hsn1
    cases sd with
    | false =>
      have HEY := hid (show exS o p cl = (⟨p + 1, 2⟩, cl) from by rw [HEX.out]; rfl)
      go_wp2_with fail
      refine (fail_calls w4 g o (p + 1) 0 2 H4.out.2.2.1).mono ?_
      rintro e w5 ⟨rfl, hc5, hf5⟩
      have H5 := hid (And.intro hc5 hf5)
      clear hc5 hf5
      go_wp2_with fail
      refine bodyPost_ret (v := .tuple #[]) (results_none rfl _ _ _) rfl ?_
      rw [HEY.out]
      exact ⟨rfl, H5.out.1, (H5.out.2.block h (by have := H4.out.2.2.2.2.size; omega) (fun e => by have e : h = g := e; omega)).trans H4.out.2.2.2.1, (H4.out.2.2.2.2.then H5.out.2).mono (fun k hk e => .inl e)⟩
    | true =>
      go_wp2_with fail
      refine (bseen_calls w4 gr _ _ _ _ H4.out.2.1).mono ?_
      rintro e w5 ⟨rfl, hw5⟩
      rw [hw5]
      clear hw5 w5
      have HBY := hid (bytes_yes o (p + 1) sn (by omega))
      go_wp2_with fail
      refine (cbytes_calls w4 g o (p + 1) 0 (sn : Int) H4.out.2.2.1).mono ?_
      rw [HBY.out.1, HBY.out.2]
      rintro e w5 ⟨v5, rfl, _, hc5, hf5⟩
      have hb5 : w5.heap[h]? = some (.cells (scC W H tv lo cl la bi) 26 (0, 0)) := (hf5.block h (by have := H4.out.2.2.2.2.size; omega) (fun e => by have e : h = g := e; omega)).trans H4.out.2.2.2.1
      have hgr4 : gr < w4.heap.size := (Array.getElem?_eq_some_iff.1 H4.out.2.1).1
      have hbr5 := (hf5.block gr hgr4 (fun e => by have e : gr = g := e; omega)).trans H4.out.2.1
      have H5 := hid (And.intro hc5 (And.intro hb5 (And.intro hbr5 (And.intro (H4.out.1.fr hf5 (fun k h1 h2 e => by have e : k = g := e; have := H2.out.2.2.size; omega)) (H4.out.2.2.2.2.then hf5)))))
      clear hc5 hf5 hb5 hbr5
      by_cases hl9 : lx = 249
      · have hb9 : ((lx : Int) != 249) = false := by rw [hl9]; rfl
        by_cases h64 : sn = 6 ∧ so.length = 4
        · obtain ⟨h6, h4⟩ := h64
          have hon : on = 4 := by rw [← H5.out.2.2.2.1.len]; exact h4
          subst hon
          have hb6 : ((sn : Int) != 6) = false := by rw [h6]; rfl
          have HEY := hid (show exS o p cl = (⟨p + 1 + sn, 0⟩, if (rdB so 0).toNat % 2 = 1 then ((rdB so 3).toNat : Int) else -1) from by
            rw [HEX.out]
            rw [if_neg (by simp), if_neg (by omega), if_neg (by omega)])
          obtain ⟨ad, rfl, hx0⟩ := H5.out.2.2.2.1.rd.atN 0 (by omega)
          obtain ⟨ad', e', hx3⟩ := H5.out.2.2.2.1.rd.atN 3 (by omega)
          injection e' with e'
          subst e'
          have hy0 := (rdB so 0).toNat_lt
          have hy3 := (rdB so 3).toNat_lt
          obtain ⟨t0, ht0⟩ : ∃ x, x = (rdB so 0).toNat := ⟨_, rfl⟩
          obtain ⟨t3, ht3⟩ : ∃ x, x = (rdB so 3).toNat := ⟨_, rfl⟩
          rw [← ht0] at hx0 hy0
          rw [← ht3] at hx3 hy3
          have HTT := hid (And.intro ht0 ht3)
          have ha1 := and1_8 ⟨t0, hy0⟩
          simp only at ha1
          have hwt : IntKind.i64.wrap (t3 : Int) = (t3 : Int) := w64 _ (by omega) (by omega)
          have hlt0 := lt_of_cell hx0
          have hbadd : (ad.add 0).block = ad.block := add_block _ _
          have hadh : ad.block ≠ h := by
            have h1 := H5.out.2.2.2.1
            obtain ⟨ob, q1, q2⟩ := h1
            have h2 := q2 _ (q1.rd.2.2.1 ad rfl)
            have := H2.out.2.2.size
            omega
          clear ht0 ht3 h6 h4 hl9 hbadd
          obtain ⟨x0, x1, x2, x3, x4, x5, x6, z⟩ := blk7 (show w5.heap[h]? = some (.cells #[.int .i64 W, .int .i64 H, tv, .bool lo, .int .i64 cl, .bool la, .int .i64 bi] 26 (0, 0)) from H5.out.2.1)
          have hx0s : ∀ v, (w5.setCell ⟨h, 4, none⟩ v).cell? (ad.add 0) = some (.int .u8 (t0 : Int)) := fun v => ((Fr.set1 w5 h 4 v).cell (p := ad.add 0) hlt0 (fun e => by have e : (ad.add 0).block = h := e; rw [add_block] at e; omega)).trans hx0
          have hx0s' : ∀ v, (w5.setCell ⟨h, 4, none⟩ v).cell? ad = some (.int .u8 (t0 : Int)) := hx0s
          have hx3s : ∀ v, (w5.setCell ⟨h, 4, none⟩ v).cell? (ad.add 3) = some (.int .u8 (t3 : Int)) := fun v => ((Fr.set1 w5 h 4 v).cell (p := ad.add 3) (lt_of_cell hx3) (fun e => by have e : (ad.add 3).block = h := e; rw [add_block] at e; omega)).trans hx3
          have hx3s' : ∀ v, (w5.setCell ⟨h, 4, none⟩ v).cell? ⟨ad.block, ad.off + 3, none⟩ = some (.int .u8 (t3 : Int)) := fun v => by
            have h3 := hx3s v
            rw [show ad.add 3 = ⟨ad.block, ad.off + 3, none⟩ from by unfold Addr.add; rw [if_neg (by decide)]] at h3
            exact h3
          obtain ⟨r0, hr0⟩ : ∃ x, x = t0 % 2 := ⟨_, rfl⟩
          rw [← hr0] at ha1
          have HR0 := hid hr0
          have hr01 : r0 < 2 := by omega
          clear hr0
          have hpc : (r0 = 1 ∧ ((r0 : Int) == 1) = true) ∨ (¬ r0 = 1 ∧ ((r0 : Int) == 1) = false) := by
            by_cases h : r0 = 1
            · exact .inl ⟨h, by rw [h]; rfl⟩
            · exact .inr ⟨h, by simp; omega⟩
          rcases hpc with ⟨hp1, hp2⟩ | ⟨hp1, hp2⟩
          all_goals
            have HP1 := hid hp1
            clear hp1
            go_wp2_with fail
            refine (bseen_calls w5 gr _ _ _ _ H5.out.2.2.1).mono ?_
            rintro e w6 ⟨rfl, hw6⟩
            rw [hw6]
            clear hw6 w6
            go_wp2_with fail
            refine bodyPost_ret (v := .tuple #[]) (results_none rfl _ _ _) rfl ?_
            rw [HEY.out]
            simp only
            rw [← HTT.out.1, ← HTT.out.2, ← HR0.out]
          · have hfs : Fr (HK.One h) w5 ((w5.setCell ⟨h, 4, none⟩ (.int .i64 (-1))).setCell ⟨h, 4, none⟩ (.int .i64 (t3 : Int))) := (Fr.set1 w5 h 4 _).then (Fr.set1 _ h 4 _)
            refine ⟨rfl, H5.out.1.fr hfs (fun k h1 h2 e => by have e : k = h := e; omega), ?_, (H5.out.2.2.2.2.mono (fun k hk e => .inl e)).then (hfs.mono (fun k hk e => .inr e))⟩
            rw [if_pos HP1.out, heap_set _ h 4 _ _ _ (heap_set w5 h 4 _ _ _ H5.out.2.1)]
            rfl
          · have hfs : Fr (HK.One h) w5 (w5.setCell ⟨h, 4, none⟩ (.int .i64 (-1))) := Fr.set1 w5 h 4 _
            refine ⟨rfl, H5.out.1.fr hfs (fun k h1 h2 e => by have e : k = h := e; omega), ?_, (H5.out.2.2.2.2.mono (fun k hk e => .inl e)).then (hfs.mono (fun k hk e => .inr e))⟩
            rw [if_neg HP1.out, heap_set w5 h 4 _ _ _ H5.out.2.1]
            rfl
        · have HEY := hid (show exS o p cl = (⟨p + 1 + sn, 3⟩, cl) from by
            rw [HEX.out]
            rw [if_neg (by simp), if_neg (by omega), if_pos (by omega)])
          have hcs : (((sn : Int) != 6) = true) ∨ (((sn : Int) != 6) = false ∧ ((on : Int) != 4) = true) := by
            have hon := H5.out.2.2.2.1.len
            by_cases h6 : sn = 6
            · refine .inr ⟨by rw [h6]; rfl, by rw [bne_iff_ne]; omega⟩
            · exact .inl (by rw [bne_iff_ne]; omega)
          clear h64 hl9
          rcases hcs with hc6 | ⟨hc6, hc4⟩
          all_goals
            go_wp2_with fail
            refine (bseen_calls w5 gr _ _ _ _ H5.out.2.2.1).mono ?_
            rintro e w6 ⟨rfl, hw6⟩
            rw [hw6]
            clear hw6 w6
            go_wp2_with fail
            refine (fail_calls w5 g o (p + 1 + sn) 0 3 H5.out.1).mono ?_
            rintro e w6 ⟨rfl, hc6', hf6⟩
            have H6 := hid (And.intro hc6' hf6)
            clear hc6' hf6
            go_wp2_with fail
            refine bodyPost_ret (v := .tuple #[]) (results_none rfl _ _ _) rfl ?_
            rw [HEY.out]
            exact ⟨rfl, H6.out.1, (H6.out.2.block h (by have := H5.out.2.2.2.2.size; omega) (fun e => by have e : h = g := e; omega)).trans H5.out.2.1, (H5.out.2.2.2.2.then H6.out.2).mono (fun k hk e => .inl e)⟩
      · have hb9 : ((lx : Int) != 249) = true := by rw [bne_iff_ne]; omega
        have HEY := hid (show exS o p cl = (⟨p + 1 + sn, 0⟩, cl) from by
          rw [HEX.out]
          rw [if_neg (by simp), if_pos hl9])
        clear hl9
        go_wp2_with fail
        refine bodyPost_ret (v := .tuple #[]) (results_none rfl _ _ _) rfl ?_
        rw [HEY.out]
        exact ⟨rfl, H5.out.1, H5.out.2.1, H5.out.2.2.2.2.mono (fun k hk e => .inl e)⟩
  · obtain ⟨f1, f2, f3⟩ := one_no o p (by omega)
    have HF := hid (And.intro f1 (And.intro f2 f3))
    have HEY := hid (show exS o p cl = (⟨p, 2⟩, cl) from by unfold exS; rw [if_pos (by omega)])
    clear f1 f2 f3 hp
    go_enter Tryd.func20, Tryd.ntmps20
    go_wp2_with fail
    refine (clittle_calls w g o p 0 1 HC.out).mono ?_
    rw [HF.out.1, HF.out.2.1, HF.out.2.2]
    rintro e w1 ⟨rfl, hc1, hf1⟩
    have H1 := hid (And.intro hc1 hf1)
    clear hc1 hf1
    go_wp2_with fail
    refine (bnew_calls w1).mono ?_
    rintro e w2 ⟨rfl, hw2⟩
    have hf2 : Fr No w1 w2 := by rw [hw2]; exact (Fr.refl _ _).alloc _
    have H2 := hid (And.intro (H1.out.1.fr hf2 (fun _ _ _ h => h)) (H1.out.2.then hf2.any))
    clear hw2 hf2
    go_wp2_with fail
    refine (err_calls w2 g o p 2 H2.out.1).mono ?_
    rintro e w3 ⟨rfl, hw3⟩
    rw [hw3]
    clear hw3 w3
    go_wp2_with fail
    refine bodyPost_ret (v := .tuple #[]) (results_none rfl _ _ _) rfl ?_
    rw [HEY.out]
    exact ⟨rfl, H2.out.1, (H2.out.2.block h hhs (fun e => by have e : h = g := e; omega)).trans HB.out, H2.out.2.mono (fun k hk e => .inl e)⟩
end Go.Proofs.YtamkfjbdcjkchaaDoor

/- OctetsReads: the law's walk. -/
import Derived.Test.YtjmgffiplkkgpaaLaw2
import Derived.Deep.DeepCutAuto
import Derived.Deep.CutBlock
namespace Go.Proofs.Ytjmgffiplkkgpaa
open Go.RowKit Go.Proofs.HK
set_option linter.unusedVariables false
set_option linter.unusedSimpArgs false
attribute [local go_sem] max2_int min2_int max_two min_two

/-- Both cursors are at one place. -/
structure Sim (bs : List UInt8) (p : Nat) (er : Int) (rb : List UInt8) (rer : Int) : Prop where
  e : rer = er
  go : er = 0 → rb = bs.drop p
  no : er ≠ 0 → rb = []
  hi : p ≤ bs.length
theorem Sim.left {bs : List UInt8} {p : Nat} {er : Int} {rb : List UInt8} {rer : Int} (h : Sim bs p er rb rer) : leftS bs p er = (rb.length : Int) := by
  unfold leftS
  by_cases he : er = 0
  · rw [if_pos he, h.go he, List.length_drop]
  · rw [if_neg he, h.no he]; rfl
theorem Sim.fail {bs : List UInt8} {p : Nat} {er : Int} {rb : List UInt8} {rer : Int} (h : Sim bs p er rb rer) (x : Int) : Sim bs p (failS er x) (rfB rb rer x) (rfE rer x) := by
  have he := h.e
  subst he
  unfold failS rfB rfE
  by_cases h0 : rer = 0
  · by_cases hx : x = 0
    · rw [if_pos h0, if_neg (by simp [hx]), if_neg (by simp [hx]), hx]
      exact ⟨h0, fun _ => h.go h0, fun hn => absurd rfl hn, h.hi⟩
    · rw [if_pos h0, if_pos ⟨h0, hx⟩, if_pos ⟨h0, hx⟩]
      exact ⟨rfl, fun hn => absurd hn hx, fun _ => rfl, h.hi⟩
  · rw [if_neg h0, if_neg (fun hh => h0 hh.1), if_neg (fun hh => h0 hh.1)]
    exact h
theorem Sim.bytes {bs : List UInt8} {p : Nat} {er : Int} {rb : List UInt8} {rer : Int} (h : Sim bs p er rb rer) (n : Int) :
    byB bs p er n = ryR rb rer n ∧ Sim bs (byP bs p er n) (byE bs p er n) (ryB rb rer n) (ryE rb rer n) := by
  have he := h.e
  subst he
  have hhi := h.hi
  by_cases h0 : rer = 0
  · have hgo := h.go h0
    have hl : rb.length = bs.length - p := by rw [hgo, List.length_drop]
    have hE : byE bs p rer n = ryE rb rer n := by
      unfold byE ryE
      rw [if_pos h0, if_pos h0, hl]
    by_cases hz : ryE rb rer n = 0
    · have hn : 0 ≤ n ∧ n ≤ (bs.length - p : Nat) := by
        unfold ryE at hz
        rw [if_pos h0] at hz
        split at hz
        · omega
        · split at hz <;> omega
      refine ⟨?_, ?_⟩
      · unfold byB ryR
        rw [hE, if_pos ⟨h0, hz⟩, if_pos ⟨h0, hz⟩, hgo]
      · unfold byP ryB
        rw [hE, if_pos ⟨h0, hz⟩, if_pos h0, if_pos hz, hz]
        exact ⟨rfl, fun _ => by rw [hgo, List.drop_drop], fun hn => absurd rfl hn, by omega⟩
    · refine ⟨?_, ?_⟩
      · unfold byB ryR
        rw [hE, if_neg (fun hh => hz hh.2), if_neg (fun hh => hz hh.2)]
      · unfold byP ryB
        rw [hE, if_neg (fun hh => hz hh.2), if_pos h0, if_neg hz]
        exact ⟨rfl, fun hh => absurd hh hz, fun _ => rfl, hhi⟩
  · refine ⟨?_, ?_⟩
    · unfold byB ryR
      rw [if_neg (fun hh => h0 hh.1), if_neg (fun hh => h0 hh.1)]
    · unfold byP ryB byE ryE
      rw [if_neg (fun hh => h0 hh.1), if_neg h0, if_neg h0, if_neg h0]
      exact ⟨rfl, fun hh => absurd hh h0, fun _ => h.no h0, hhi⟩
theorem Sim.num {bs : List UInt8} {p : Nat} {er : Int} {rb : List UInt8} {rer : Int} (h : Sim bs p er rb rer) (n : Int) :
    numB bs p er n = (be (ryR (rbB rb rer n) (rbE rer n) n) : Nat) ∧ numL bs p er n = (le (ryR (rbB rb rer n) (rbE rer n) n) : Nat) ∧ Sim bs (numP bs p er n) (numE bs p er n) (ryB (rbB rb rer n) (rbE rer n) n) (ryE (rbB rb rer n) (rbE rer n) n) := by
  by_cases hn : n < 1 ∨ 4 < n
  · have h1 := h.fail 1
    have hfit : fitsS bs.length p n = 1 := by unfold fitsS; rw [if_pos (by omega)]
    have he := h.e
    subst he
    unfold rbB rbE
    rw [if_pos hn, if_pos hn]
    have hne : rfE rer 1 ≠ 0 := by unfold rfE; split <;> omega
    have hr : ryR (rfB rb rer 1) (rfE rer 1) n = [] := by unfold ryR; rw [if_neg (fun hh => hne hh.1)]
    have hb : ryB (rfB rb rer 1) (rfE rer 1) n = rfB rb rer 1 := by unfold ryB; rw [if_neg hne]
    have hE : ryE (rfB rb rer 1) (rfE rer 1) n = rfE rer 1 := by unfold ryE; rw [if_neg hne]
    rw [hr, hb, hE]
    have e1 : numB bs p rer n = 0 := by unfold numB; rw [hfit]; split <;> simp
    have e2 : numL bs p rer n = 0 := by unfold numL; rw [hfit]; split <;> simp
    have e3 : numP bs p rer n = p := by unfold numP; rw [hfit, if_neg (by omega)]
    have e4 : numE bs p rer n = failS rer 1 := by unfold numE failS; rw [hfit]
    rw [e1, e2, e3, e4]
    exact ⟨rfl, rfl, h1⟩
  · have he := h.e
    subst he
    unfold rbB rbE
    rw [if_neg hn, if_neg hn]
    obtain ⟨hb, hs⟩ := h.bytes n
    have hfit : rer = 0 → fitsS bs.length p n = byE bs p rer n := by
      intro h0
      unfold fitsS byE
      have := h.hi
      rw [if_neg (show ¬ (n < 1 ∨ 4 < n ∨ (p : Int) < 0) by omega), if_pos h0, if_neg (show ¬ n < 0 by omega)]
      by_cases hg : ((bs.length - p : Nat) : Int) < n
      · rw [if_pos hg, if_pos (by omega)]
      · rw [if_neg hg, if_neg (by omega)]
    have e3 : numP bs p rer n = byP bs p rer n := by
      unfold numP byP
      by_cases h0 : rer = 0
      · rw [hfit h0]
      · rw [if_neg (fun hh => h0 hh.1), if_neg (fun hh => h0 hh.1)]
    have e4 : numE bs p rer n = byE bs p rer n := by
      unfold numE
      by_cases h0 : rer = 0
      · rw [if_pos h0, hfit h0]
      · unfold byE; rw [if_neg h0, if_neg h0]
    rw [e3, e4, ← hb]
    refine ⟨?_, ?_, hs⟩
    · unfold numB byB bigS
      by_cases h0 : rer = 0
      · rw [if_pos h0, hfit h0]
        by_cases hz : byE bs p rer n = 0
        · rw [if_pos hz, if_pos hz, if_pos ⟨h0, hz⟩]; rfl
        · rw [if_neg hz, if_neg (fun hh => hz hh.2)]; rfl
      · rw [if_neg h0, if_neg (fun hh => h0 hh.1)]; rfl
    · unfold numL byB littleS
      by_cases h0 : rer = 0
      · rw [if_pos h0, hfit h0]
        by_cases hz : byE bs p rer n = 0
        · rw [if_pos hz, if_pos hz, if_pos ⟨h0, hz⟩]; rfl
        · rw [if_neg hz, if_neg (fun hh => hz hh.2)]; rfl
      · rw [if_neg h0, if_neg (fun hh => h0 hh.1)]; rfl

/-- What a cursor is asked, in its cells. -/
def AskK (_ : World) (x : Int × Int × Int × Unit) (es : List Value) : Prop := es = [.int .u8 x.1, .int .i64 x.2.1, .int .i64 x.2.2.1] ∧ 0 ≤ x.1 ∧ x.1 ≤ 255

set_option maxRecDepth 100000 in
set_option maxHeartbeats 1600000 in
theorem octetsReads_walk (A : Option Addr) (bs : List UInt8) (n0 c : Nat) (A' : Option Addr) (zs : List (Int × Int × Int × Unit)) (n1 c' : Nat) (w : World) (s0 : SlIn B 1 w A bs n0 c) (s1 : SlM AskK 3 24 w A' zs n1 c') :
    Calls Try.prog 5 #[.slice A n0 c, .slice A' n1 c'] w fun e w' => e = .returned (.bool true) ∧ Fr No w w' := by
  obtain ⟨hn0, hr, hlc, hl⟩ := s0
  have hb0 : bs.length ≤ 140737488351232 := by omega
  obtain ⟨hn1, hlc', hl', hr'⟩ := s1
  have hz0 : zs.length ≤ 140737488351232 := by omega
  subst hn1
  have HR := hid (And.intro hn0 (And.intro hr hr'))
  clear hr hr' hn0
  go_enter Try.func5, Try.ntmps5
  go_wp2_with fail
  refine (fixed2_calls _).mono ?_
  rintro e w1 ⟨rfl, hf⟩
  have F1 := hid hf
  clear hf
  go_wp2_with (at_builtin; refine wpList_app slU8 rfl (.tmp 13) (.tmp 14) rfl rfl (Row.new w1 1 0 [] _ rfl (by omega)) rfl (by rw [List.length_map, HR.out.1, Nat.mul_one]) ((Rd.cells.1 (HR.out.2.1.fr0 F1.out)).fr (S := No) ((Fr.refl _ _).alloc _) (fun _ _ h => h)) (oneB bs) (by omega) (by omega) ?_; intro A2 c2 w2 ob2 hv2 hf2 hob2; simp only [Nat.zero_add, List.nil_append] at hv2 ⊢)
  simp only [World.size_alloc] at hob2
  have hob2' : ∀ q, ob2 = some q → w.heap.size ≤ q := some_le (hob2.imp (fun h => h) (fun ⟨k, a, b⟩ => ⟨k, a, by have := F1.out.size; omega⟩)) F1.out.size
  have hF2 : Fr No w w2 := (F1.out.alloc _).fresh hf2 (fun q e => by injection e with e; have := F1.out.size; omega)
  have H2 := hid (And.intro hv2 (And.intro hob2' hF2))
  clear hv2 hob2 hob2' hf2 hF2 F1
  go_wp2_with fail
  refine (new_calls _ _ _ _ HR.out.1 _ H2.out.1.rd.1 (by omega)).mono ?_
  rintro e w3 ⟨g, rfl, hc, hf⟩
  obtain ⟨L, U, hL, hU, hL2, hc3⟩ : ∃ L U, w.heap.size ≤ L ∧ U ≤ w3.heap.size ∧ w2.heap.size ≤ L ∧ Cur L U w3 g bs 0 0 := ⟨_, _, H2.out.2.2.size, Nat.le_refl _, Nat.le_refl _, hc⟩
  have H3 := hid (And.intro (H2.out.1.fr hf (fun _ _ h => h)) (And.intro hc3 (And.intro (H2.out.2.2.then hf) (fun q (hq : ob2 = some q) => show w.heap.size ≤ q ∧ q < L from ⟨H2.out.2.1 q hq, Nat.lt_of_lt_of_le (H2.out.1.lt hq) hL2⟩))))
  clear hc hc3 hf H2 hL2
  go_wp2_with (at_builtin; refine wpList_app slU8 rfl (.tmp 18) (.tmp 19) rfl rfl (Row.new w3 1 0 [] _ rfl (by omega)) rfl (by rw [List.length_map, HR.out.1, Nat.mul_one]) ((Rd.cells.1 (HR.out.2.1.fr0 H3.out.2.2.1)).fr (S := No) ((Fr.refl _ _).alloc _) (fun _ _ h => h)) (oneB bs) (by omega) (by omega) ?_; intro A4 c4 w4 ob4 hv4 hf4 hob4; simp only [Nat.zero_add, List.nil_append] at hv4 ⊢)
  simp only [World.size_alloc] at hob4
  have hs43 : w3.heap.size + 1 ≤ w4.heap.size := by have := hf4.size; simpa using this
  have hF4 : Fr No w3 w4 := ((Fr.refl _ _).alloc _).fresh hf4 (fun q e => by injection e with e; omega)
  obtain ⟨W5, hW5⟩ : ∃ W5, W5 = w4.alloc (.cells #[.slice A4 n0 c4, .int .i64 0] 40) := ⟨_, rfl⟩
  have hF5 : Fr No w3 W5 := by rw [hW5]; exact hF4.alloc _
  have hrc : RCur w3.heap.size (w4.heap.size + 1) W5 w4.heap.size bs 0 := by
    obtain ⟨r1, r2, r3, _⟩ := hv4.rd
    refine ⟨⟨A4, n0, c4, HR.out.1, by rw [hW5]; exact heap_new _ _, by rw [hW5]; exact r1.alloc _, fun ad e => ?_, r2⟩, by omega, by omega, by omega⟩
    have h1 := hv4.lt (r3 ad e)
    have h2 : w3.heap.size ≤ ad.block := some_le (m := w3.heap.size) (hob4.imp (fun h => h) (fun ⟨k, a, b⟩ => ⟨k, a, by omega⟩)) (Nat.le_refl _) _ (r3 ad e)
    omega
  have hsz5 : w4.heap.size + 1 ≤ W5.heap.size := by rw [hW5]; simp
  rw [← hW5]
  obtain ⟨g', hg'⟩ : ∃ g', g' = w4.heap.size := ⟨_, rfl⟩
  obtain ⟨L', hL'⟩ : ∃ L', L' = w3.heap.size := ⟨_, rfl⟩
  rw [← hg'] at hrc hsz5 ⊢
  rw [← hL'] at hrc
  have hUL : U ≤ L' := by omega
  have H5 := hid (And.intro (H3.out.1.fr hF5 (fun _ _ h => h)) (And.intro (H3.out.2.1.fr hF5 (fun _ _ _ h => h)) (And.intro hrc (And.intro (H3.out.2.2.1.then hF5) (And.intro H3.out.2.2.2 hsz5)))))
  clear hW5 hF5 hrc hsz5 hg' hL' hU H3 hv4 hf4 hob4 hs43 hF4
  go_loopw [8, 25] (fun _ i wr => ∃ (k : Nat) (ys : List UInt8), k ≤ n0 ∧ i = .int .i64 k ∧ ys.length = n0 ∧ Row wr 1 (.slice A2 n0 c2) ob2 n0 (ys.map B) ∧ Cur L U wr g bs 0 0 ∧ RCur L' (g' + 1) wr g' bs 0 ∧ Fr No w wr)
    (fun _ i _ => n0 - (intOf i).toNat)
  case atStart => exact ⟨0, bs, by omega, rfl, HR.out.1, H5.out.1, H5.out.2.1, H5.out.2.2.1, H5.out.2.2.2.1⟩
  case round =>
    obtain ⟨k, ys, hk, rfl, hyl, h1, h2, h3, h4⟩ := hrel
    have OB := hid H5.out.2.2.2.2.1
    have HREL := hid (And.intro h1 (And.intro h2 (And.intro h3 h4)))
    clear h1 h2 h3 h4 H5
    by_cases hlt : k < n0
    · obtain ⟨o, go, old, e1, e2, hc, hf, hr⟩ := HREL.out.1.set k hlt (.int .u8 ((((rdB ys k).toNat : Int) + 1) % 256))
      subst e1
      obtain ⟨ad, e3, hc2⟩ := HREL.out.1.rd.1.atN k (by omega)
      injection e3 with e3
      subst e3
      simp only [add_lit] at hc2
      have hob := OB.out _ e2
      have hgL := HREL.out.2.1.gl
      have hgU := HREL.out.2.1.gu
      clear hc
      have hbz := B_lt (rdB ys k)
      have HS := hid hr
      have HO := hid e2
      have HY := hid hyl
      clear hr e2 hyl
      go_wp2
      go_roundw
      case rel =>
        refine ⟨k + 1, ys.set k (HK.byteOf (((rdB ys k).toNat : Int) + 1)), by omega, by go_num, by rw [List.length_set]; exact HY.out, ?_, ?_, ?_, ?_⟩
        · rw [← map_set_B]; exact HS.out
        · exact HREL.out.2.1.fr (Fr.set1 _ _ _ _) (fun q h1 h2 (e : q = o) => by omega)
        · exact HREL.out.2.2.1.fr (Fr.set1 _ _ _ _) (fun q h1 h2 (e : q = o) => by omega)
        · exact HREL.out.2.2.2.trans (Fr.set1 _ _ _ _) (fun q h1 (e : q = o) => by omega)
      case measure => simp [intOf] <;> omega
    · have hkn : n0 ≤ k := by omega
      have H6 := hid HREL.out.2
      clear HREL OB hyl
      obtain ⟨W7, hW7⟩ : ∃ W7 : World, W7 = wr := ⟨_, rfl⟩
      have HW7 := hid hW7
      clear hW7
      go_wp2_with fail
      go_loopw [37] (fun i wr => ∃ (k p : Nat) (er : Int) (rb : List UInt8) (rer : Int), k ≤ zs.length ∧ i = .int .i64 k ∧ Cur L U wr g bs p er ∧ RCur L' (g' + 1) wr g' rb rer ∧ Sim bs p er rb rer ∧ Fr No w wr)
        (fun i _ => zs.length - (intOf i).toNat)
      case atStart => exact ⟨0, 0, 0, bs, 0, by omega, rfl, H6.out.1, H6.out.2.1, ⟨rfl, fun _ => rfl, fun h => absurd rfl h, by omega⟩, H6.out.2.2⟩
      case round =>
        obtain ⟨k, p, er, rb, rer, hk, rfl, h1, h2, h3, h4⟩ := hrel
        have HREL := hid (And.intro h1 (And.intro h2 (And.intro h3 h4)))
        clear h1 h2 h3 h4 H6
        by_cases hlt : k < zs.length
        · obtain ⟨ad, es, hA', _, hcells, hes, hk0, hk1⟩ := HR.out.2.2 k hlt
          subst hA'
          obtain ⟨x, hx⟩ : ∃ x, x = zs[k] := ⟨_, rfl⟩
          rw [← hx] at hes hk0 hk1
          obtain ⟨ki, n, e, _⟩ := x
          simp only at hes hk0 hk1
          subst hes
          clear hx
          have q0 := hcells 0 (by omega)
          have q1 := hcells 1 (by omega)
          have q2 := hcells 2 (by omega)
          simp only [Nat.add_zero, List.getElem?_cons_zero, List.getElem?_cons_succ] at q0 q1 q2
          have hwc : ∀ (a : Addr) (v : Value), w.cell? a = some v → wr.cell? a = some v := fun a v h => (HREL.out.2.2.2.cell (lt_of_cell h) (fun h => h)).trans h
          replace q0 := hwc _ _ q0
          replace q1 := cellAt (j := 0) (hwc _ _ q1)
          replace q2 := cellAt (j := 1) (hwc _ _ q2)
          simp only [Nat.zero_add, Nat.reduceAdd] at q1 q2
          clear hwc hcells
          go_upto_block 4 with (fail)
          have hgw := HREL.out.1.lt
          have hgw' := HREL.out.2.1.lt
          have hgU := HREL.out.1.gu
          have hgL := HREL.out.1.gl
          have hgL' := HREL.out.2.1.gl
          obtain ⟨W, hW⟩ : ∃ W, W = wr.alloc (.cells #[.int .u8 ki, .int .i64 n, .int .i64 e] 42) := ⟨_, rfl⟩
          have hFW : Fr No wr W := by rw [hW]; exact (Fr.refl _ _).alloc _
          have hbW : W.heap[wr.heap.size]? = some (.cells #[.int .u8 ki, .int .i64 n, .int .i64 e] 42 (0, 0)) := by rw [hW]; exact heap_new _ _
          rw [← hW]
          obtain ⟨ga, hga⟩ : ∃ ga, ga = wr.heap.size := ⟨_, rfl⟩
          rw [← hga] at hbW hgw hgw' ⊢
          have c0 : W.cell? ⟨ga, 0, none⟩ = some (.int .u8 ki) := by simp [World.cell?, hbW]
          have c1 : W.cell? ⟨ga, 1, none⟩ = some (.int .i64 n) := by simp [World.cell?, hbW]
          have c2 : W.cell? ⟨ga, 2, none⟩ = some (.int .i64 e) := by simp [World.cell?, hbW]
          have hgaW : ga < W.heap.size := (Array.getElem?_eq_some_iff.1 hbW).1
          have HRW := hid (And.intro (HREL.out.1.fr hFW (fun _ _ _ h => h)) (And.intro (HREL.out.2.1.fr hFW (fun _ _ _ h => h)) (And.intro HREL.out.2.2.1 (HREL.out.2.2.2.then hFW))))
          clear hW hFW hbW hga q0 q1 q2 HREL
          go_cut [52] (fun _ wc => ∃ (p : Nat) (er : Int) (rb : List UInt8) (rer : Int), Cur L U wc g bs p er ∧ RCur L' (g' + 1) wc g' rb rer ∧ Sim bs p er rb rer ∧ Fr No w wc)
          case first =>
            have h4 : ki % 4 = 0 ∨ ki % 4 = 1 ∨ ki % 4 = 2 ∨ ki % 4 = 3 := by omega
            rcases h4 with h4 | h4 | h4 | h4
            · have k0 : (ki % 4 == 0) = true := by simpa using h4
              clear h4
              have hm := HRW.out.2.2.1.num n
              have hne : (numB bs p er n != ((be (ryR (rbB rb rer n) (rbE rer n) n) : Nat) : Int)) = false := by rw [hm.1]; simp
              have M3 := hid hm.2.2
              clear hm
              go_wp2_with fail
              go_region_held3 (fun w' => w'.cell? ⟨ga, 1, none⟩ = some (.int .i64 n))
                (first | go_keep | (rw [hf1.cellg ga 1 (by simp; omega) (fun e => by have : ga = g := e; omega)]; go_keep) | (rw [hf2.cellg ga 1 (by have := hf1.size; simp at this; omega) (fun e => by have : ga = g' := e; omega)]; go_keep))
                (first
                  | (go_at_call 25; refine (cbig_calls _ _ _ _ _ _ (HRW.out.1.fr (S := No) (Fr.refl _ _).drew (fun _ _ _ h => h))).mono ?_; rintro e w1 ⟨rfl, hc1, hf1⟩)
                  | (go_at_call 26; refine (rbig_calls _ _ _ _ _ ((HRW.out.2.1.fr (S := No) (Fr.refl _ _).drew (fun _ _ _ h => h)).fr hf1 (fun q h1 h2 (e : q = g) => by omega))).mono ?_; rintro e w2 ⟨rfl, hc2, hf2⟩))
              have HE := hid (And.intro (hc1.fr hf2 (fun q h1 h2 (e : q = g') => by omega)) (And.intro hc2 (And.intro M3.out (((HRW.out.2.2.2.drew).trans hf1 (fun q h1 (e : q = g) => by omega)).trans hf2 (fun q h1 (e : q = g') => by omega)))))
              clear hc1 hc2 hf1 hf2 M3 HRW
              go_wp2
              go_meet
              case rel => exact ⟨_, _, _, _, HE.out⟩
            · have k0 : (ki % 4 == 0) = false := by simp; omega
              have k1 : (ki % 4 == 1) = true := by simpa using h4
              clear h4
              have hm := HRW.out.2.2.1.num n
              have hne : (numL bs p er n != ((le (ryR (rbB rb rer n) (rbE rer n) n) : Nat) : Int)) = false := by rw [hm.2.1]; simp
              have M3 := hid hm.2.2
              clear hm
              go_wp2_with fail
              go_region_held3 (fun w' => w'.cell? ⟨ga, 1, none⟩ = some (.int .i64 n))
                (first | go_keep | (rw [hf1.cellg ga 1 (by simp; omega) (fun e => by have : ga = g := e; omega)]; go_keep) | (rw [hf2.cellg ga 1 (by have := hf1.size; simp at this; omega) (fun e => by have : ga = g' := e; omega)]; go_keep))
                (first
                  | (go_at_call 27; refine (clittle_calls _ _ _ _ _ _ (HRW.out.1.fr (S := No) (Fr.refl _ _).drew (fun _ _ _ h => h))).mono ?_; rintro e w1 ⟨rfl, hc1, hf1⟩)
                  | (go_at_call 28; refine (rlittle_calls _ _ _ _ _ ((HRW.out.2.1.fr (S := No) (Fr.refl _ _).drew (fun _ _ _ h => h)).fr hf1 (fun q h1 h2 (e : q = g) => by omega))).mono ?_; rintro e w2 ⟨rfl, hc2, hf2⟩))
              have HE := hid (And.intro (hc1.fr hf2 (fun q h1 h2 (e : q = g') => by omega)) (And.intro hc2 (And.intro M3.out (((HRW.out.2.2.2.drew).trans hf1 (fun q h1 (e : q = g) => by omega)).trans hf2 (fun q h1 (e : q = g') => by omega)))))
              clear hc1 hc2 hf1 hf2 M3 HRW
              go_wp2
              go_meet
              case rel => exact ⟨_, _, _, _, HE.out⟩
            · have k0 : (ki % 4 == 0) = false := by simp; omega
              have k1 : (ki % 4 == 1) = false := by simp; omega
              have k2 : (ki % 4 == 2) = true := by simpa using h4
              clear h4
              have hm := HRW.out.2.2.1.bytes n
              have hb : decide (byB bs p er n = ryR rb rer n) = true := by rw [hm.1]; simp
              have M3 := hid hm.2
              clear hm
              go_wp2_with fail
              go_region_held3 (fun w' => w'.cell? ⟨ga, 1, none⟩ = some (.int .i64 n))
                (first | go_keep | (rw [hf1.cellg ga 1 (by simp; omega) (fun e => by have : ga = g := e; omega)]; go_keep) | (rw [hf2.cellg ga 1 (by have := hf1.size; simp at this; omega) (fun e => by have : ga = g' := e; omega)]; go_keep))
                (first
                  | (go_at_call 30; refine (cbytes_calls _ _ _ _ _ _ (HRW.out.1.fr (S := No) (Fr.refl _ _).drew (fun _ _ _ h => h))).mono ?_; rintro e w1 ⟨v1, rfl, hn1, hc1, hf1⟩; obtain ⟨B1, m1, d1, rfl, N1⟩ := hn1.use; clear hn1)
                  | (go_at_call 31; refine (rbytes_calls _ _ _ _ _ ((HRW.out.2.1.fr (S := No) (Fr.refl _ _).drew (fun _ _ _ h => h)).fr hf1 (fun q h1 h2 (e : q = g) => by omega))).mono ?_; rintro e w2 ⟨v2, rfl, hn2, hc2, hf2⟩; obtain ⟨B2, m2, d2, rfl, N2⟩ := hn2.use; clear hn2)
                  | (go_at_call 29; refine (same_calls _ _ _ _ _ _ _ _ N1.out.1 N2.out.1 _ (N1.out.2.1.fr hf2 (fun ad e (e2 : ad.block = g') => by have := farOf N1.out.2.2.2 ad e; simp at this; omega)) N2.out.2.1).mono ?_; rintro e w3 ⟨rfl, rfl⟩))
              have HE := hid (And.intro (hc1.fr hf2 (fun q h1 h2 (e : q = g') => by omega)) (And.intro hc2 (And.intro M3.out (((HRW.out.2.2.2.drew).trans hf1 (fun q h1 (e : q = g) => by omega)).trans hf2 (fun q h1 (e : q = g') => by omega)))))
              clear hc1 hc2 hf1 hf2 M3 HRW
              go_wp2
              go_meet
              case rel => exact ⟨_, _, _, _, HE.out⟩
            · have k0 : (ki % 4 == 0) = false := by simp; omega
              have k1 : (ki % 4 == 1) = false := by simp; omega
              have k2 : (ki % 4 == 2) = false := by simp; omega
              clear h4
              have M3 := hid (HRW.out.2.2.1.fail e)
              go_wp2_with (first
                | (go_at_call 32; refine (fail_calls _ _ _ _ _ _ HRW.out.1).mono ?_; rintro e w1 ⟨rfl, hc1, hf1⟩; have c2' := (hf1.cellg ga 2 hgaW (fun e => by have : ga = g := e; omega)).trans c2)
                | (go_at_call 33; refine (rfail_calls _ _ _ _ _ (HRW.out.2.1.fr hf1 (fun q h1 h2 (e : q = g) => by omega))).mono ?_; rintro e w2 ⟨rfl, hc2, hf2⟩))
              have HE := hid (And.intro (hc1.fr hf2 (fun q h1 h2 (e : q = g') => by omega)) (And.intro hc2 (And.intro M3.out ((HRW.out.2.2.2.trans hf1 (fun q h1 (e : q = g) => by omega)).trans hf2 (fun q h1 (e : q = g') => by omega)))))
              clear hc1 hc2 hf1 hf2 M3 HRW
              go_meet
              case rel => exact ⟨_, _, _, _, HE.out⟩
          case rest =>
            obtain ⟨p, er, rb, rer, h1, h2, h3, h4⟩ := hcut
            have hgwc := h1.lt
            have hgwc' := h2.lt
            have HQ := hid (And.intro h1 (And.intro h2 (And.intro h3 h4)))
            obtain ⟨Ar, nr, cr, hnr, qr0, qr1, _⟩ := h2.cells
            have hE : (er != rer) = false := by rw [h3.e]; simp
            have hLf : (leftS bs p er != (nr : Int)) = false := by rw [h3.left, hnr]; simp
            clear h1 h2 h3 h4 HRW hnr
            go_wp2_with fail
            go_quiet ((first
              | (go_at_call 34; exact Calls.quiet_of_same (err_calls _ _ _ _ _ (HQ.out.1.drewN _)))
              | (go_at_call 35; exact Calls.quiet_of (left_calls _ _ _ _ _ (HQ.out.1.drewN _)))))
            go_wp2
            go_roundw
            case rel =>
              refine ⟨k + 1, p, er, rb, rer, by omega, by go_num, HQ.out.1.drewN _, HQ.out.2.1.fr (S := No) ((Fr.refl _ _).drewN _) (fun _ _ _ h => h), HQ.out.2.2.1, HQ.out.2.2.2.drewN _⟩
            case measure => simp [intOf] <;> omega
        · have hkz : zs.length ≤ k := by omega
          go_wp2
          go_ret
          exact ⟨rfl, HREL.out.2.2.2⟩
end Go.Proofs.Ytjmgffiplkkgpaa

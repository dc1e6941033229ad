/- The walk of BitsReads, last part. -/
import Derived.Test.YtjmgffiplkkgpaaBReads
import Derived.Deep.RegionHeld3
namespace Go.Proofs.Ytjmgffiplkkgpaa
open Go.RowKit Go.Proofs.HK
set_option linter.unusedVariables false
set_option linter.unusedSimpArgs false
attribute [local go_sem] max2_int min2_int max_two min_two

/-- The program's reader and the document's, of the same bits. -/
def RX (w0 : Nat) (wr : World) (gr gx : Nat) (obr obx : Option Nat) (VV TT a : Nat) : Prop :=
  RdV wr gr obr (VV / 2 ^ a) (TT - a) ∧ RR wr gx obx VV TT a ∧ (∀ q, obr = some q → w0 ≤ q ∧ q ≠ gx) ∧ (∀ q, obx = some q → w0 ≤ q ∧ q ≠ gr ∧ obr ≠ some q)
theorem RX.fr {w0 : Nat} {wr w' : World} {gr gx : Nat} {obr obx : Option Nat} {VV TT a : Nat} (h : RX w0 wr gr gx obr obx VV TT a) {S : Nat → Prop} (hf : Fr S wr w') (hS : ∀ q, q < wr.heap.size → ¬ S q) : RX w0 w' gr gx obr obx VV TT a := by
  obtain ⟨h1, h2, h3, h4⟩ := h
  exact ⟨h1.fr hf (hS _ h1.lt) (fun q hq => hS _ (h1.olt q hq)), h2.fr hf (hS _ h2.lt) (fun q hq => hS _ (h2.olt q hq)), h3, h4⟩
theorem RX.fr' {w0 : Nat} {wr w' : World} {gr gx : Nat} {obr obx : Option Nat} {VV TT a : Nat} (h : RX w0 wr gr gx obr obx VV TT a) {S : Nat → Prop} (hf : Fr S wr w') (h1' : ¬ S gr) (h2' : ¬ S gx) (h3' : ∀ q, obr = some q → ¬ S q) (h4' : ∀ q, obx = some q → ¬ S q) : RX w0 w' gr gx obr obx VV TT a := by
  obtain ⟨h1, h2, h3, h4⟩ := h
  exact ⟨h1.fr hf h1' h3', h2.fr hf h2' h4', h3, h4⟩

theorem RX.step {w0 : Nat} {wr w6 w7 : World} {gr gx : Nat} {obr obx : Option Nat} {VV TT a a7 : Nat} (h : RX w0 wr gr gx obr obx VV TT a) (hgg : gr ≠ gx) (h1 : RdV w6 gr obr (VV / 2 ^ a7) (TT - a7)) (hf7 : Fr (One gx) w6 w7) (h2 : RR w7 gx obx VV TT a7) : RX w0 w7 gr gx obr obx VV TT a7 :=
  ⟨h1.fr hf7 hgg (fun q hq e => (h.2.2.1 q hq).2 e), h2, h.2.2⟩
theorem feedV (VV TT a L : Nat) (h : a ≤ TT) : VV / 2 ^ a + 2 ^ (TT - a) * L = (VV + 2 ^ TT * L) / 2 ^ a := by
  have e : 2 ^ TT = 2 ^ a * 2 ^ (TT - a) := by rw [← Nat.pow_add, Nat.add_sub_cancel' h]
  rw [e, Nat.mul_assoc, Nat.add_mul_div_left _ _ (Nat.two_pow_pos _)]
set_option maxRecDepth 100000 in
set_option maxHeartbeats 1600000 in
theorem bitsReads_walk (A : Option Addr) (xs : List AskT1) (n1 c : Nat) (w : World) (s0 : SlM Ask1K 3 40 w A xs n1 c) :
    Calls Try.prog 12 #[.slice A n1 c] w fun e w' => e = .returned (.bool true) ∧ Fr No w w' := by
  have hlc := s0.cap
  have hre := s0.reach
  have HR := hid (And.intro s0.len s0)
  clear s0
  go_enter Try.func12, Try.ntmps12
  go_wp2_with (go_at_call 19; refine (fixed1_calls _).mono ?_; rintro e w1 ⟨rfl, hf1⟩; have HF := hid hf1; clear hf1)
  have HRl := hid (show SlM Ask1K 3 40 w1 A xs n1 c from ⟨HR.out.2.len, HR.out.2.cap, HR.out.2.reach, fun i hi => by
    obtain ⟨ad, es, h1, h2, h3, A', n', c', h4, h5, h6⟩ := HR.out.2.at_ i hi
    refine ⟨ad, es, h1, h2, fun j hj => ?_, A', n', c', h4, ⟨h5.len, h5.rd.fr0 HF.out, h5.cap, h5.reach⟩, h6⟩
    have hjl : j < es.length := by omega
    have h7 := h3 j hj
    rw [List.getElem?_eq_getElem hjl] at h7
    rw [List.getElem?_eq_getElem hjl]
    exact (HF.out.cell (lt_of_cell h7) (fun h => h)).trans h7⟩)
  refine (few_calls _ _ _ _ _ HRl.out).mono ?_
  rintro e w2 ⟨b, rfl, hb, hf2⟩
  have HB := hid (And.intro hb (HF.out.then hf2))
  clear hb hf2 HF HRl
  cases b with
  | false =>
    go_wp2_with fail
    go_ret
    exact ⟨rfl, HB.out.2⟩
  | true =>
    have hsum := hid (HB.out.1 rfl)
    go_wp2_with fail
    refine (bnew_calls _).mono ?_
    rintro e w3 ⟨gr, rfl, hgr, hr, hf⟩
    have hs2 := HB.out.2.size
    have HA := hid (And.intro hr (HB.out.2.then hf))
    have hgr3 := hr.lt
    clear hr hf HB
    go_wp2_with fail
    obtain ⟨W4, hW4⟩ : ∃ W4, W4 = w3.alloc (.cells #[.slice none 0 0, .int .i64 0] 69) := ⟨_, rfl⟩
    have hf4 : Fr No w3 W4 := by rw [hW4]; exact (Fr.refl _ _).alloc _
    have hrr : RR W4 w3.heap.size none 0 0 0 := by
      rw [hW4]
      exact ⟨none, 0, heap_new _ _, Row.nil _ _, by decide, by omega, by decide, by simp, by omega⟩
    rw [← hW4]
    obtain ⟨gx, hgx⟩ : ∃ gx, gx = w3.heap.size := ⟨_, rfl⟩
    rw [← hgx] at hrr ⊢
    have hgrx : gr < gx := by omega
    have hgxw : w.heap.size ≤ gx := by have := HA.out.2.size; omega
    have HX := hid (show RX w.heap.size W4 gr gx none none 0 0 0 from ⟨HA.out.1.fr hf4 (fun h => h) (fun _ _ h => h), hrr, fun _ h => (by cases h), fun _ h => (by cases h)⟩)
    have HF4 := hid (HA.out.2.then hf4)
    clear hW4 hf4 hrr hgx HA
    go_loopw [23] (fun i wr => ∃ (k : Nat) (obr obx : Option Nat) (VV TT a : Nat), k ≤ n1 ∧ i = .int .i64 k ∧ RX w.heap.size wr gr gx obr obx VV TT a ∧ TT ≤ 8 * fsum (xs.take k) ∧ Fr No w wr) (fun i _ => n1 - (intOf i).toNat)
    case atStart => exact ⟨0, none, none, 0, 0, 0, by omega, rfl, HX.out, by omega, HF4.out⟩
    case round =>
      obtain ⟨k, obr, obx, VV, TT, a, hk, rfl, h1, h2, h3⟩ := hrel
      have HREL := hid (And.intro h1 (And.intro h2 h3))
      clear h1 h2 h3 HX HF4
      by_cases hlt : k < n1
      · obtain ⟨ad, ki, m, ys, A', n', c', rfl, hx, k0, k1, hs, q0, q1, q2⟩ := Ask1K.at HR.out.2 HREL.out.2.2 k (by rw [HR.out.1]; exact hlt)
        have hsn := fsum_snoc xs k (by rw [HR.out.1]; exact hlt)
        have hle1 := fsum_le xs (k + 1)
        rw [hx] at hsn
        have hnl := hs.len
        have hTT : TT + 8 * n' ≤ 8 * fsum (xs.take (k + 1)) := by have := HREL.out.2.1; simp only at hsn; omega
        have hTT6 : TT + 8 * n' ≤ 48000 := by have := hsum.out; omega
        have hTTs : TT ≤ 8 * fsum (xs.take (k + 1)) := by omega
        have HT := hid (And.intro hTT hTTs)
        have HS := hid hs
        have hsz := HREL.out.2.2.size
        have hgrl := HREL.out.1.1.lt
        have hgxl := HREL.out.1.2.1.lt
        clear hx hs hsn hle1 hTT hTTs hnl
        have h5 : ki % 5 = 0 ∨ ki % 5 = 1 ∨ ki % 5 = 2 ∨ ki % 5 = 3 ∨ ki % 5 = 4 := by omega
        rcases h5 with h5 | h5 | h5 | h5 | h5
        · have t0 : (ki % 5 == 0) = true := by simpa using h5
          clear h5
          go_wp2_with (at_builtin; refine wpList_app slB1 rfl (.tmp 42) (.tmp 44) rfl (v := .slice (some ⟨wr.heap.size + 1, 0, none⟩) 0 0) rfl (show Row ((wr.alloc _).alloc _) 1 (.slice (some ⟨wr.heap.size + 1, 0, none⟩) 0 0) (some (wr.heap.size + 1)) 0 [] from by have := Row.new (wr.alloc (.cells #[.int .u8 ki, .int .i64 m, .slice A' n' c'] 71)) 1 0 [] 5 rfl (by omega); rw [World.size_alloc] at this; exact this) rfl (show (ys.map B).length = n' * 1 by rw [List.length_map, HS.out.len]; omega) (((Rd.cells.1 (HS.out.rd.fr0 HREL.out.2.2)).fr (S := No) ((Fr.refl _ _).alloc _) (fun _ _ h => h)).fr (S := No) ((Fr.refl _ _).alloc _) (fun _ _ h => h)) (oneB _) (by omega) (by omega) ?_; intro A2 c2 w5 ob5 hv5 hf5 hob5; simp only [Nat.zero_add, List.nil_append] at hv5 ⊢)
          simp only [World.size_alloc] at hob5
          have hfW : Fr No wr w5 := (((Fr.refl No wr).alloc _).alloc _).fresh hf5 (fun k e => by injection e with e; omega)
          have hs5 : wr.heap.size + 2 ≤ w5.heap.size := by have := hf5.size; simpa using this
          have hob5' : ∀ q, ob5 = some q → wr.heap.size < q ∧ q < w5.heap.size := fun q hq => ⟨by
            rcases hob5 with e | ⟨k', e, h⟩
            · rw [e] at hq; injection hq with hq; omega
            · rw [e] at hq; injection hq with hq; omega, hv5.lt hq⟩
          have c2' : w5.cell? ⟨wr.heap.size, 2, none⟩ = some (.slice A' n' c') := (hf5.cellg _ 2 (by simp only [World.size_alloc]; omega) (fun e => by injection e with e; omega)).trans ((((Fr.refl No _).alloc _).cellg _ 2 (by simp) (fun h => h)).trans (cell_new _ _ _ 2 _ rfl))
          have H5 := hid (And.intro hv5 (And.intro hob5' (And.intro hfW hs5)))
          have hTb : TT - a + 8 * n' ≤ 1125899906842000 := by omega
          clear hf5 hob5 hv5 hob5' hfW
          refine (feed_calls _ _ _ _ _ (HREL.out.1.1.fr H5.out.2.2.1 (fun h => h) (fun _ _ h => h)) _ ys _ _ HS.out.len H5.out.1.rd.1 hTb).mono ?_
          obtain ⟨haT, hTm6⟩ : a ≤ TT ∧ TT ≤ 1000000 := by obtain ⟨_, _, _, _, _, _, h1, h2, _⟩ := HREL.out.1.2.1.cells; exact ⟨h1, h2⟩
          rw [feedV VV TT a (le ys) haT, show TT - a + 8 * n' = TT + 8 * n' - a by omega]
          rintro e w6 ⟨rfl, obr6, hr6, hobr6, hf6⟩
          have holr := HREL.out.1.1.olt
          have holx := HREL.out.1.2.1.olt
          have hs6 := hf6.size
          have c2'' : w6.cell? ⟨wr.heap.size, 2, none⟩ = some (.slice A' n' c') := (hf6.cellg _ 2 (by omega) (fun e => by rcases e with e | e <;> first | omega | (have := holr _ e.symm; omega))).trans c2'
          have hx6 := (HREL.out.1.2.1.fr H5.out.2.2.1 (fun h => h) (fun _ _ h => h)).fr hf6 (fun e => by rcases e with e | e <;> first | omega | exact (HREL.out.1.2.2.1 _ e.symm).2 rfl) (fun q hq e => by rcases e with e | e <;> first | exact (HREL.out.1.2.2.2 q hq).2.1 e | exact (HREL.out.1.2.2.2 q hq).2.2 e.symm)
          have hrow6 := H5.out.1.fr hf6 (fun q hq e => by have := H5.out.2.1 q hq; rcases e with e | e <;> first | omega | (have := holr _ e.symm; omega))
          have hf06 : Fr No w w6 := (HREL.out.2.2.then H5.out.2.2.1).trans hf6 (fun q hq e => by rcases e with e | e <;> first | omega | (have := (HREL.out.1.2.2.1 _ e.symm).1; omega))
          have hbr6 : ∀ q, obr6 = some q → (obr = some q ∧ q < wr.heap.size) ∨ w5.heap.size ≤ q := fun q hq => by
            rcases hobr6 with e | ⟨k', e, h⟩
            · exact .inl ⟨by rw [← e, hq], holr q (by rw [← e, hq])⟩
            · rw [e] at hq; injection hq with hq; exact .inr (by omega)
          have H6 := hid (And.intro hr6 (And.intro hx6 (And.intro hrow6 (And.intro hf06 hbr6))))
          have HOX := hid (And.intro holr holx)
          clear hr6 hx6 hrow6 hf06 hbr6 hobr6 hf6 c2' holr holx
          go_wp2_with fail
          refine (rrfeed_calls _ _ _ _ _ _ H6.out.2.1 _ ys _ _ HS.out.len (HS.out.rd.fr0 H6.out.2.2.2.1) (by omega)).mono ?_
          rintro e w7 ⟨rfl, obx7, hx7, hobx7, hf7⟩
          have hbx7 : ∀ q, obx7 = some q → (obx = some q ∧ q < wr.heap.size) ∨ w6.heap.size ≤ q := fun q hq => by
            rcases hobx7 with e | ⟨k', e, h⟩
            · exact .inl ⟨by rw [← e, hq], HOX.out.2 q (by rw [← e, hq])⟩
            · rw [e] at hq; injection hq with hq; exact .inr (by omega)
          have holr6 := H6.out.1.olt
          have hr7 := H6.out.1.fr hf7 (fun e => by rcases e with e | e <;> first | omega | exact (HREL.out.1.2.2.2 _ e.symm).2.1 rfl) (fun q hq e => by
            have h1 := H6.out.2.2.2.2 q hq
            rcases e with e | e
            · rcases h1 with ⟨h1, _⟩ | h1
              · exact (HREL.out.1.2.2.1 q h1).2 e
              · omega
            · rcases h1 with ⟨h1, _⟩ | h1
              · exact (HREL.out.1.2.2.2 q e.symm).2.2 h1
              · have := HOX.out.2 q e.symm; omega)
          have hrow7 := H6.out.2.2.1.fr hf7 (fun q hq e => by have := H5.out.2.1 q hq; rcases e with e | e <;> first | omega | (have := HOX.out.2 _ e.symm; omega))
          have hf07 : Fr No w w7 := H6.out.2.2.2.1.trans hf7 (fun q hq e => by rcases e with e | e <;> first | omega | (have := (HREL.out.1.2.2.2 _ e.symm).1; omega))
          have hRX : RX w.heap.size w7 gr gx obr6 obx7 (VV + 2 ^ TT * le ys) (TT + 8 * n') a := ⟨hr7, hx7, fun q hq => by
              rcases H6.out.2.2.2.2 q hq with ⟨h1, _⟩ | h1
              · exact HREL.out.1.2.2.1 q h1
              · exact ⟨by omega, by omega⟩, fun q hq => by
              rcases hbx7 q hq with ⟨h1, h2⟩ | h1
              · refine ⟨(HREL.out.1.2.2.2 q h1).1, (HREL.out.1.2.2.2 q h1).2.1, fun e => ?_⟩
                rcases H6.out.2.2.2.2 q e with ⟨h3, _⟩ | h3
                · exact (HREL.out.1.2.2.2 q h1).2.2 h3
                · omega
              · refine ⟨by omega, by omega, fun e => ?_⟩
                have := holr6 q e
                omega⟩
          have hown : ∀ q, ob5 = some q → w.heap.size ≤ q ∧ q ≠ gr ∧ q ≠ gx ∧ obr6 ≠ some q ∧ obx7 ≠ some q := fun q hq => by
            have h1 := H5.out.2.1 q hq
            refine ⟨by omega, by omega, by omega, fun e => ?_, fun e => ?_⟩
            · rcases H6.out.2.2.2.2 q e with ⟨_, h3⟩ | h3 <;> omega
            · rcases hbx7 q e with ⟨_, h3⟩ | h3 <;> omega
          have H7 := hid (And.intro hRX (And.intro hf07 hrow7))
          have HOWN := hid hown
          have hs8 := hf7.size
          clear hr7 hx7 hrow7 hf07 hRX hown hbx7 hobx7 hf7 holr6 H6 HOX H5 c2''
          go_wp2_with fail
          go_loopw [8, 55] (fun _ i w8 => ∃ (j : Nat) (zs : List UInt8), j ≤ n' ∧ i = .int .i64 j ∧ zs.length = n' ∧ RX w.heap.size w8 gr gx obr6 obx7 (VV + 2 ^ TT * le ys) (TT + 8 * n') a ∧ Fr No w w8 ∧ Row w8 1 (.slice A2 n' c2) ob5 n' (zs.map B)) (fun _ i _ => n' - (intOf i).toNat)
          case atStart => exact ⟨0, ys, by omega, rfl, HS.out.len, H7.out⟩
          case round =>
            obtain ⟨j, zs, hj, rfl, hzl, h1, h2, h3⟩ := hrel
            have HR8 := hid (And.intro h1 (And.intro h2 h3))
            clear h1 h2 h3 H7
            by_cases hlt8 : j < n'
            · obtain ⟨o, go, old, e1, e2, hc, hf, hr⟩ := HR8.out.2.2.set j hlt8 (.int .u8 ((((rdB zs j).toNat : Int) + 1) % 256))
              subst e1
              obtain ⟨ad, e3, hc2⟩ := HR8.out.2.2.rd.1.atN j (by omega)
              injection e3 with e3
              subst e3
              simp only [add_lit] at hc2
              have hq := HOWN.out _ e2
              clear hc
              have hbz := B_lt (rdB zs j)
              have HS2 := hid hr
              have HY := hid hzl
              have HQ2 := hid hq
              clear hr e2 hzl hq
              go_wp2
              go_roundw
              case rel =>
                refine ⟨j + 1, zs.set j (HK.byteOf (((rdB zs j).toNat : Int) + 1)), by omega, by go_num, by rw [List.length_set]; exact HY.out, HR8.out.1.fr' (Fr.set1 _ _ _ _) (fun (e : gr = o) => HQ2.out.2.1 e.symm) (fun (e : gx = o) => HQ2.out.2.2.1 e.symm) (fun q hq (e : q = o) => HQ2.out.2.2.2.1 (by rw [hq, e])) (fun q hq (e : q = o) => HQ2.out.2.2.2.2 (by rw [hq, e])), HR8.out.2.1.trans (Fr.set1 _ _ _ _) (fun q h1 (e : q = o) => by have := HQ2.out.1; omega), ?_⟩
                rw [← map_set_B]; exact HS2.out
              case measure => simp [intOf] <;> omega
            · have hge3 : n' ≤ j := by omega
              clear hlt8 hzl
              have HE := hid (And.intro HR8.out.1 (And.intro HT.out.1 HR8.out.2.1))
              clear HR8
              go_wp2_with fail
              refine (have_calls _ _ _ _ _ HE.out.1.1).mono ?_
              rintro e w8 ⟨rfl, k8, rfl⟩
              go_wp2_with fail
              refine (rrhave_calls _ _ _ _ _ _ (HE.out.1.2.1.fr (S := No) ((Fr.refl _ _).drewN k8) (fun h => h) (fun _ _ h => h))).mono ?_
              rintro e w9 ⟨rfl, k9, rfl⟩
              go_wp2_with fail
              go_roundw
              case rel => exact ⟨k + 1, _, _, _, _, _, by omega, by go_num, HE.out.1.fr (S := No) ((Fr.refl _ _).drewN _) (fun _ _ h => h), HE.out.2.1, HE.out.2.2.drewN _⟩
              case measure => simp [intOf] <;> omega
        · have t0 : (ki % 5 == 0) = false := by simp; omega
          have t1 : (ki % 5 == 1) = true := by simpa using h5
          clear h5
          have hTT6' : a ≤ TT := by obtain ⟨_, _, _, _, _, _, h1, _⟩ := HREL.out.1.2.1.cells; exact h1
          by_cases hok : takeOk (TT - a) m
          · obtain ⟨m, rfl⟩ := Int.eq_ofNat_of_zero_le hok.1
            have hm32 : m ≤ 32 := by have := hok.2.1; omega
            have hmT : m ≤ TT - a := by have := hok.2.2; omega
            clear hok
            go_wp2_with fail
            refine (take_calls _ _ _ _ _ (HREL.out.1.1.fr (S := No) ((Fr.refl _ _).alloc _) (fun h => h) (fun _ _ h => h)) m hm32 hmT).mono ?_
            rw [div_pow_add, show TT - a - m = TT - (a + m) by omega]
            rintro e w6 ⟨rfl, hr6, hf6⟩
            have c1' : w6.cell? ⟨wr.heap.size, 1, none⟩ = some (.int .i64 (m : Int)) := (hf6.cellg _ 1 (by simp) (fun (e : wr.heap.size = gr) => by omega)).trans (cell_new _ _ _ 1 _ rfl)
            have hx6 := (HREL.out.1.2.1.fr (S := No) ((Fr.refl _ _).alloc _) (fun h => h) (fun _ _ h => h)).fr hf6 (fun (e : gx = gr) => by omega) (fun q hq e => (HREL.out.1.2.2.2 q hq).2.1 e)
            have H6 := hid (And.intro hr6 (And.intro hx6 ((HREL.out.2.2.alloc _).trans hf6 (fun q hq (e : q = gr) => by omega))))
            clear hr6 hx6 hf6
            go_wp2_with fail
            refine (rrtake_calls _ _ _ _ _ _ H6.out.2.1 m hm32 hmT).mono ?_
            rintro e w7 ⟨rfl, hx7, hf7⟩
            have HE := hid (And.intro (HREL.out.1.step (by omega) H6.out.1 hf7 hx7) (And.intro HT.out.2 (H6.out.2.2.trans hf7 (fun q hq (e : q = gx) => by omega))))
            clear hx7 hf7 H6
            go_wp2_with fail
            refine (have_calls _ _ _ _ _ HE.out.1.1).mono ?_
            rintro e w8 ⟨rfl, k8, rfl⟩
            go_wp2_with fail
            refine (rrhave_calls _ _ _ _ _ _ (HE.out.1.2.1.fr (S := No) ((Fr.refl _ _).drewN k8) (fun h => h) (fun _ _ h => h))).mono ?_
            rintro e w9 ⟨rfl, k9, rfl⟩
            go_wp2_with fail
            go_roundw
            case rel => exact ⟨k + 1, _, _, _, _, _, by omega, by go_num, HE.out.1.fr (S := No) ((Fr.refl _ _).drewN _) (fun _ _ h => h), HE.out.2.1, HE.out.2.2.drewN _⟩
            case measure => simp [intOf] <;> omega
          · have hno := hid hok
            clear hok
            go_wp2_with fail
            refine (take_no _ _ _ _ _ (HREL.out.1.1.fr (S := No) ((Fr.refl _ _).alloc _) (fun h => h) (fun _ _ h => h)) m hno.out).mono ?_
            rintro e w6 ⟨rfl, k6, rfl⟩
            have c1' : ((wr.alloc (.cells #[.int .u8 ki, .int .i64 m, .slice A' n' c'] 71)).drewN k6).cell? ⟨wr.heap.size, 1, none⟩ = some (.int .i64 m) := cell_new _ _ _ 1 _ rfl
            go_wp2_with fail
            refine (rrtake_no _ _ _ _ _ _ (HREL.out.1.2.1.fr (S := No) (((Fr.refl _ _).alloc _).drewN _) (fun h => h) (fun _ _ h => h)) m hno.out).mono ?_
            rintro e w7 ⟨rfl, k7, rfl⟩
            have HE := hid (And.intro (HREL.out.1.fr (S := No) (((Fr.refl _ _).alloc (.cells #[.int .u8 ki, .int .i64 m, .slice A' n' c'] 71)).drewN (k6 + k7)) (fun _ _ h => h)) (And.intro HT.out.2 ((HREL.out.2.2.alloc (.cells #[.int .u8 ki, .int .i64 m, .slice A' n' c'] 71)).drewN (k6 + k7))))
            clear c1'
            go_wp2_with fail
            generalize (wr.alloc (.cells #[.int .u8 ki, .int .i64 m, .slice A' n' c'] 71)).drewN (k6 + k7) = W7 at HE ⊢
            refine (have_calls _ _ _ _ _ HE.out.1.1).mono ?_
            rintro e w8 ⟨rfl, k8, rfl⟩
            go_wp2_with fail
            refine (rrhave_calls _ _ _ _ _ _ (HE.out.1.2.1.fr (S := No) ((Fr.refl _ _).drewN k8) (fun h => h) (fun _ _ h => h))).mono ?_
            rintro e w9 ⟨rfl, k9, rfl⟩
            go_wp2_with fail
            go_roundw
            case rel => exact ⟨k + 1, _, _, _, _, _, by omega, by go_num, HE.out.1.fr (S := No) ((Fr.refl _ _).drewN _) (fun _ _ h => h), HE.out.2.1, HE.out.2.2.drewN _⟩
            case measure => simp [intOf] <;> omega
        · have t0 : (ki % 5 == 0) = false := by simp; omega
          have t1 : (ki % 5 == 1) = false := by simp; omega
          have t2 : (ki % 5 == 2) = true := by simpa using h5
          clear h5
          go_wp2_with fail
          generalize hWe : wr.alloc (.cells #[.int .u8 ki, .int .i64 m, .slice A' n' c'] 71) = W
          have c1' : W.cell? ⟨wr.heap.size, 1, none⟩ = some (.int .i64 m) := by rw [← hWe]; exact cell_new _ _ _ 1 _ rfl
          have hfW : Fr No wr W := by rw [← hWe]; exact (Fr.refl _ _).alloc _
          have HE := hid (And.intro (HREL.out.1.fr hfW (fun _ _ h => h)) (And.intro HT.out.2 (HREL.out.2.2.then hfW)))
          clear hWe hfW q0 q1 q2
          go_quiet ((first
            | (go_at_call 51; exact Calls.quiet_of (look_calls _ _ _ _ _ (HE.out.1.1.fr (S := No) ((Fr.refl _ _).drewN _) (fun h => h) (fun _ _ h => h)) m))
            | (go_at_call 52; exact Calls.quiet_of (rrlook_calls _ _ _ _ _ _ (HE.out.1.2.1.fr (S := No) ((Fr.refl _ _).drewN _) (fun h => h) (fun _ _ h => h)) m))))
          have HE2 := hid (And.intro (HE.out.1.fr (S := No) ((Fr.refl _ _).drewN nq) (fun _ _ h => h)) (And.intro HT.out.2 (HE.out.2.2.drewN nq)))
          clear HE
          generalize W.drewN nq = W7 at HE2 ⊢
          have HE := HE2
          clear HE2
          have hself : (lookS (VV / 2 ^ a) (TT - a) m != lookS (VV / 2 ^ a) (TT - a) m) = false := by simp
          go_wp2_with fail
          refine (have_calls _ _ _ _ _ HE.out.1.1).mono ?_
          rintro e w8 ⟨rfl, k8, rfl⟩
          go_wp2_with fail
          refine (rrhave_calls _ _ _ _ _ _ (HE.out.1.2.1.fr (S := No) ((Fr.refl _ _).drewN k8) (fun h => h) (fun _ _ h => h))).mono ?_
          rintro e w9 ⟨rfl, k9, rfl⟩
          go_wp2_with fail
          go_roundw
          case rel => exact ⟨k + 1, _, _, _, _, _, by omega, by go_num, HE.out.1.fr (S := No) ((Fr.refl _ _).drewN _) (fun _ _ h => h), HE.out.2.1, HE.out.2.2.drewN _⟩
          case measure => simp [intOf] <;> omega
        · have t0 : (ki % 5 == 0) = false := by simp; omega
          have t1 : (ki % 5 == 1) = false := by simp; omega
          have t2 : (ki % 5 == 2) = false := by simp; omega
          have t3 : (ki % 5 == 3) = true := by simpa using h5
          clear h5
          have haT : a ≤ TT := by obtain ⟨_, _, _, _, _, _, h1, _⟩ := HREL.out.1.2.1.cells; exact h1
          go_wp2_with fail
          refine (ralign_calls _ _ _ _ _ (HREL.out.1.1.fr (S := No) ((Fr.refl _ _).alloc _) (fun h => h) (fun _ _ h => h))).mono ?_
          rw [div_pow_add, Nat.sub_sub]
          rintro e w6 ⟨rfl, hr6, hf6⟩
          have hx6 := (HREL.out.1.2.1.fr (S := No) ((Fr.refl _ _).alloc _) (fun h => h) (fun _ _ h => h)).fr hf6 (fun (e : gx = gr) => by omega) (fun q hq e => (HREL.out.1.2.2.2 q hq).2.1 e)
          have H6 := hid (And.intro hr6 (And.intro hx6 ((HREL.out.2.2.alloc _).trans hf6 (fun q hq (e : q = gr) => by omega))))
          clear hr6 hx6 hf6
          go_wp2_with fail
          refine (rralign_calls _ _ _ _ _ _ H6.out.2.1).mono ?_
          rintro e w7 ⟨rfl, hx7, hf7⟩
          have HE := hid (And.intro (HREL.out.1.step (by omega) H6.out.1 hf7 hx7) (And.intro HT.out.2 (H6.out.2.2.trans hf7 (fun q hq (e : q = gx) => by omega))))
          clear hx7 hf7 H6
          have hself : ((((TT - a) % 8 : Nat) : Int) != (((TT - a) % 8 : Nat) : Int)) = false := by simp
          go_wp2_with fail
          refine (have_calls _ _ _ _ _ HE.out.1.1).mono ?_
          rintro e w8 ⟨rfl, k8, rfl⟩
          go_wp2_with fail
          refine (rrhave_calls _ _ _ _ _ _ (HE.out.1.2.1.fr (S := No) ((Fr.refl _ _).drewN k8) (fun h => h) (fun _ _ h => h))).mono ?_
          rintro e w9 ⟨rfl, k9, rfl⟩
          go_wp2_with fail
          go_roundw
          case rel => exact ⟨k + 1, _, _, _, _, _, by omega, by go_num, HE.out.1.fr (S := No) ((Fr.refl _ _).drewN _) (fun _ _ h => h), HE.out.2.1, HE.out.2.2.drewN _⟩
          case measure => simp [intOf] <;> omega
        · have t0 : (ki % 5 == 0) = false := by simp; omega
          have t1 : (ki % 5 == 1) = false := by simp; omega
          have t2 : (ki % 5 == 2) = false := by simp; omega
          have t3 : (ki % 5 == 3) = false := by simp; omega
          clear h5
          have haT : a ≤ TT := by obtain ⟨_, _, _, _, _, _, h1, _⟩ := HREL.out.1.2.1.cells; exact h1
          go_wp2_with fail
          generalize hWe : wr.alloc (.cells #[.int .u8 ki, .int .i64 m, .slice A' n' c'] 71) = W
          have c1' : W.cell? ⟨wr.heap.size, 1, none⟩ = some (.int .i64 m) := by rw [← hWe]; exact cell_new _ _ _ 1 _ rfl
          have hfW : Fr No wr W := by rw [← hWe]; exact (Fr.refl _ _).alloc _
          have hsW : wr.heap.size < W.heap.size := by rw [← hWe]; simp
          obtain ⟨ga, hga⟩ : ∃ ga, ga = wr.heap.size := ⟨_, rfl⟩
          rw [← hga] at c1' hsW hgrl hgxl ⊢
          have HE0 := hid (And.intro (HREL.out.1.fr hfW (fun _ _ h => h)) (And.intro HT.out.2 (HREL.out.2.2.then hfW)))
          obtain ⟨N, hN⟩ : ∃ N, N = rbN (TT - a) m := ⟨_, rfl⟩
          have hle : ∀ bs : List UInt8, bs.length = N → le bs = VV / 2 ^ a % 256 ^ N → decide (bs = putLE N ((VV / 2 ^ a : Nat) : Int)) = true := fun bs h1 h2 => decide_eq_true (le_inj _ _ (by rw [h1, putLE_length]) (by rw [h2, le_putLE]))
          have HLE := hid hle
          have HN := hid hN
          clear hWe hfW q0 q1 q2 hle hN hga
          go_region_held3 (fun w' => w'.cell? ⟨ga, 1, none⟩ = some (.int .i64 m))
            (first | go_keep | (rw [hf1.cellg ga 1 (by simp; omega) (fun e => by have : ga = gr := e; omega)]; go_keep) | (rw [hf2.cellg ga 1 (by have := hf1.size; simp at this; omega) (fun e => by have : ga = gx := e; omega)]; go_keep))
            (first
              | (go_at_call 54; refine (rbytes_calls _ _ _ _ _ (HE0.out.1.1.fr (S := No) (Fr.refl _ _).drew (fun h => h) (fun _ _ h => h)) m).mono ?_; rw [← HN.out]; rintro e w6 ⟨v1, bs1, rfl, hn1', hv1, hl1, hr6, hf1⟩; obtain ⟨B1, m1, d1, rfl, N1⟩ := hn1'.use; clear hn1'; have HV1 := hid (HLE.out bs1 hl1 hv1); clear hv1 hl1)
              | (go_at_call 55; refine (rrbytes_calls _ _ _ _ _ _ ((HE0.out.1.2.1.fr (S := No) (Fr.refl _ _).drew (fun h => h) (fun _ _ h => h)).fr hf1 (fun (e : gx = gr) => by omega) (fun q hq e => (HE0.out.1.2.2.2 q hq).2.1 e)) m).mono ?_; rw [← HN.out]; rintro e w7 ⟨v2, rfl, hn2', hx7, hf2⟩; obtain ⟨B2, m2, d2, rfl, N2⟩ := hn2'.use; clear hn2')
              | (go_at_call 29; refine (same_calls _ _ _ _ _ _ _ _ N1.out.1 N2.out.1 _ (N1.out.2.1.fr hf2 (fun ad e (e2 : ad.block = gx) => by have := farOf N1.out.2.2.2 ad e; simp at this; omega)) N2.out.2.1).mono ?_; rw [HV1.out]; rintro e w9 ⟨rfl, rfl⟩))
          rw [div_pow_add, Nat.sub_sub] at hr6
          have HE := hid (And.intro (HE0.out.1.step (by omega) hr6 hf2 hx7) (And.intro HT.out.2 (((HE0.out.2.2.drew).trans hf1 (fun q hq (e : q = gr) => by omega)).trans hf2 (fun q hq (e : q = gx) => by omega))))
          clear hr6 hf1 hf2 hx7 N1 N2 HV1 HE0
          go_wp2_with fail
          refine (have_calls _ _ _ _ _ HE.out.1.1).mono ?_
          rintro e w8 ⟨rfl, k8, rfl⟩
          go_wp2_with fail
          refine (rrhave_calls _ _ _ _ _ _ (HE.out.1.2.1.fr (S := No) ((Fr.refl _ _).drewN k8) (fun h => h) (fun _ _ h => h))).mono ?_
          rintro e w9 ⟨rfl, k9, rfl⟩
          go_wp2_with fail
          go_roundw
          case rel => exact ⟨k + 1, _, _, _, _, _, by omega, by go_num, HE.out.1.fr (S := No) ((Fr.refl _ _).drewN _) (fun _ _ h => h), HE.out.2.1, HE.out.2.2.drewN _⟩
          case measure => simp [intOf] <;> omega
      · have hge : n1 ≤ k := by omega
        clear hlt
        go_wp2_with fail
        go_ret
        exact ⟨rfl, HREL.out.2.2⟩
end Go.Proofs.Ytjmgffiplkkgpaa

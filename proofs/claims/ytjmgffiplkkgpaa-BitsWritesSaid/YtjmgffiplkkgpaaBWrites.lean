/- The walk of BitsWrites. -/
import Derived.Test.YtjmgffiplkkgpaaBBack
import Derived.Test.YtjmgffiplkkgpaaRef1
namespace Go.Proofs.Ytjmgffiplkkgpaa
open Go.RowKit Go.Proofs.HK
set_option linter.unusedVariables false
set_option linter.unusedSimpArgs false
attribute [local go_sem] max2_int min2_int max_two min_two

def slLen : Value → Nat | .slice _ n _ => n | _ => 0
/-- The writer and the document's list, beside one another. -/
def WL (w0 : Nat) (wr : World) (gw : Nat) (ob : Option Nat) (V T : Nat) (A1 : Option Addr) (c1 : Nat) (ob1 : Option Nat) (V' T' : Nat) : Prop :=
  WrV wr gw ob V T ∧ Row wr 1 (.slice A1 T' c1) ob1 T' ((bitsN T' V').map IB) ∧ (∀ q, ob = some q → w0 ≤ q) ∧ (∀ q, ob1 = some q → w0 ≤ q ∧ q ≠ gw ∧ ob ≠ some q)
theorem WL.put {w0 : Nat} {wr w3 : World} {gw : Nat} {ob ob3 : Option Nat} {V T V3 T3 : Nat} {A1 : Option Addr} {c1 : Nat} {ob1 : Option Nat} {V' T' : Nat} (h : WL w0 wr gw ob V T A1 c1 ob1 V' T') (h0 : w0 ≤ wr.heap.size)
    (hw : WrV w3 gw ob3 V3 T3) (ho : ob3 = ob ∨ ∃ k, ob3 = some k ∧ wr.heap.size ≤ k) (hf : Fr (RF gw ob) wr w3) : WL w0 w3 gw ob3 V3 T3 A1 c1 ob1 V' T' := by
  obtain ⟨_, h2, h3, h4⟩ := h
  refine ⟨hw, h2.fr hf (fun q hq e => ?_), ob_ge ho h3 h0, fun q hq => ⟨(h4 q hq).1, (h4 q hq).2.1, fun e => ?_⟩⟩
  · rcases e with e | e
    · exact (h4 q hq).2.1 e
    · exact (h4 q hq).2.2 e.symm
  · rcases ho with e2 | ⟨k, e2, hk⟩
    · exact (h4 q hq).2.2 (by rw [← e2, e])
    · rw [e2] at e; injection e with e; have := h2.lt hq; omega
theorem WL.app {w0 : Nat} {wr w3 : World} {gw : Nat} {ob : Option Nat} {V T : Nat} {A1 A3 : Option Addr} {c1 c3 : Nat} {ob1 ob3 : Option Nat} {V' T' V3 T3 : Nat} (h : WL w0 wr gw ob V T A1 c1 ob1 V' T') (h0 : w0 ≤ wr.heap.size)
    (hr : Row w3 1 (.slice A3 T3 c3) ob3 T3 ((bitsN T3 V3).map IB)) (hf : Fr (Opt ob1) wr w3) (ho : ob3 = ob1 ∨ ∃ k, ob3 = some k ∧ wr.heap.size ≤ k) : WL w0 w3 gw ob V T A3 c3 ob3 V3 T3 := by
  obtain ⟨h1, h2, h3, h4⟩ := h
  refine ⟨h1.fr hf (fun e => (h4 _ e.symm).2.1 rfl) (fun q hq e => (h4 q e.symm).2.2 hq), hr, h3, fun q hq => ?_⟩
  rcases ho with e2 | ⟨k, e2, hk⟩
  · exact h4 q (by rw [← e2, hq])
  · rw [e2] at hq; injection hq with hq
    have := h1.lt
    refine ⟨by omega, by omega, fun e => ?_⟩
    have := h1.olt _ e
    omega
theorem WL.fr {w0 : Nat} {wr w3 : World} {gw : Nat} {ob : Option Nat} {V T : Nat} {A1 : Option Addr} {c1 : Nat} {ob1 : Option Nat} {V' T' : Nat} (h : WL w0 wr gw ob V T A1 c1 ob1 V' T') {S : Nat → Prop} (hf : Fr S wr w3)
    (hS : ∀ q, q < wr.heap.size → ¬ S q) : WL w0 w3 gw ob V T A1 c1 ob1 V' T' := by
  obtain ⟨h1, h2, h3, h4⟩ := h
  exact ⟨h1.fr hf (hS _ h1.lt) (fun q hq => hS _ (h1.olt q hq)), h2.fr hf (fun q hq => hS _ (h2.lt hq)), h3, h4⟩

theorem oneI (xs : List Nat) : ∀ u ∈ xs.map IB, u.oneCell' = true := by
  intro u hu
  obtain ⟨x, _, rfl⟩ := List.mem_map.1 hu
  rfl
set_option maxRecDepth 100000 in
set_option maxHeartbeats 1600000 in
theorem bitsWrites_walk (A : Option Addr) (xs : List PutT) (n1 c : Nat) (w : World) (s0 : SlM PutK 3 24 w A xs n1 c) :
    Calls Try.prog 10 #[.slice A n1 c] w fun e w' => e = .returned (.bool true) ∧ Fr No w w' := by
  have hlc := s0.cap
  have HR := hid (And.intro s0.len s0)
  clear s0
  by_cases g0 : 500 < n1
  · go_enter Try.func10, Try.ntmps10
    go_wp2_with (go_at_call 19; refine (fixed1_calls _).mono ?_; rintro e w1 ⟨rfl, hf1⟩; have HF := hid hf1; clear hf1)
    go_ret
    exact ⟨rfl, HF.out⟩
  have g0' : n1 ≤ 500 := by omega
  clear g0
  go_enter Try.func10, Try.ntmps10
  go_wp2_with (go_at_call 19; refine (fixed1_calls _).mono ?_; rintro e w1 ⟨rfl, hf1⟩; have HF := hid hf1; clear hf1)
  refine (nw_calls _).mono ?_
  rintro e w2 ⟨gw, rfl, hgw, hwr, hf⟩
  have hs1 := HF.out.size
  have hs2 := hf.size
  have HA := hid (And.intro hwr (HF.out.then hf))
  clear hwr hf HF
  go_wp2_with fail
  go_loopw [4, 17] (fun l i wr => ∃ (k V T : Nat) (ob : Option Nat) (A1 : Option Addr) (c1 : Nat) (ob1 : Option Nat), k ≤ n1 ∧ i = .int .i64 k ∧ l = .slice A1 T c1 ∧ T ≤ 32 * k ∧ WL w.heap.size wr gw ob V T A1 c1 ob1 V T ∧ Fr No w wr) (fun _ i _ => n1 - (intOf i).toNat)
  case atStart => exact ⟨0, 0, 0, none, none, 0, none, by omega, rfl, rfl, by omega, ⟨HA.out.1, Row.nil _ _, fun _ h => (by cases h), fun _ h => (by cases h)⟩, HA.out.2⟩
  case round =>
    obtain ⟨k, V, T, ob, A1, c1, ob1, hk, rfl, rfl, hT, h1, h2⟩ := hrel
    have hsz := h2.size
    have HREL := hid (And.intro h1 h2)
    clear h1 h2 HA
    by_cases hlt : k < n1
    · obtain ⟨ad, v, n, al, rfl, hx, hv1, hv2, q0, q1, q2⟩ := PutK.at HR.out.2 HREL.out.2 k (by rw [HR.out.1]; exact hlt)
      have hgwl := HREL.out.1.1.lt
      clear hx
      cases al with
      | true =>
        go_wp2_with fail
        refine (walign_calls _ _ _ _ _ (HREL.out.1.1.fr (S := No) ((Fr.refl _ _).alloc _) (fun h => h) (fun _ _ h => h)) (by omega)).mono ?_
        rintro e w3 ⟨rfl, hw3, hf3⟩
        have hs3 := hf3.size
        simp only [World.size_alloc] at hs3
        have hWL := (HREL.out.1.fr (S := No) ((Fr.refl _ _).alloc _) (fun _ _ h => h)).put (by simp; omega) hw3 (.inl rfl) (hf3.mono (fun q hq (e : q = gw) => .inl e))
        have HE := hid (And.intro hWL ((HREL.out.2.alloc _).trans hf3 (fun q hq (e : q = gw) => by omega)))
        have hVT := HREL.out.1.1.V_lt
        obtain ⟨T2, hT2⟩ : ∃ T2, T2 = 8 * ((T + 7) / 8) := ⟨_, rfl⟩
        rw [← hT2] at HE
        have t1 : T ≤ T2 ∧ T2 ≤ 32 * (k + 1) ∧ T2 % 8 = 0 ∧ T2 < T + 8 := by omega
        clear hT2
        have HV := hid hVT
        clear hw3 hf3 HREL hWL hVT
        go_wp2_with fail
        go_loopw [4] (fun l wr => ∃ (T1 : Nat) (A1 : Option Addr) (c1 : Nat) (ob1 : Option Nat), T ≤ T1 ∧ T1 ≤ T2 ∧ l = .slice A1 T1 c1 ∧ WL w.heap.size wr gw ob V T2 A1 c1 ob1 V T1 ∧ Fr No w wr) (fun l _ => T2 - slLen l)
        case atStart => exact ⟨T, A1, c1, ob1, by omega, by omega, rfl, HE.out⟩
        case round =>
          obtain ⟨T1, A2, c2, ob2, hT1, hT12, rfl, h1, h2⟩ := hrel
          have hsz2 := h2.size
          have HREL := hid (And.intro h1 h2)
          clear h1 h2 HE
          by_cases h8 : T1 % 8 = 0
          · have h8' : ((T1 : Int) % 8 != 0) = false := by simp; omega
            obtain rfl : T1 = T2 := by omega
            have hlen : ((T1 : Int) != (T1 : Int)) = false := by simp
            go_wp2_with fail
            refine (wlen_calls _ _ _ _ _ HREL.out.1.1).mono ?_
            rintro e w4 ⟨rfl, rfl⟩
            go_wp2_with fail
            go_roundw
            case rel => exact ⟨k + 1, V, T1, ob, A2, c2, ob2, by omega, by go_num, rfl, by omega, HREL.out⟩
            case measure => simp [intOf] <;> omega
          · have h8' : ((T1 : Int) % 8 != 0) = true := by simp; omega
            have hst : (bitsN (T1 + 1) V).map IB = (bitsN T1 V).map IB ++ [.int .i64 0] := by
              rw [bitsN_snoc, List.map_append, Nat.div_eq_of_lt (Nat.lt_of_lt_of_le HV.out (Nat.pow_le_pow_right (by decide) hT1))]; rfl
            have HS := hid hst
            clear hst
            go_wp2_with (at_builtin; refine wpList_app1 slI rfl (.tmp 29) (.tmp 30) rfl rfl HREL.out.1.2.1 rfl (m := 1) (c := 1) (ys := [.int .i64 0]) rfl (by simp [Value.oneCell']) (by omega) (by omega) ?_; intro A3 c3 w4 ob3 hrow3 hfr3 hob3)
            rw [← HS.out] at hrow3
            have hE := HREL.out.1.app (V3 := V) hsz2 hrow3 hfr3 hob3
            have hF := HREL.out.2.fresh hfr3 (fun q hq => (HREL.out.1.2.2.2 q hq).1)
            go_roundw
            case rel => exact ⟨T1 + 1, A3, c3, ob3, by omega, by omega, rfl, hE, hF⟩
            case measure => simp [slLen] <;> omega
      | false =>
        obtain ⟨m, hm⟩ : ∃ m, m = low32 n := ⟨_, rfl⟩
        have hm32 : m ≤ 32 := by rw [hm]; exact low32_le n
        go_wp2_with fail
        refine (put_calls _ _ _ _ _ (HREL.out.1.1.fr (S := No) ((Fr.refl _ _).alloc _) (fun h => h) (fun _ _ h => h)) v n ⟨hv1, hv2⟩ (by omega)).mono ?_
        rw [← hm]
        rintro e w3 ⟨rfl, ob3, hw3, hob3, hf3⟩
        have hs3 := hf3.size
        simp only [World.size_alloc] at hs3
        have hgp := HREL.out.1.1.olt
        have hWL := (HREL.out.1.fr (S := No) ((Fr.refl _ _).alloc _) (fun _ _ h => h)).put (by simp; omega) hw3 hob3 hf3
        have c0 : w3.cell? ⟨wr.heap.size, 0, none⟩ = some (.int .i64 v) := (hf3.cellg _ 0 (by simp) (fun e => by rcases e with e | e <;> first | omega | (have := hgp _ e.symm; omega))).trans (cell_new _ _ _ 0 _ rfl)
        have c1' : w3.cell? ⟨wr.heap.size, 1, none⟩ = some (.int .i64 n) := (hf3.cellg _ 1 (by simp) (fun e => by rcases e with e | e <;> first | omega | (have := hgp _ e.symm; omega))).trans (cell_new _ _ _ 1 _ rfl)
        have HE := hid (And.intro hWL ((HREL.out.2.alloc _).trans hf3 (fun q hq e => by have := RF.ge (m := w.heap.size) e (by omega) HREL.out.1.2.2.1; omega)))
        have hVT := hid HREL.out.1.1.V_lt
        have hm' := hid hm
        clear hw3 hf3 HREL hWL hob3 hm
        go_wp2_with fail
        refine (ref1Low_calls v n _ ⟨hv1, hv2⟩).mono ?_
        rw [← hm'.out]
        rintro e w4 ⟨y, rfl, hnew⟩
        obtain ⟨A4, n4, c4, rfl, N4⟩ := hnew.use
        obtain rfl : n4 = m := by rw [← N4.out.1, bitsN_length]
        clear hnew
        have hs4 := N4.out.2.2.2.1.size
        go_wp2_with (at_builtin; refine wpList_app slI rfl (.tmp 38) (.tmp 43) rfl rfl (HE.out.1.fr N4.out.2.2.2.1 (fun _ _ h => h)).2.1 rfl (show ((bitsN n4 (v % 2 ^ n4).toNat).map IB).length = n4 * 1 by rw [List.length_map, bitsN_length, Nat.mul_one]) (Rd.cells.1 N4.out.2.1) (oneI _) (by omega) (by omega) ?_; intro A5 c5 w5 ob5 hrow5 hfr5 hob5)
        rw [← List.map_append, bitsN_append _ _ _ _ hVT.out] at hrow5
        have hE := (HE.out.1.fr N4.out.2.2.2.1 (fun _ _ h => h)).app (by omega) hrow5 hfr5 hob5
        have hF : Fr No w w5 := (HE.out.2.then N4.out.2.2.2.1).fresh hfr5 (fun q hq => (HE.out.1.2.2.2 q hq).1)
        have HE2 := hid (And.intro hE hF)
        clear hE hF hrow5 hfr5 hob5 N4 HE
        go_wp2_with fail
        refine (wlen_calls _ _ _ _ _ HE2.out.1.1).mono ?_
        rintro e w6 ⟨rfl, rfl⟩
        have hlen : (((T + n4 : Nat) : Int) != ((T + n4 : Nat) : Int)) = false := by simp
        go_wp2_with fail
        go_roundw
        case rel => exact ⟨k + 1, _, T + n4, ob3, A5, c5, ob5, by omega, by go_num, rfl, by omega, HE2.out⟩
        case measure => simp [intOf] <;> omega
    · have hge : n1 ≤ k := by omega
      clear hlt
      have HWR := hid HREL.out.1
      go_wp2_with fail
      refine (out_calls _ _ _ _ _ HREL.out.1.1).mono ?_
      rintro e w3 ⟨x, bs, rfl, hnew, hl3, hv3⟩
      obtain ⟨A3, n3, c3, rfl, N3⟩ := hnew.use
      have hVT := hid HREL.out.1.1.V_lt
      have hbs : bs = putLE ((T + 7) / 8) V := le_inj _ _ (by rw [hl3, putLE_length]) (by rw [hv3, le_putLE, Nat.mod_eq_of_lt (Nat.lt_of_lt_of_le hVT.out (by rw [pow256]; exact Nat.pow_le_pow_right (by decide) (by omega)))])
      have HBS := hid hbs
      have hW3 := HREL.out.1.fr N3.out.2.2.2.1 (fun _ _ h => h)
      have H3 := hid (And.intro hW3 (HREL.out.2.then N3.out.2.2.2.1))
      have hs3 := N3.out.2.2.2.1.size
      obtain ⟨oq, hrow, hoq⟩ := N3.out.2.2.2.2
      have HO := hid (And.intro hrow hoq)
      have hn3 : n3 = (T + 7) / 8 := by rw [← N3.out.1, hl3]
      have HN3 := hid hn3
      have hn3b : n3 ≤ 3000 := by omega
      clear hnew hl3 hv3 hbs hW3 HREL hrow hoq hn3
      have hrc := H3.out.1.2.1.rd
      have hcap : T ≤ c1 := hrc.2.1
      have HRC := hid hrc.1
      clear hrc
      go_wp2_with fail
      refine (ref1Bytes_calls A1 T V c1 _ HRC.out hcap hVT.out (by omega)).mono ?_
      rintro e w4 ⟨y, rfl, hnew⟩
      obtain ⟨A4, n4, c4, rfl, N4⟩ := hnew.use
      clear hnew
      go_wp2_with fail
      have htrue : decide (bs = putLE ((T + 7) / 8) (V : Int)) = true := decide_eq_true HBS.out
      refine (same_calls A3 A4 bs (putLE ((T + 7) / 8) V) n3 n4 c3 c4 N3.out.1 N4.out.1 w4 (N3.out.2.1.fr0 N4.out.2.2.2.1) N4.out.2.1).mono ?_
      rw [htrue]
      rintro e w5 ⟨rfl, rfl⟩
      have hrow4 := HO.out.1.fr N4.out.2.2.2.1 (fun _ _ h => h)
      have H4 := hid (And.intro (H3.out.1.fr N4.out.2.2.2.1 (fun _ _ h => h)) (And.intro (H3.out.2.then N4.out.2.2.2.1) hrow4))
      have hnq : ∀ q, oq = some q → w.heap.size ≤ q ∧ gw ≠ q ∧ (∀ z, ob = some z → z ≠ q) ∧ (∀ z, ob1 = some z → z ≠ q) := fun q hq => by
        have h1 := HO.out.2 q hq
        have h2 := HWR.out.1.lt
        exact ⟨by omega, by omega, fun z hz e => by have := HWR.out.1.olt z hz; omega, fun z hz e => by have := HWR.out.2.1.lt hz; omega⟩
      have HQ := hid hnq
      clear hnq hrow4 HO N3 N4 H3 HWR
      obtain ⟨W7, hW7⟩ : ∃ W7 : World, W7 = w5 := ⟨_, rfl⟩
      have HW7 := hid hW7
      clear hW7
      go_wp2_with fail
      go_loopw [8, 60] (fun _ i wr => ∃ (k : Nat) (ys : List UInt8), k ≤ n3 ∧ i = .int .i64 k ∧ ys.length = n3 ∧ WL w.heap.size wr gw ob V T A1 c1 ob1 V T ∧ Fr No w wr ∧ Row wr 1 (.slice A3 n3 c3) oq n3 (ys.map B)) (fun _ i _ => n3 - (intOf i).toNat)
      case atStart => exact ⟨0, bs, by omega, rfl, by rw [HBS.out, putLE_length, HN3.out], H4.out⟩
      case round =>
        obtain ⟨k, ys, hk, rfl, hyl, h1, h2, h3⟩ := hrel
        have HREL := hid (And.intro h1 (And.intro h2 h3))
        clear h1 h2 h3 H4
        by_cases hlt : k < n3
        · obtain ⟨o, go, old, e1, e2, hc, hf, hr⟩ := HREL.out.2.2.set k hlt (.int .u8 ((((rdB ys k).toNat : Int) + 1) % 256))
          subst e1
          obtain ⟨ad, e3, hc2⟩ := HREL.out.2.2.rd.1.atN k (by omega)
          injection e3 with e3
          subst e3
          simp only [add_lit] at hc2
          have hq := HQ.out _ e2
          clear hc
          have hbz := B_lt (rdB ys k)
          have HS := hid hr
          have HY := hid hyl
          have HQ2 := hid hq
          clear hr e2 hyl hq
          go_wp2
          go_roundw
          case rel =>
            refine ⟨k + 1, ys.set k (HK.byteOf (((rdB ys k).toNat : Int) + 1)), by omega, by go_num, by rw [List.length_set]; exact HY.out, ⟨HREL.out.1.1.fr (Fr.set1 _ _ _ _) (fun (e : gw = o) => HQ2.out.2.1 e) (fun q hq (e : q = o) => HQ2.out.2.2.1 q hq e), HREL.out.1.2.1.fr (Fr.set1 _ _ _ _) (fun q hq (e : q = o) => HQ2.out.2.2.2 q hq e), HREL.out.1.2.2⟩, HREL.out.2.1.trans (Fr.set1 _ _ _ _) (fun q h1 (e : q = o) => by have := HQ2.out.1; omega), ?_⟩
            rw [← map_set_B]; exact HS.out
          case measure => simp [intOf] <;> omega
        · have hge3 : n3 ≤ k := by omega
          clear hlt hyl
          go_wp2_with fail
          refine (out_calls _ _ _ _ _ HREL.out.1.1).mono ?_
          rintro e w8 ⟨x, bs2, rfl, hnew, hl8, hv8⟩
          obtain ⟨A8, n8, c8, rfl, N8⟩ := hnew.use
          have hbs2 : bs2 = putLE ((T + 7) / 8) V := le_inj _ _ (by rw [hl8, putLE_length]) (by rw [hv8, le_putLE, Nat.mod_eq_of_lt (Nat.lt_of_lt_of_le hVT.out (by rw [pow256]; exact Nat.pow_le_pow_right (by decide) (by omega)))])
          have HBS2 := hid hbs2
          have H8 := hid (And.intro (HREL.out.1.fr N8.out.2.2.2.1 (fun _ _ h => h)) (HREL.out.2.1.then N8.out.2.2.2.1))
          have HRC8 := hid H8.out.1.2.1.rd.1
          clear hnew hl8 hv8 hbs2 HREL
          go_wp2_with fail
          refine (ref1Bytes_calls A1 T V c1 _ HRC8.out hcap hVT.out (by omega)).mono ?_
          rintro e w9 ⟨y, rfl, hnew⟩
          obtain ⟨A9, n9, c9, rfl, N9⟩ := hnew.use
          clear hnew
          go_wp2_with fail
          have htrue2 : decide (bs2 = putLE ((T + 7) / 8) (V : Int)) = true := decide_eq_true HBS2.out
          refine (same_calls A8 A9 bs2 (putLE ((T + 7) / 8) V) n8 n9 c8 c9 N8.out.1 N9.out.1 w9 (N8.out.2.1.fr0 N9.out.2.2.2.1) N9.out.2.1).mono ?_
          rw [htrue2]
          rintro e w10 ⟨rfl, rfl⟩
          go_wp2_with fail
          go_ret
          exact ⟨rfl, H8.out.2.then N9.out.2.2.2.1⟩
end Go.Proofs.Ytjmgffiplkkgpaa

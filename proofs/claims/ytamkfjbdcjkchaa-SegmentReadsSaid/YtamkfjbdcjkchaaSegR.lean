/- How a message's parts are read: the contracts of the readers, but that of an answer. -/
import Derived.Test.YtamkfjbdcjkchaaSegA4
namespace Go.Proofs.Ytamkfjbdcjkchaa
open Go.RowKit Go.Proofs.HK
set_option linter.unusedVariables false
set_option linter.unusedSimpArgs false
attribute [local go_sem] max2_int min2_int max_two min_two

theorem cb_calls {L T : Nat} (w : World) (g : Nat) (o : List UInt8) (s : CS) (n : Int) (h : Cur L T w g o s.p s.e) :
    Calls Try.prog 29 #[.pointer (some ⟨g, 0, none⟩), .int .i64 n] w fun e w' => e = .returned (.int .i64 (nb o s n)) ∧ Cur L T w' g o (nx o s n).p (nx o s n).e ∧ Fr (One g) w w' :=
  cbig_calls w g o s.p s.e n h
/-- Two blocks. -/
def Two (g h : Nat) : Nat → Prop := fun k => k = g ∨ k = h
theorem _root_.Go.Proofs.HK.Fr.two {g h : Nat} {w w1 : World} (hf : Fr (One g) w w1) : Fr (Two g h) w w1 := hf.mono (fun _ _ e => .inl e)
theorem wu32 (n : Int) (h : 0 ≤ n ∧ n < 4294967296) : IntKind.u32.wrap n = n := by rw [IntKind.wrap_u32]; omega
/-- A message's cells. -/
def mC (m : MsgS) (rv dv : Value) : Array Value := #[.int .i64 m.K, .int .u32 (m.U : Int), .int .i64 m.F, .int .u32 (m.S : Int), .int .i64 m.Z, .int .i64 m.P, .int .i64 m.Y, .int .i64 m.X, .int .i64 m.Q, .int .i64 m.C, rv, dv]
def noS : Value := .slice none 0 0
/-- What a message's slices are good for. -/
structure RM (b0 : Nat) (w : World) (m : MsgS) (rA : Option Addr) (rn rc : Nat) (dA : Option Addr) (dn dc : Nat) : Prop where
  rl : m.R.length = rn
  dl : m.D.length = dn
  rd : Cells w rA (rngC m.R)
  dd : Rd B w dA m.D
  rcap : rn ≤ rc
  dcap : dn ≤ dc
  rf : ∀ ad, rA = some ad → b0 ≤ ad.block
  df : ∀ ad, dA = some ad → b0 ≤ ad.block
theorem RM.fr0 {b0 : Nat} {w w' : World} {m : MsgS} {rA dA : Option Addr} {rn rc dn dc : Nat} (h : RM b0 w m rA rn rc dA dn dc) (hf : Fr No w w') : RM b0 w' m rA rn rc dA dn dc :=
  ⟨h.rl, h.dl, h.rd.fr hf (fun _ _ h => h), h.dd.fr0 hf, h.rcap, h.dcap, h.rf, h.df⟩
theorem RM.none {b0 : Nat} {w : World} {m : MsgS} (h1 : m.R = []) (h2 : m.D = []) : RM b0 w m none 0 0 none 0 0 := by
  refine ⟨by rw [h1]; rfl, by rw [h2]; rfl, ?_, ?_, Nat.le_refl _, Nat.le_refl _, (fun _ h => by cases h), (fun _ h => by cases h)⟩
  · rw [h1]; exact Cells.nil
  · rw [h2]; exact Rd.nil
/-- What a reader of parts leaves. -/
def RetR (L T : Nat) (w : World) (g h : Nat) (o : List UInt8) (s : CS) (m : MsgS) (e : Ending) (w' : World) : Prop :=
  e = .returned (.tuple #[]) ∧ Cur L T w' g o s.p s.e ∧ Fr (Two g h) w w' ∧ ∃ rA rn rc dA dn dc, w'.heap[h]? = some (.cells (mC m (.slice rA rn rc) (.slice dA dn dc)) 26 (0, 0)) ∧ RM w.heap.size w' m rA rn rc dA dn dc
theorem toN (n : Int) (h : 0 ≤ n ∧ n < 4294967296) : ((n.toNat : Nat) : Int) = n := by omega
theorem free12 {W : World} {g : Nat} {v0 v1 v2 v3 v4 v5 v6 v7 v8 v9 v10 v11 : Value} {t : TypeId} (hb : W.heap[g]? = some (.cells #[v0, v1, v2, v3, v4, v5, v6, v7, v8, v9, v10, v11] t (0, 0))) (i : Nat) : W.frozen? ⟨g, i, none⟩ = false := by
  simp [World.frozen?, hb]

--GEN
set_option maxRecDepth 100000 in
set_option maxHeartbeats 1600000 in
theorem rd1_calls {L T : Nat} (w : World) (g h : Nat) (o : List UInt8) (s : CS) (K : Int) (U : Nat) (hc : Cur L T w g o s.p s.e) (hb : w.heap[h]? = some (.cells #[.int .i64 K, .int .u32 (U : Int), .int .i64 0, .int .u32 0, .int .i64 0, .int .i64 0, .int .i64 0, .int .i64 0, .int .i64 0, .int .i64 0, .slice none 0 0, .slice none 0 0] 26 (0, 0))) (hh : h < L ∨ T ≤ h) (hK : K = 1) :
    Calls Try.prog 40 #[.pointer (some ⟨g, 0, none⟩), .pointer (some ⟨h, 0, none⟩)] w (RetR L T w g h o (rdS o K s) (rdMs o K U s)) := by
  obtain ⟨s1, hs1⟩ : ∃ x, x = nx o s 1 := ⟨_, rfl⟩
  obtain ⟨s2, hs2⟩ : ∃ x, x = nx o s1 4 := ⟨_, rfl⟩
  obtain ⟨s3, hs3⟩ : ∃ x, x = nx o s2 4 := ⟨_, rfl⟩
  obtain ⟨v1, hv1⟩ : ∃ x, x = nb o s 1 := ⟨_, rfl⟩
  obtain ⟨v2, hv2⟩ : ∃ x, x = nb o s1 4 := ⟨_, rfl⟩
  obtain ⟨v3, hv3⟩ : ∃ x, x = nb o s2 4 := ⟨_, rfl⟩
  have HS := hid (show rdS o K s = s3 ∧ rdMs o K U s = ⟨K, U, v1, v2.toNat, 0, v3, 0, 0, 0, 0, [], []⟩ by unfold rdS rdMs; rw [if_pos hK, if_pos hK]; subst_vars; exact ⟨rfl, rfl⟩)
  have b2 : 0 ≤ v2 ∧ v2 < 4294967296 := by rw [hv2]; exact nb_bd _ _ _
  have c1_calls : ∀ W, Cur L T W g o s.p s.e → Calls Try.prog 29 #[.pointer (some ⟨g, 0, none⟩), .int .i64 1] W fun e w' => e = .returned (.int .i64 v1) ∧ Cur L T w' g o s1.p s1.e ∧ Fr (One g) W w' := fun W h => by rw [hv1, hs1]; exact cb_calls W g o s 1 h
  have c2_calls : ∀ W, Cur L T W g o s1.p s1.e → Calls Try.prog 29 #[.pointer (some ⟨g, 0, none⟩), .int .i64 4] W fun e w' => e = .returned (.int .i64 v2) ∧ Cur L T w' g o s2.p s2.e ∧ Fr (One g) W w' := fun W h => by rw [hv2, hs2]; exact cb_calls W g o s1 4 h
  have c3_calls : ∀ W, Cur L T W g o s2.p s2.e → Calls Try.prog 29 #[.pointer (some ⟨g, 0, none⟩), .int .i64 4] W fun e w' => e = .returned (.int .i64 v3) ∧ Cur L T w' g o s3.p s3.e ∧ Fr (One g) W w' := fun W h => by rw [hv3, hs3]; exact cb_calls W g o s2 4 h
  have hw2 : IntKind.u32.wrap v2 = v2 := wu32 v2 b2
  have hne : h ≠ g := by have := hc.gl; have := hc.gu; omega
  have HC := hid hc
  have HB := hid hb
  have C1 := hid c1_calls
  have C2 := hid c2_calls
  have C3 := hid c3_calls
  have Hb2 := hid b2
  clear hs1 hs2 hs3 hv1 hv2 hv3 hK hc hb c1_calls c2_calls c3_calls b2
  go_enter Try.func40, Try.ntmps40
  go_wp2_with fail
  refine (C1.out _ HC.out).mono ?_
  rintro e w1 ⟨rfl, hc1, hf1⟩
  have H1 := hid (And.intro hc1 hf1)
  clear hc1 hf1
  go_wp2_with fail
  refine (C2.out _ H1.out.1).mono ?_
  rintro e w2 ⟨rfl, hc2, hf2⟩
  have H2 := hid (And.intro hc2 (H1.out.2.then hf2))
  clear hc2 hf2
  go_wp2_with fail
  refine (C3.out _ H2.out.1).mono ?_
  rintro e w3 ⟨rfl, hc3, hf3⟩
  have hF := H2.out.2.then hf3
  have hbE := (hF.block h (Array.getElem?_eq_some_iff.1 HB.out).1 (fun e => hne e)).trans HB.out
  obtain ⟨m0, m1, m2, m3, m4, m5, m6, m7, m8, m9, m10, m11⟩ := blk12 hbE
  have z2 := free12 hbE 2
  have z3 := free12 hbE 3
  have z5 := free12 hbE 5
  have HE := hid (And.intro hc3 (And.intro hF hbE))
  clear hc3 hf3 hF hbE m0 m1 m4 m6 m7 m8 m9 m10 m11
  go_wp2_with fail
  go_end0
  obtain ⟨W, hW⟩ : ∃ W, W = (((w3.setCell ⟨h, 2, none⟩ (.int .i64 v1)).setCell ⟨h, 3, none⟩ (.int .u32 v2)).setCell ⟨h, 5, none⟩ (.int .i64 v3)) := ⟨_, rfl⟩
  have hbW : W.heap[h]? = some (.cells #[.int .i64 K, .int .u32 (U : Int), .int .i64 v1, .int .u32 v2, .int .i64 0, .int .i64 v3, .int .i64 0, .int .i64 0, .int .i64 0, .int .i64 0, .slice none 0 0, .slice none 0 0] 26 (0, 0)) := by rw [hW, (heap_set _ h 5 _ _ (.int .i64 v3) (heap_set _ h 3 _ _ (.int .u32 v2) (heap_set _ h 2 _ _ (.int .i64 v1) HE.out.2.2)))]; rfl
  have hfW : Fr (One h) w3 W := by rw [hW]; exact ((((Fr.refl (One h) w3).setCell (p := ⟨h, 2, none⟩) (fun _ => rfl) (.int .i64 v1)).setCell (p := ⟨h, 3, none⟩) (fun _ => rfl) (.int .u32 v2)).setCell (p := ⟨h, 5, none⟩) (fun _ => rfl) (.int .i64 v3))
  rw [← hW]
  have hcW : Cur L T W g o s3.p s3.e := HE.out.1.fr hfW (fun k h1 h2 e => by have e : k = h := e; omega)
  have hFW : Fr (Two g h) w W := HE.out.2.1.two.then (hfW.mono (fun k _ e => .inr e))
  rw [HS.out.1, HS.out.2]
  refine ⟨rfl, hcW, hFW, none, 0, 0, none, 0, 0, ?_, RM.none rfl rfl⟩
  rw [hbW]
  unfold mC
  simp only [toN v2 Hb2.out]
set_option maxRecDepth 100000 in
set_option maxHeartbeats 1600000 in
theorem rd2_calls {L T : Nat} (w : World) (g h : Nat) (o : List UInt8) (s : CS) (K : Int) (U : Nat) (hc : Cur L T w g o s.p s.e) (hb : w.heap[h]? = some (.cells #[.int .i64 K, .int .u32 (U : Int), .int .i64 0, .int .u32 0, .int .i64 0, .int .i64 0, .int .i64 0, .int .i64 0, .int .i64 0, .int .i64 0, .slice none 0 0, .slice none 0 0] 26 (0, 0))) (hh : h < L ∨ T ≤ h) (hK : K = 2) :
    Calls Try.prog 42 #[.pointer (some ⟨g, 0, none⟩), .pointer (some ⟨h, 0, none⟩)] w (RetR L T w g h o (rdS o K s) (rdMs o K U s)) := by
  obtain ⟨s1, hs1⟩ : ∃ x, x = nx o s 1 := ⟨_, rfl⟩
  obtain ⟨s2, hs2⟩ : ∃ x, x = nx o s1 4 := ⟨_, rfl⟩
  obtain ⟨s3, hs3⟩ : ∃ x, x = nx o s2 4 := ⟨_, rfl⟩
  obtain ⟨s4, hs4⟩ : ∃ x, x = nx o s3 4 := ⟨_, rfl⟩
  obtain ⟨s5, hs5⟩ : ∃ x, x = nx o s4 2 := ⟨_, rfl⟩
  obtain ⟨v1, hv1⟩ : ∃ x, x = nb o s 1 := ⟨_, rfl⟩
  obtain ⟨v2, hv2⟩ : ∃ x, x = nb o s1 4 := ⟨_, rfl⟩
  obtain ⟨v3, hv3⟩ : ∃ x, x = nb o s2 4 := ⟨_, rfl⟩
  obtain ⟨v4, hv4⟩ : ∃ x, x = nb o s3 4 := ⟨_, rfl⟩
  obtain ⟨v5, hv5⟩ : ∃ x, x = nb o s4 2 := ⟨_, rfl⟩
  have HS := hid (show rdS o K s = s5 ∧ rdMs o K U s = ⟨K, U, v1, v2.toNat, v3, v4, v5, 0, 0, 0, [], []⟩ by unfold rdS rdMs; rw [if_neg (show ¬ K = 1 by omega), if_neg (show ¬ K = 1 by omega)]; rw [if_pos hK, if_pos hK]; subst_vars; exact ⟨rfl, rfl⟩)
  have b2 : 0 ≤ v2 ∧ v2 < 4294967296 := by rw [hv2]; exact nb_bd _ _ _
  have c1_calls : ∀ W, Cur L T W g o s.p s.e → Calls Try.prog 29 #[.pointer (some ⟨g, 0, none⟩), .int .i64 1] W fun e w' => e = .returned (.int .i64 v1) ∧ Cur L T w' g o s1.p s1.e ∧ Fr (One g) W w' := fun W h => by rw [hv1, hs1]; exact cb_calls W g o s 1 h
  have c2_calls : ∀ W, Cur L T W g o s1.p s1.e → Calls Try.prog 29 #[.pointer (some ⟨g, 0, none⟩), .int .i64 4] W fun e w' => e = .returned (.int .i64 v2) ∧ Cur L T w' g o s2.p s2.e ∧ Fr (One g) W w' := fun W h => by rw [hv2, hs2]; exact cb_calls W g o s1 4 h
  have c3_calls : ∀ W, Cur L T W g o s2.p s2.e → Calls Try.prog 29 #[.pointer (some ⟨g, 0, none⟩), .int .i64 4] W fun e w' => e = .returned (.int .i64 v3) ∧ Cur L T w' g o s3.p s3.e ∧ Fr (One g) W w' := fun W h => by rw [hv3, hs3]; exact cb_calls W g o s2 4 h
  have c4_calls : ∀ W, Cur L T W g o s3.p s3.e → Calls Try.prog 29 #[.pointer (some ⟨g, 0, none⟩), .int .i64 4] W fun e w' => e = .returned (.int .i64 v4) ∧ Cur L T w' g o s4.p s4.e ∧ Fr (One g) W w' := fun W h => by rw [hv4, hs4]; exact cb_calls W g o s3 4 h
  have c5_calls : ∀ W, Cur L T W g o s4.p s4.e → Calls Try.prog 29 #[.pointer (some ⟨g, 0, none⟩), .int .i64 2] W fun e w' => e = .returned (.int .i64 v5) ∧ Cur L T w' g o s5.p s5.e ∧ Fr (One g) W w' := fun W h => by rw [hv5, hs5]; exact cb_calls W g o s4 2 h
  have hw2 : IntKind.u32.wrap v2 = v2 := wu32 v2 b2
  have hne : h ≠ g := by have := hc.gl; have := hc.gu; omega
  have HC := hid hc
  have HB := hid hb
  have C1 := hid c1_calls
  have C2 := hid c2_calls
  have C3 := hid c3_calls
  have C4 := hid c4_calls
  have C5 := hid c5_calls
  have Hb2 := hid b2
  clear hs1 hs2 hs3 hs4 hs5 hv1 hv2 hv3 hv4 hv5 hK hc hb c1_calls c2_calls c3_calls c4_calls c5_calls b2
  go_enter Try.func42, Try.ntmps42
  go_wp2_with fail
  refine (C1.out _ HC.out).mono ?_
  rintro e w1 ⟨rfl, hc1, hf1⟩
  have H1 := hid (And.intro hc1 hf1)
  clear hc1 hf1
  go_wp2_with fail
  refine (C2.out _ H1.out.1).mono ?_
  rintro e w2 ⟨rfl, hc2, hf2⟩
  have H2 := hid (And.intro hc2 (H1.out.2.then hf2))
  clear hc2 hf2
  go_wp2_with fail
  refine (C3.out _ H2.out.1).mono ?_
  rintro e w3 ⟨rfl, hc3, hf3⟩
  have H3 := hid (And.intro hc3 (H2.out.2.then hf3))
  clear hc3 hf3
  go_wp2_with fail
  refine (C4.out _ H3.out.1).mono ?_
  rintro e w4 ⟨rfl, hc4, hf4⟩
  have H4 := hid (And.intro hc4 (H3.out.2.then hf4))
  clear hc4 hf4
  go_wp2_with fail
  refine (C5.out _ H4.out.1).mono ?_
  rintro e w5 ⟨rfl, hc5, hf5⟩
  have hF := H4.out.2.then hf5
  have hbE := (hF.block h (Array.getElem?_eq_some_iff.1 HB.out).1 (fun e => hne e)).trans HB.out
  obtain ⟨m0, m1, m2, m3, m4, m5, m6, m7, m8, m9, m10, m11⟩ := blk12 hbE
  have z2 := free12 hbE 2
  have z3 := free12 hbE 3
  have z4 := free12 hbE 4
  have z5 := free12 hbE 5
  have z6 := free12 hbE 6
  have HE := hid (And.intro hc5 (And.intro hF hbE))
  clear hc5 hf5 hF hbE m0 m1 m7 m8 m9 m10 m11
  go_wp2_with fail
  go_end0
  obtain ⟨W, hW⟩ : ∃ W, W = (((((w5.setCell ⟨h, 2, none⟩ (.int .i64 v1)).setCell ⟨h, 3, none⟩ (.int .u32 v2)).setCell ⟨h, 4, none⟩ (.int .i64 v3)).setCell ⟨h, 5, none⟩ (.int .i64 v4)).setCell ⟨h, 6, none⟩ (.int .i64 v5)) := ⟨_, rfl⟩
  have hbW : W.heap[h]? = some (.cells #[.int .i64 K, .int .u32 (U : Int), .int .i64 v1, .int .u32 v2, .int .i64 v3, .int .i64 v4, .int .i64 v5, .int .i64 0, .int .i64 0, .int .i64 0, .slice none 0 0, .slice none 0 0] 26 (0, 0)) := by rw [hW, (heap_set _ h 6 _ _ (.int .i64 v5) (heap_set _ h 5 _ _ (.int .i64 v4) (heap_set _ h 4 _ _ (.int .i64 v3) (heap_set _ h 3 _ _ (.int .u32 v2) (heap_set _ h 2 _ _ (.int .i64 v1) HE.out.2.2)))))]; rfl
  have hfW : Fr (One h) w5 W := by rw [hW]; exact ((((((Fr.refl (One h) w5).setCell (p := ⟨h, 2, none⟩) (fun _ => rfl) (.int .i64 v1)).setCell (p := ⟨h, 3, none⟩) (fun _ => rfl) (.int .u32 v2)).setCell (p := ⟨h, 4, none⟩) (fun _ => rfl) (.int .i64 v3)).setCell (p := ⟨h, 5, none⟩) (fun _ => rfl) (.int .i64 v4)).setCell (p := ⟨h, 6, none⟩) (fun _ => rfl) (.int .i64 v5))
  rw [← hW]
  have hcW : Cur L T W g o s5.p s5.e := HE.out.1.fr hfW (fun k h1 h2 e => by have e : k = h := e; omega)
  have hFW : Fr (Two g h) w W := HE.out.2.1.two.then (hfW.mono (fun k _ e => .inr e))
  rw [HS.out.1, HS.out.2]
  refine ⟨rfl, hcW, hFW, none, 0, 0, none, 0, 0, ?_, RM.none rfl rfl⟩
  rw [hbW]
  unfold mC
  simp only [toN v2 Hb2.out]
set_option maxRecDepth 100000 in
set_option maxHeartbeats 1600000 in
theorem rd3_calls {L T : Nat} (w : World) (g h : Nat) (o : List UInt8) (s : CS) (K : Int) (U : Nat) (hc : Cur L T w g o s.p s.e) (hb : w.heap[h]? = some (.cells #[.int .i64 K, .int .u32 (U : Int), .int .i64 0, .int .u32 0, .int .i64 0, .int .i64 0, .int .i64 0, .int .i64 0, .int .i64 0, .int .i64 0, .slice none 0 0, .slice none 0 0] 26 (0, 0))) (hh : h < L ∨ T ≤ h) (hK : K = 3) :
    Calls Try.prog 44 #[.pointer (some ⟨g, 0, none⟩), .pointer (some ⟨h, 0, none⟩)] w (RetR L T w g h o (rdS o K s) (rdMs o K U s)) := by
  obtain ⟨s1, hs1⟩ : ∃ x, x = nx o s 4 := ⟨_, rfl⟩
  obtain ⟨s2, hs2⟩ : ∃ x, x = nx o s1 1 := ⟨_, rfl⟩
  obtain ⟨v1, hv1⟩ : ∃ x, x = nb o s 4 := ⟨_, rfl⟩
  obtain ⟨v2, hv2⟩ : ∃ x, x = nb o s1 1 := ⟨_, rfl⟩
  have HS := hid (show rdS o K s = bx o s2 (lf o s2) ∧ rdMs o K U s = ⟨K, U, 0, 0, 0, 0, 0, v1, v2, 0, [], bb o s2 (lf o s2)⟩ by unfold rdS rdMs; rw [if_neg (show ¬ K = 1 by omega), if_neg (show ¬ K = 1 by omega)]; rw [if_neg (show ¬ K = 2 by omega), if_neg (show ¬ K = 2 by omega)]; rw [if_pos hK, if_pos hK]; subst_vars; exact ⟨rfl, rfl⟩)
  have c1_calls : ∀ W, Cur L T W g o s.p s.e → Calls Try.prog 29 #[.pointer (some ⟨g, 0, none⟩), .int .i64 4] W fun e w' => e = .returned (.int .i64 v1) ∧ Cur L T w' g o s1.p s1.e ∧ Fr (One g) W w' := fun W h => by rw [hv1, hs1]; exact cb_calls W g o s 4 h
  have c2_calls : ∀ W, Cur L T W g o s1.p s1.e → Calls Try.prog 29 #[.pointer (some ⟨g, 0, none⟩), .int .i64 1] W fun e w' => e = .returned (.int .i64 v2) ∧ Cur L T w' g o s2.p s2.e ∧ Fr (One g) W w' := fun W h => by rw [hv2, hs2]; exact cb_calls W g o s1 1 h
  have hne : h ≠ g := by have := hc.gl; have := hc.gu; omega
  have HC := hid hc
  have HB := hid hb
  have C1 := hid c1_calls
  have C2 := hid c2_calls
  clear hs1 hs2 hv1 hv2 hK hc hb c1_calls c2_calls 
  go_enter Try.func44, Try.ntmps44
  go_wp2_with fail
  refine (C1.out _ HC.out).mono ?_
  rintro e w1 ⟨rfl, hc1, hf1⟩
  have H1 := hid (And.intro hc1 hf1)
  clear hc1 hf1
  go_wp2_with fail
  refine (C2.out _ H1.out.1).mono ?_
  rintro e w2 ⟨rfl, hc2, hf2⟩
  have hF := H1.out.2.then hf2
  have hbE := (hF.block h (Array.getElem?_eq_some_iff.1 HB.out).1 (fun e => hne e)).trans HB.out
  obtain ⟨m0, m1, m2, m3, m4, m5, m6, m7, m8, m9, m10, m11⟩ := blk12 hbE
  have z7 := free12 hbE 7
  have z8 := free12 hbE 8
  have HE := hid (And.intro hc2 (And.intro hF hbE))
  clear hc2 hf2 hF hbE m0 m1 m2 m3 m4 m5 m6 m9 m10 m11
  go_wp2_with fail
  obtain ⟨W, hW⟩ : ∃ W, W = ((w2.setCell ⟨h, 7, none⟩ (.int .i64 v1)).setCell ⟨h, 8, none⟩ (.int .i64 v2)) := ⟨_, rfl⟩
  have hbW : W.heap[h]? = some (.cells #[.int .i64 K, .int .u32 (U : Int), .int .i64 0, .int .u32 0, .int .i64 0, .int .i64 0, .int .i64 0, .int .i64 v1, .int .i64 v2, .int .i64 0, .slice none 0 0, .slice none 0 0] 26 (0, 0)) := by rw [hW, (heap_set _ h 8 _ _ (.int .i64 v2) (heap_set _ h 7 _ _ (.int .i64 v1) HE.out.2.2))]; rfl
  have hfW : Fr (One h) w2 W := by rw [hW]; exact (((Fr.refl (One h) w2).setCell (p := ⟨h, 7, none⟩) (fun _ => rfl) (.int .i64 v1)).setCell (p := ⟨h, 8, none⟩) (fun _ => rfl) (.int .i64 v2))
  rw [← hW]
  have hcW : Cur L T W g o s2.p s2.e := HE.out.1.fr hfW (fun k h1 h2 e => by have e : k = h := e; omega)
  have hFW : Fr (Two g h) w W := HE.out.2.1.two.then (hfW.mono (fun k _ e => .inr e))
  have HW := hid (And.intro hbW (And.intro hcW hFW))
  clear hbW hcW hFW hfW hW HE z7 m7 z8 m8
  go_wp2_with fail
  refine (left_calls W g o s2.p s2.e HW.out.2.1).mono ?_
  rintro e wl ⟨rfl, q, rfl⟩
  go_wp2_with fail
  refine (cbytes_calls (W.drewN q) g o s2.p s2.e (leftS o s2.p s2.e) (HW.out.2.1.drewN q)).mono ?_
  rintro e w9 ⟨v9, rfl, hnew, hc9, hf9⟩
  obtain ⟨A9, n9, c9, rfl, N9⟩ := hnew.use
  clear hnew
  have hb9 := (hf9.block h (Array.getElem?_eq_some_iff.1 HW.out.1).1 (fun e => hne e)).trans (show (W.drewN q).heap[h]? = _ from HW.out.1)
  have m11 := (blk12 hb9).2.2.2.2.2.2.2.2.2.2.2
  have z11 := free12 hb9 11
  have H9 := hid (And.intro hc9 (And.intro hf9 hb9))
  clear hc9 hf9 hb9
  go_wp2_with fail
  go_end0
  have hbX := heap_set _ h 11 _ _ (.slice A9 n9 c9) H9.out.2.2
  have hfX : Fr (One h) w9 (w9.setCell ⟨h, 11, none⟩ (.slice A9 n9 c9)) := Fr.set1 _ _ _ _
  have hsz := HW.out.2.2.size
  rw [HS.out.1, HS.out.2]
  obtain ⟨ob, hrow, hob⟩ := N9.out.2.2.2
  have hoh : ∀ ad, A9 = some ad → ad.block ≠ h ∧ w.heap.size ≤ ad.block := fun ad e => by
    have h1 := farOf N9.out.2.2.2 ad e
    have h2 : h < W.heap.size := (Array.getElem?_eq_some_iff.1 HW.out.1).1
    have h3 : (W.drewN q).heap.size = W.heap.size := rfl
    omega
  refine ⟨rfl, H9.out.1.fr hfX (fun k h1 h2 e => by have e : k = h := e; omega), (HW.out.2.2.drewN q).then (H9.out.2.1.two.then (hfX.mono (fun k _ e => .inr e))), none, 0, 0, A9, n9, c9, ?_, ?_⟩
  · rw [hbX]; rfl
  · exact ⟨rfl, N9.out.1, Cells.nil, N9.out.2.1.fr hfX (fun ad e e' => (hoh ad e).1 e'), Nat.le_refl _, N9.out.2.2.1, (fun _ h => by cases h), fun ad e => (hoh ad e).2⟩
set_option maxRecDepth 100000 in
set_option maxHeartbeats 1600000 in
theorem rd5_calls {L T : Nat} (w : World) (g h : Nat) (o : List UInt8) (s : CS) (K : Int) (U : Nat) (hc : Cur L T w g o s.p s.e) (hb : w.heap[h]? = some (.cells #[.int .i64 K, .int .u32 (U : Int), .int .i64 0, .int .u32 0, .int .i64 0, .int .i64 0, .int .i64 0, .int .i64 0, .int .i64 0, .int .i64 0, .slice none 0 0, .slice none 0 0] 26 (0, 0))) (hh : h < L ∨ T ≤ h) (hK : K = 5) :
    Calls Try.prog 49 #[.pointer (some ⟨g, 0, none⟩), .pointer (some ⟨h, 0, none⟩)] w (RetR L T w g h o (rdS o K s) (rdMs o K U s)) := by
  obtain ⟨s1, hs1⟩ : ∃ x, x = nx o s 1 := ⟨_, rfl⟩
  obtain ⟨s2, hs2⟩ : ∃ x, x = nx o s1 1 := ⟨_, rfl⟩
  obtain ⟨v1, hv1⟩ : ∃ x, x = nb o s 1 := ⟨_, rfl⟩
  obtain ⟨v2, hv2⟩ : ∃ x, x = nb o s1 1 := ⟨_, rfl⟩
  have HS := hid (show rdS o K s = s2 ∧ rdMs o K U s = ⟨K, U, v1, 0, 0, 0, 0, 0, 0, v2, [], []⟩ by unfold rdS rdMs; rw [if_neg (show ¬ K = 1 by omega), if_neg (show ¬ K = 1 by omega)]; rw [if_neg (show ¬ K = 2 by omega), if_neg (show ¬ K = 2 by omega)]; rw [if_neg (show ¬ K = 3 by omega), if_neg (show ¬ K = 3 by omega)]; rw [if_neg (show ¬ K = 4 by omega), if_neg (show ¬ K = 4 by omega)]; rw [if_pos hK, if_pos hK]; subst_vars; exact ⟨rfl, rfl⟩)
  have c1_calls : ∀ W, Cur L T W g o s.p s.e → Calls Try.prog 29 #[.pointer (some ⟨g, 0, none⟩), .int .i64 1] W fun e w' => e = .returned (.int .i64 v1) ∧ Cur L T w' g o s1.p s1.e ∧ Fr (One g) W w' := fun W h => by rw [hv1, hs1]; exact cb_calls W g o s 1 h
  have c2_calls : ∀ W, Cur L T W g o s1.p s1.e → Calls Try.prog 29 #[.pointer (some ⟨g, 0, none⟩), .int .i64 1] W fun e w' => e = .returned (.int .i64 v2) ∧ Cur L T w' g o s2.p s2.e ∧ Fr (One g) W w' := fun W h => by rw [hv2, hs2]; exact cb_calls W g o s1 1 h
  have hne : h ≠ g := by have := hc.gl; have := hc.gu; omega
  have HC := hid hc
  have HB := hid hb
  have C1 := hid c1_calls
  have C2 := hid c2_calls
  clear hs1 hs2 hv1 hv2 hK hc hb c1_calls c2_calls 
  go_enter Try.func49, Try.ntmps49
  go_wp2_with fail
  refine (C1.out _ HC.out).mono ?_
  rintro e w1 ⟨rfl, hc1, hf1⟩
  have H1 := hid (And.intro hc1 hf1)
  clear hc1 hf1
  go_wp2_with fail
  refine (C2.out _ H1.out.1).mono ?_
  rintro e w2 ⟨rfl, hc2, hf2⟩
  have hF := H1.out.2.then hf2
  have hbE := (hF.block h (Array.getElem?_eq_some_iff.1 HB.out).1 (fun e => hne e)).trans HB.out
  obtain ⟨m0, m1, m2, m3, m4, m5, m6, m7, m8, m9, m10, m11⟩ := blk12 hbE
  have z2 := free12 hbE 2
  have z9 := free12 hbE 9
  have HE := hid (And.intro hc2 (And.intro hF hbE))
  clear hc2 hf2 hF hbE m0 m1 m3 m4 m5 m6 m7 m8 m10 m11
  go_wp2_with fail
  go_end0
  obtain ⟨W, hW⟩ : ∃ W, W = ((w2.setCell ⟨h, 2, none⟩ (.int .i64 v1)).setCell ⟨h, 9, none⟩ (.int .i64 v2)) := ⟨_, rfl⟩
  have hbW : W.heap[h]? = some (.cells #[.int .i64 K, .int .u32 (U : Int), .int .i64 v1, .int .u32 0, .int .i64 0, .int .i64 0, .int .i64 0, .int .i64 0, .int .i64 0, .int .i64 v2, .slice none 0 0, .slice none 0 0] 26 (0, 0)) := by rw [hW, (heap_set _ h 9 _ _ (.int .i64 v2) (heap_set _ h 2 _ _ (.int .i64 v1) HE.out.2.2))]; rfl
  have hfW : Fr (One h) w2 W := by rw [hW]; exact (((Fr.refl (One h) w2).setCell (p := ⟨h, 2, none⟩) (fun _ => rfl) (.int .i64 v1)).setCell (p := ⟨h, 9, none⟩) (fun _ => rfl) (.int .i64 v2))
  rw [← hW]
  have hcW : Cur L T W g o s2.p s2.e := HE.out.1.fr hfW (fun k h1 h2 e => by have e : k = h := e; omega)
  have hFW : Fr (Two g h) w W := HE.out.2.1.two.then (hfW.mono (fun k _ e => .inr e))
  rw [HS.out.1, HS.out.2]
  refine ⟨rfl, hcW, hFW, none, 0, 0, none, 0, 0, ?_, RM.none rfl rfl⟩
  rw [hbW]
  unfold mC
  rfl
end Go.Proofs.Ytamkfjbdcjkchaa

/- The contract of head.Read. -/
import Derived.Test.YtkhglmmidgfliaaHead2
import Derived.Test.YtkhglmmidgfliaaOct
namespace Go.Proofs.Ytkhglmmidgfliaa
open Go.RowKit Go.Proofs.HK
set_option linter.unusedVariables false
set_option linter.unusedSimpArgs false
attribute [local go_sem] max2_int min2_int max_two min_two

theorem num_ok (bs : List UInt8) (p n : Nat) (h1 : 1 ≤ n) (h4 : n ≤ 4) (hp : p + n ≤ bs.length) : numB bs p 0 n = ((be ((bs.drop p).take n) : Nat) : Int) ∧ numP bs p 0 n = p + n ∧ numE bs p 0 n = 0 := by
  have hf : fitsS bs.length p n = 0 := by unfold fitsS; rw [if_neg (by omega), if_neg (by omega)]
  refine ⟨?_, ?_, ?_⟩
  · unfold numB bigS; rw [if_pos rfl, if_pos hf, if_pos hf, Int.toNat_natCast, Int.toNat_natCast]
  · unfold numP; rw [if_pos ⟨rfl, hf⟩, Int.toNat_natCast]
  · unfold numE; rw [if_pos rfl, hf]
/-- A cursor that has no error has moved on, and was inside. -/
theorem num_back (bs : List UInt8) (p : Nat) (er : Int) (n : Nat) (h1 : 1 ≤ n) (h : numE bs p er n = 0) : er = 0 ∧ numP bs p er n = p + n ∧ p + n ≤ bs.length := by
  unfold numE at h
  split at h
  · rename_i h0
    obtain ⟨_, _, _, h3⟩ := fitsS_0 h
    refine ⟨h0, ?_, by omega⟩
    unfold numP
    rw [if_pos ⟨h0, h⟩, Int.toNat_natCast]
  · rename_i h0
    exact absurd h h0

/-- What Read answers. -/
def rdOk (bs : List UInt8) : Prop := bs.length = 13 ∧ rdB bs 10 = 0 ∧ rdB bs 11 = 0 ∧ (rdB bs 12).toNat ≤ 1 ∧ mayS (be (bs.take 4)) (be ((bs.drop 4).take 4)) (rdB bs 9).toNat (rdB bs 8).toNat = true
instance (bs : List UInt8) : Decidable (rdOk bs) := by unfold rdOk; exact inferInstance
def rdV (bs : List UInt8) : Value := if rdOk bs then headV (be (bs.take 4)) (be ((bs.drop 4).take 4)) (rdB bs 9).toNat (rdB bs 8).toNat ((rdB bs 12).toNat == 1) else headV 0 0 0 0 false
def rdE (bs : List UInt8) : Int := if rdOk bs then 0 else 11

theorem res_head (W : World) (g : Nat) (a b c d : Int) (l : Bool) (hb : W.heap[g]? = some (.cells #[.int .i64 a, .int .i64 b, .int .i64 c, .int .i64 d, .bool l] 33 (0, 0))) :
    (Go.asAddr (Value.pointer (some ⟨g, 0, none⟩))).run Try.prog W = .ok ⟨g, 0, none⟩ W ∧ (Go.loadVar 33 ⟨g, 0, none⟩).run Try.prog W = .ok (headV a b c d l) W := by
  have c0 : W.cell? ⟨g, 0, none⟩ = some (.int .i64 a) := by simp [World.cell?, hb]
  have c1 : W.cell? ⟨g, 1, none⟩ = some (.int .i64 b) := by simp [World.cell?, hb]
  have c2 : W.cell? ⟨g, 2, none⟩ = some (.int .i64 c) := by simp [World.cell?, hb]
  have c3 : W.cell? ⟨g, 3, none⟩ = some (.int .i64 d) := by simp [World.cell?, hb]
  have c4 : W.cell? ⟨g, 4, none⟩ = some (.bool l) := by simp [World.cell?, hb]
  refine ⟨by simp [Go.asAddr], ?_⟩
  unfold Go.loadVar
  go_simp
  rfl
/-- What comes back, where the first result lies in a cell. -/
theorem ret_head {R : Ending → World → Prop} {W : World} {g : Nat} {x y z u : Int} {l : Bool} {er : Int} {a : Act} (hb : W.heap[g]? = some (.cells #[.int .i64 x, .int .i64 y, .int .i64 z, .int .i64 u, .bool l] 33 (0, 0)))
    (h2 : a.tmps.getD 2 undef = .pointer (some ⟨g, 0, none⟩)) (h3 : a.tmps.getD 3 undef = .int .i64 er) (hd : a.defers = []) (hR : R (.returned (.tuple #[headV x y z u l, .int .i64 er])) W) : bodyPost Try.prog Try.f43 R .ret a W := by
  refine bodyPost_ret (v := .tuple #[headV x y z u l, .int .i64 er]) ?_ hd hR
  have hr := res_head W g x y z u l hb
  have hres : Try.f43.results = #[.cell 2 33, .tmp 3] := rfl
  have h2' : a.tmps[2]?.getD undef = .pointer (some ⟨g, 0, none⟩) := by simpa using h2
  have h3' : a.tmps[3]?.getD undef = .int .i64 er := by simpa using h3
  simp [results, hres, h2', h3', hr.1, hr.2]
theorem blk5 {W : World} {g : Nat} {v0 v1 v2 v3 v4 : Value} {t : TypeId} (hb : W.heap[g]? = some (.cells #[v0, v1, v2, v3, v4] t (0, 0))) :
    W.cell? ⟨g, 0, none⟩ = some v0 ∧ W.cell? ⟨g, 1, none⟩ = some v1 ∧ W.cell? ⟨g, 2, none⟩ = some v2 ∧ W.cell? ⟨g, 3, none⟩ = some v3 ∧ W.cell? ⟨g, 4, none⟩ = some v4 ∧
    W.frozen? ⟨g, 0, none⟩ = false ∧ W.frozen? ⟨g, 1, none⟩ = false ∧ W.frozen? ⟨g, 2, none⟩ = false ∧ W.frozen? ⟨g, 3, none⟩ = false ∧ W.frozen? ⟨g, 4, none⟩ = false := by
  simp [World.cell?, World.frozen?, hb]
theorem set5 {w W : World} (h : Fr No w W) (a b c d e : Value) : Fr No w (((((W.setCell ⟨w.heap.size, 0, none⟩ a).setCell ⟨w.heap.size, 1, none⟩ b).setCell ⟨w.heap.size, 2, none⟩ c).setCell ⟨w.heap.size, 3, none⟩ d).setCell ⟨w.heap.size, 4, none⟩ e) := by
  have hs : ∀ k, k < w.heap.size → One w.heap.size k → No k := fun k hk e => by have e : k = w.heap.size := e; omega
  exact ((((h.trans (Fr.set1 _ _ _ _) hs).trans (Fr.set1 _ _ _ _) hs).trans (Fr.set1 _ _ _ _) hs).trans (Fr.set1 _ _ _ _) hs).trans (Fr.set1 _ _ _ _) hs
theorem be_one (bs : List UInt8) (k : Nat) (h : k < bs.length) : be ((bs.drop k).take 1) = (rdB bs k).toNat := by
  have := take_snocB (bs.drop k) 0 (by rw [List.length_drop]; omega)
  rw [show 0 + 1 = 1 from rfl, List.take_zero, List.nil_append, rdB_drop, Nat.add_zero] at this
  rw [this]; simp [be, beN]
theorem be_two (bs : List UInt8) (k : Nat) (h : k + 1 < bs.length) : be ((bs.drop k).take 2) = (rdB bs k).toNat * 256 + (rdB bs (k + 1)).toNat := by
  have := take_snocB (bs.drop k) 1 (by rw [List.length_drop]; omega)
  rw [show 1 + 1 = 2 from rfl, rdB_drop] at this
  rw [this, be_snoc, be_one bs k (by omega)]
theorem be_10 (bs : List UInt8) (h : 11 < bs.length) : be ((bs.drop 10).take 2) = (rdB bs 10).toNat * 256 + (rdB bs 11).toNat := be_two bs 10 h
theorem beq_cast (r : Nat) : ((r : Int) == 1) = (r == 1) := by
  by_cases e : r = 1
  · subst e; rfl
  · have h1 : ((r : Int) == 1) = false := by rw [beq_eq_false_iff_ne]; omega
    have h2 : (r == 1) = false := by rw [beq_eq_false_iff_ne]; omega
    rw [h1, h2]
theorem rd_bad {bs : List UInt8} (h : ¬ rdOk bs) : rdV bs = headV 0 0 0 0 false ∧ rdE bs = 11 := ⟨if_neg h, if_neg h⟩
theorem rd_good {bs : List UInt8} (h : rdOk bs) : rdV bs = headV (be (bs.take 4)) (be ((bs.drop 4).take 4)) (rdB bs 9).toNat (rdB bs 8).toNat ((rdB bs 12).toNat == 1) ∧ rdE bs = 0 := ⟨if_pos h, if_pos h⟩
/-- The whole chain: where no call has failed, the numbers are these. -/
theorem rd_chain {bs : List UInt8} {V1 V2 V3 V4 V5 V6 e1 e2 e3 e4 e5 e6 : Int} {p1 p2 p3 p4 p5 p6 : Nat} (h1 : V1 = numB bs 0 0 4 ∧ p1 = numP bs 0 0 4 ∧ e1 = numE bs 0 0 4) (h2 : V2 = numB bs p1 e1 4 ∧ p2 = numP bs p1 e1 4 ∧ e2 = numE bs p1 e1 4)
    (h3 : V3 = numB bs p2 e2 1 ∧ p3 = numP bs p2 e2 1 ∧ e3 = numE bs p2 e2 1) (h4 : V4 = numB bs p3 e3 1 ∧ p4 = numP bs p3 e3 1 ∧ e4 = numE bs p3 e3 1) (h5 : V5 = numB bs p4 e4 2 ∧ p5 = numP bs p4 e4 2 ∧ e5 = numE bs p4 e4 2) (h6 : V6 = numB bs p5 e5 1 ∧ p6 = numP bs p5 e5 1 ∧ e6 = numE bs p5 e5 1) :
    (e6 = 0 → p6 = 13 ∧ 13 ≤ bs.length ∧ V1 = (be (bs.take 4) : Nat) ∧ V2 = (be ((bs.drop 4).take 4) : Nat) ∧ V3 = (be ((bs.drop 8).take 1) : Nat) ∧ V4 = (be ((bs.drop 9).take 1) : Nat) ∧ V5 = (be ((bs.drop 10).take 2) : Nat) ∧ V6 = (be ((bs.drop 12).take 1) : Nat)) ∧ (13 ≤ bs.length → e6 = 0) := by
  obtain ⟨a1, b1, c1⟩ := h1
  obtain ⟨a2, b2, c2⟩ := h2
  obtain ⟨a3, b3, c3⟩ := h3
  obtain ⟨a4, b4, c4⟩ := h4
  obtain ⟨a5, b5, c5⟩ := h5
  obtain ⟨a6, b6, c6⟩ := h6
  have good : 13 ≤ bs.length → (e6 = 0 ∧ p6 = 13 ∧ V1 = (be (bs.take 4) : Nat) ∧ V2 = (be ((bs.drop 4).take 4) : Nat) ∧ V3 = (be ((bs.drop 8).take 1) : Nat) ∧ V4 = (be ((bs.drop 9).take 1) : Nat) ∧ V5 = (be ((bs.drop 10).take 2) : Nat) ∧ V6 = (be ((bs.drop 12).take 1) : Nat)) := fun hl => by
    obtain ⟨x1, y1, z1⟩ := num_ok bs 0 4 (by omega) (by omega) (by omega)
    have x1' : numB bs 0 0 4 = _ := x1
    have y1' : numP bs 0 0 4 = _ := y1
    have z1' : numE bs 0 0 4 = _ := z1
    rw [x1'] at a1; rw [y1'] at b1; rw [z1'] at c1
    obtain rfl : p1 = 4 := b1
    subst c1
    obtain ⟨x2, y2, z2⟩ := num_ok bs 4 4 (by omega) (by omega) (by omega)
    have x2' : numB bs 4 0 4 = _ := x2
    have y2' : numP bs 4 0 4 = _ := y2
    have z2' : numE bs 4 0 4 = _ := z2
    rw [x2'] at a2; rw [y2'] at b2; rw [z2'] at c2
    obtain rfl : p2 = 8 := b2
    subst c2
    obtain ⟨x3, y3, z3⟩ := num_ok bs 8 1 (by omega) (by omega) (by omega)
    have x3' : numB bs 8 0 1 = _ := x3
    have y3' : numP bs 8 0 1 = _ := y3
    have z3' : numE bs 8 0 1 = _ := z3
    rw [x3'] at a3; rw [y3'] at b3; rw [z3'] at c3
    obtain rfl : p3 = 9 := b3
    subst c3
    obtain ⟨x4, y4, z4⟩ := num_ok bs 9 1 (by omega) (by omega) (by omega)
    have x4' : numB bs 9 0 1 = _ := x4
    have y4' : numP bs 9 0 1 = _ := y4
    have z4' : numE bs 9 0 1 = _ := z4
    rw [x4'] at a4; rw [y4'] at b4; rw [z4'] at c4
    obtain rfl : p4 = 10 := b4
    subst c4
    obtain ⟨x5, y5, z5⟩ := num_ok bs 10 2 (by omega) (by omega) (by omega)
    have x5' : numB bs 10 0 2 = _ := x5
    have y5' : numP bs 10 0 2 = _ := y5
    have z5' : numE bs 10 0 2 = _ := z5
    rw [x5'] at a5; rw [y5'] at b5; rw [z5'] at c5
    obtain rfl : p5 = 12 := b5
    subst c5
    obtain ⟨x6, y6, z6⟩ := num_ok bs 12 1 (by omega) (by omega) (by omega)
    have x6' : numB bs 12 0 1 = _ := x6
    have y6' : numP bs 12 0 1 = _ := y6
    have z6' : numE bs 12 0 1 = _ := z6
    rw [x6'] at a6; rw [y6'] at b6; rw [z6'] at c6
    rw [List.drop_zero] at a1
    exact ⟨c6, b6, a1, a2, a3, a4, a5, a6⟩
  refine ⟨fun h => ?_, fun h => (good h).1⟩
  have hl : 13 ≤ bs.length := by
    obtain ⟨h5', y6, l6⟩ := num_back bs p5 e5 1 (by omega) (c6.symm.trans h)
    obtain ⟨h4', y5, l5⟩ := num_back bs p4 e4 2 (by omega) (c5.symm.trans h5')
    obtain ⟨h3', y4, l4⟩ := num_back bs p3 e3 1 (by omega) (c4.symm.trans h4')
    obtain ⟨h2', y3, l3⟩ := num_back bs p2 e2 1 (by omega) (c3.symm.trans h3')
    obtain ⟨h1', y2, l2⟩ := num_back bs p1 e1 4 (by omega) (c2.symm.trans h2')
    obtain ⟨_, y1, l1⟩ := num_back bs 0 0 4 (by omega) (c1.symm.trans h1')
    have e1 : p1 = 4 := b1.trans y1
    have e2 : p2 = p1 + 4 := b2.trans y2
    have e3 : p3 = p2 + 1 := b3.trans y3
    have e4 : p4 = p3 + 1 := b4.trans y4
    have e5 : p5 = p4 + 2 := b5.trans y5
    omega
  obtain ⟨_, h2⟩ := good hl
  exact ⟨h2.1, hl, h2.2⟩
theorem take13 (bs : List UInt8) (h : bs.length = 13) : ∃ a0 a1 a2 a3 a4 a5 a6 a7 a8 a9 a10 a11 a12, bs = [a0, a1, a2, a3, a4, a5, a6, a7, a8, a9, a10, a11, a12] := by
  match bs, h with
  | [a0, a1, a2, a3, a4, a5, a6, a7, a8, a9, a10, a11, a12], _ => exact ⟨_, _, _, _, _, _, _, _, _, _, _, _, _, rfl⟩

set_option maxRecDepth 100000 in
set_option maxHeartbeats 1600000 in
theorem read_calls (A : Option Addr) (bs : List UInt8) (n0 c : Nat) (hn0 : bs.length = n0) (w : World) (hr : Rd B w A bs) (hl : n0 ≤ 140737488355328) :
    Calls Try.prog 43 #[.slice A n0 c] w fun e w' => e = .returned (.tuple #[rdV bs, .int .i64 (rdE bs)]) ∧ Fr No w w' := by
  have HR := hid (And.intro hn0 hr)
  clear hn0 hr
  go_enter Try.func43, Try.ntmps43
  go_wp2_with fail
  obtain ⟨wA, hwA⟩ : ∃ wA, wA = w.alloc (.cells #[.int .i64 0, .int .i64 0, .int .i64 0, .int .i64 0, .bool false] 33) := ⟨_, rfl⟩
  have hfA : Fr No w wA := by rw [hwA]; exact (Fr.refl _ _).alloc _
  have hbR : wA.heap[w.heap.size]? = some (.cells #[.int .i64 0, .int .i64 0, .int .i64 0, .int .i64 0, .bool false] 33 (0, 0)) := by rw [hwA]; exact heap_new _ _
  have hsA : wA.heap.size = w.heap.size + 1 := by rw [hwA, World.size_alloc]
  rw [← hwA]
  have HA := hid (And.intro hfA hbR)
  clear hwA hfA hbR
  refine (new_calls _ _ _ _ HR.out.1 _ (HR.out.2.fr0 HA.out.1) (by rw [HR.out.1]; exact hl)).mono ?_
  rintro e w1 ⟨g, rfl, hc, hf⟩
  have hg := hc.gl
  have hgu := hc.gu
  have H1 := hid (And.intro hc hf)
  clear hc hf
  go_wp2_with fail
  refine (cbig_calls _ _ _ _ _ 4 H1.out.1).mono ?_
  obtain ⟨V1, hV1⟩ : ∃ x, x = numB bs 0 0 4 := ⟨_, rfl⟩
  obtain ⟨p1, hp1⟩ : ∃ x, x = numP bs 0 0 4 := ⟨_, rfl⟩
  obtain ⟨e1, he1⟩ : ∃ x, x = numE bs 0 0 4 := ⟨_, rfl⟩
  rw [← hV1, ← hp1, ← he1]
  have HC1 := hid (And.intro hV1 (And.intro hp1 he1))
  clear hV1 hp1 he1
  rintro e w2 ⟨rfl, hc, hf⟩
  have hz2 := hf.size
  have H2 := hid (And.intro hc (H1.out.2.trans hf (fun k hk (e : k = g) => by omega)))
  clear hc hf H1
  go_wp2_with fail
  refine (cbig_calls _ _ _ _ _ 4 H2.out.1).mono ?_
  obtain ⟨V2, hV2⟩ : ∃ x, x = numB bs p1 e1 4 := ⟨_, rfl⟩
  obtain ⟨p2, hp2⟩ : ∃ x, x = numP bs p1 e1 4 := ⟨_, rfl⟩
  obtain ⟨e2, he2⟩ : ∃ x, x = numE bs p1 e1 4 := ⟨_, rfl⟩
  rw [← hV2, ← hp2, ← he2]
  have HC2 := hid (And.intro hV2 (And.intro hp2 he2))
  clear hV2 hp2 he2
  rintro e w3 ⟨rfl, hc, hf⟩
  have hz3 := hf.size
  have H3 := hid (And.intro hc (H2.out.2.trans hf (fun k hk (e : k = g) => by omega)))
  clear hc hf H2
  go_wp2_with fail
  refine (cbig_calls _ _ _ _ _ 1 H3.out.1).mono ?_
  obtain ⟨V3, hV3⟩ : ∃ x, x = numB bs p2 e2 1 := ⟨_, rfl⟩
  obtain ⟨p3, hp3⟩ : ∃ x, x = numP bs p2 e2 1 := ⟨_, rfl⟩
  obtain ⟨e3, he3⟩ : ∃ x, x = numE bs p2 e2 1 := ⟨_, rfl⟩
  rw [← hV3, ← hp3, ← he3]
  have HC3 := hid (And.intro hV3 (And.intro hp3 he3))
  clear hV3 hp3 he3
  rintro e w4 ⟨rfl, hc, hf⟩
  have hz4 := hf.size
  have H4 := hid (And.intro hc (H3.out.2.trans hf (fun k hk (e : k = g) => by omega)))
  clear hc hf H3
  go_wp2_with fail
  refine (cbig_calls _ _ _ _ _ 1 H4.out.1).mono ?_
  obtain ⟨V4, hV4⟩ : ∃ x, x = numB bs p3 e3 1 := ⟨_, rfl⟩
  obtain ⟨p4, hp4⟩ : ∃ x, x = numP bs p3 e3 1 := ⟨_, rfl⟩
  obtain ⟨e4, he4⟩ : ∃ x, x = numE bs p3 e3 1 := ⟨_, rfl⟩
  rw [← hV4, ← hp4, ← he4]
  have HC4 := hid (And.intro hV4 (And.intro hp4 he4))
  clear hV4 hp4 he4
  rintro e w5 ⟨rfl, hc, hf⟩
  have hz5 := hf.size
  have H5 := hid (And.intro hc (H4.out.2.trans hf (fun k hk (e : k = g) => by omega)))
  clear hc hf H4
  go_wp2_with fail
  obtain ⟨W6, hW6⟩ : ∃ W6, W6 = w5.alloc (.cells #[.int .i64 V1, .int .i64 V2, .int .i64 V4, .int .i64 V3, .bool false] 33) := ⟨_, rfl⟩
  have hf6 : Fr No w5 W6 := by rw [hW6]; exact (Fr.refl _ _).alloc _
  have hbH : W6.heap[w5.heap.size]? = some (.cells #[.int .i64 V1, .int .i64 V2, .int .i64 V4, .int .i64 V3, .bool false] 33 (0, 0)) := by rw [hW6]; exact heap_new _ _
  rw [← hW6]
  obtain ⟨gh, hgh⟩ : ∃ gh, gh = w5.heap.size := ⟨_, rfl⟩
  have hgw : g < gh := by have := H5.out.1.lt; omega
  have hw1 : w1.heap.size ≤ gh := by omega
  rw [← hgh] at hbH ⊢
  have hRh : w.heap.size < gh := by omega
  have hsh : gh < W6.heap.size := (Array.getElem?_eq_some_iff.1 hbH).1
  have H6 := hid (And.intro (H5.out.1.fr hf6 (fun _ _ _ h => h)) (And.intro (H5.out.2.then hf6) hbH))
  clear hW6 hf6 hbH hgh H5
  refine (cbig_calls _ _ _ _ _ 2 H6.out.1).mono ?_
  obtain ⟨V5, hV5⟩ : ∃ x, x = numB bs p4 e4 2 := ⟨_, rfl⟩
  obtain ⟨p5, hp5⟩ : ∃ x, x = numP bs p4 e4 2 := ⟨_, rfl⟩
  obtain ⟨e5, he5⟩ : ∃ x, x = numE bs p4 e4 2 := ⟨_, rfl⟩
  rw [← hV5, ← hp5, ← he5]
  have HC5 := hid (And.intro hV5 (And.intro hp5 he5))
  clear hV5 hp5 he5
  rintro e w7 ⟨rfl, hc, hf⟩
  have hs7 := hf.size
  have H7 := hid (And.intro hc (And.intro (H6.out.2.1.trans hf (fun k hk (e : k = g) => by omega)) ((hf.block gh hsh (fun (e : gh = g) => by omega)).trans H6.out.2.2)))
  clear hc hf H6
  go_wp2_with fail
  refine (cbig_calls _ _ _ _ _ 1 H7.out.1).mono ?_
  obtain ⟨V6, hV6⟩ : ∃ x, x = numB bs p5 e5 1 := ⟨_, rfl⟩
  obtain ⟨p6, hp6⟩ : ∃ x, x = numP bs p5 e5 1 := ⟨_, rfl⟩
  obtain ⟨e6, he6⟩ : ∃ x, x = numE bs p5 e5 1 := ⟨_, rfl⟩
  rw [← hV6, ← hp6, ← he6]
  have HC6 := hid (And.intro hV6 (And.intro hp6 he6))
  clear hV6 hp6 he6
  rintro e w8 ⟨rfl, hc, hf⟩
  have hb8 := (hf.block gh (by omega) (fun (e : gh = g) => by omega)).trans H7.out.2.2
  have H8 := hid (And.intro hc (And.intro (H7.out.2.1.trans hf (fun k hk (e : k = g) => by omega)) hb8))
  clear hc hf H7
  have hbR8 := (H8.out.2.1.block w.heap.size (by omega) (fun h => h)).trans HA.out.2
  have hgl8 := H8.out.1.lt
  have hs8 : gh < w8.heap.size := (Array.getElem?_eq_some_iff.1 hb8).1
  obtain ⟨lb, hlb⟩ : ∃ lb, lb = (V6 == 1) := ⟨_, rfl⟩
  have q4 : w8.cell? ⟨gh, 4, none⟩ = some (.bool false) := by simp [World.cell?, hb8]
  have f4 : w8.frozen? ⟨gh, 4, none⟩ = false := by simp [World.frozen?, hb8]
  have r0 : ∀ u, (w8.setCell ⟨gh, 4, none⟩ u).heap[gh]? = some (.cells #[.int .i64 V1, .int .i64 V2, .int .i64 V4, .int .i64 V3, u] 33 (0, 0)) := fun u => heap_set w8 gh 4 _ _ u hb8
  have HB := hid (And.intro hb8 (And.intro hbR8 (And.intro r0 hlb)))
  clear hb8 hbR8 r0
  have hlb' := hlb.symm
  clear hlb
  go_wp2_with fail
  obtain ⟨W9, hW9⟩ : ∃ W9, W9 = w8.setCell ⟨gh, 4, none⟩ (.bool lb) := ⟨_, rfl⟩
  have hb9 : W9.heap[gh]? = some (.cells #[.int .i64 V1, .int .i64 V2, .int .i64 V4, .int .i64 V3, .bool lb] 33 (0, 0)) := by rw [hW9]; exact HB.out.2.2.1 _
  have hf9 : Fr (One gh) w8 W9 := by rw [hW9]; exact Fr.set1 _ _ _ _
  have hbR9 := (hf9.block w.heap.size (by omega) (fun (e : w.heap.size = gh) => by omega)).trans HB.out.2.1
  have h90 : W9.cell? ⟨gh, 0, none⟩ = some (.int .i64 V1) := by simp [World.cell?, hb9]
  have h91 : W9.cell? ⟨gh, 1, none⟩ = some (.int .i64 V2) := by simp [World.cell?, hb9]
  have h92 : W9.cell? ⟨gh, 2, none⟩ = some (.int .i64 V4) := by simp [World.cell?, hb9]
  have h93 : W9.cell? ⟨gh, 3, none⟩ = some (.int .i64 V3) := by simp [World.cell?, hb9]
  have h94 : W9.cell? ⟨gh, 4, none⟩ = some (.bool lb) := by simp [World.cell?, hb9]
  have rc0 : W9.cell? ⟨w.heap.size, 0, none⟩ = some (.int .i64 0) := by simp [World.cell?, hbR9]
  have rf0 : W9.frozen? ⟨w.heap.size, 0, none⟩ = false := by simp [World.frozen?, hbR9]
  have rc1 : W9.cell? ⟨w.heap.size, 1, none⟩ = some (.int .i64 0) := by simp [World.cell?, hbR9]
  have rf1 : W9.frozen? ⟨w.heap.size, 1, none⟩ = false := by simp [World.frozen?, hbR9]
  have rc2 : W9.cell? ⟨w.heap.size, 2, none⟩ = some (.int .i64 0) := by simp [World.cell?, hbR9]
  have rf2 : W9.frozen? ⟨w.heap.size, 2, none⟩ = false := by simp [World.frozen?, hbR9]
  have rc3 : W9.cell? ⟨w.heap.size, 3, none⟩ = some (.int .i64 0) := by simp [World.cell?, hbR9]
  have rf3 : W9.frozen? ⟨w.heap.size, 3, none⟩ = false := by simp [World.frozen?, hbR9]
  have rc4 : W9.cell? ⟨w.heap.size, 4, none⟩ = some (.bool false) := by simp [World.cell?, hbR9]
  have rf4 : W9.frozen? ⟨w.heap.size, 4, none⟩ = false := by simp [World.frozen?, hbR9]
  have hsR : w.heap.size < W9.heap.size := (Array.getElem?_eq_some_iff.1 hbR9).1
  have hF9 : Fr No wA W9 := H8.out.2.1.trans hf9 (fun k hk (e : k = gh) => by omega)
  have hC9 : Cur wA.heap.size w1.heap.size W9 g bs p6 e6 := H8.out.1.fr hf9 (fun k _ h (e : k = gh) => by omega)
  have HB9 := hid (And.intro hbR9 (And.intro hC9 hF9))
  have HBG := hid hb9
  have hbD : ∀ m, (W9.drewN m).heap[w.heap.size]? = some (.cells #[.int .i64 0, .int .i64 0, .int .i64 0, .int .i64 0, .bool false] 33 (0, 0)) := fun m => hbR9
  have HBD := hid hbD
  clear hbD
  have hghl : gh < W9.heap.size := (Array.getElem?_eq_some_iff.1 hb9).1
  clear hF9 hC9
  rw [← hW9]
  have HLB := hid hlb'.symm
  clear hW9 hb9 hf9 hbR9 q4 f4 HB H8 hlb'
  refine (err_calls _ _ _ _ _ HB9.out.2.1).mono ?_
  rintro e w' ⟨rfl, rfl⟩
  by_cases h6 : e6 = 0
  · have b6 : (e6 != 0) = false := by simp [h6]
    subst h6
    obtain ⟨hp, hl13, x1, x2, x3, x4, x5, x6⟩ := (rd_chain HC1.out HC2.out HC3.out HC4.out HC5.out HC6.out).1 rfl
    subst hp
    have HX := hid (And.intro x1 (And.intro x2 (And.intro x3 (And.intro x4 (And.intro x5 x6)))))
    clear x1 x2 x3 x4 x5 x6
    have hlen := HR.out.1
    by_cases hlt : 13 < n0
    · have hbad : ¬ rdOk bs := fun h => by have := h.1; omega
      have HBAD := hid hbad
      have hleft : leftS bs 13 0 = ((n0 - 13 : Nat) : Int) := by unfold leftS; rw [if_pos rfl, hlen]
      have hgt : (0 : Int) < ((n0 - 13 : Nat) : Int) := by omega
      clear hbad hlen hl13
      go_wp2_with (go_at_call 58; refine (left_calls _ _ _ _ _ HB9.out.2.1).mono ?_; rw [hleft]; rintro e w' ⟨rfl, nq, rfl⟩)
      refine ret_head (x := 0) (y := 0) (z := 0) (u := 0) (l := false) (er := 11) ?_ rfl rfl rfl ?_
      · rw [heap_set _ _ _ _ _ _ (heap_set _ _ _ _ _ _ (heap_set _ _ _ _ _ _ (heap_set _ _ _ _ _ _ (heap_set _ _ _ _ _ _ (HBD.out nq)))))]; rfl
      · rw [(rd_bad HBAD.out).1, (rd_bad HBAD.out).2]
        exact ⟨rfl, set5 ((HA.out.1.then HB9.out.2.2).drewN nq) _ _ _ _ _⟩
    · have h13 : bs.length = 13 := by omega
      have hleft : leftS bs 13 0 = 0 := by unfold leftS; rw [if_pos rfl, h13]; rfl
      have H13 := hid h13
      clear hlen hl13 hlt h13
      by_cases hz : V5 = 0
      · have bz : (V5 != 0) = false := by simp [hz]
        by_cases h61 : 1 < V6
        · have hbad : ¬ rdOk bs := fun h => by
            have := HX.out.2.2.2.2.2
            rw [be_one bs 12 (by rw [h.1]; omega)] at this
            have := h.2.2.2.1
            omega
          have HBAD := hid hbad
          have HZ := hid hz
          clear hbad hz
          go_wp2_with (go_at_call 58; refine (left_calls _ _ _ _ _ HB9.out.2.1).mono ?_; rw [hleft]; rintro e w' ⟨rfl, nq, rfl⟩)
          refine ret_head (x := 0) (y := 0) (z := 0) (u := 0) (l := false) (er := 11) ?_ rfl rfl rfl ?_
          · rw [heap_set _ _ _ _ _ _ (heap_set _ _ _ _ _ _ (heap_set _ _ _ _ _ _ (heap_set _ _ _ _ _ _ (heap_set _ _ _ _ _ _ (HBD.out nq)))))]; rfl
          · rw [(rd_bad HBAD.out).1, (rd_bad HBAD.out).2]
            exact ⟨rfl, set5 ((HA.out.1.then HB9.out.2.2).drewN nq) _ _ _ _ _⟩
        · have h61' : V6 ≤ 1 := by omega
          have HZ := hid (And.intro hz h61')
          clear hz h61
          cases hm : mayS V1 V2 V4 V3 with
          | false =>
            have hbad : ¬ rdOk bs := fun h => by
              have h5 := h.2.2.2.2
              obtain ⟨x1, x2, x3, x4, _⟩ := HX.out
              rw [be_one bs 8 (by rw [h.1]; omega)] at x3
              rw [be_one bs 9 (by rw [h.1]; omega)] at x4
              rw [x1, x2, x3, x4, h5] at hm
              cases hm
            have HBAD := hid hbad
            clear hbad
            go_wp2_with (first
              | (go_at_call 58; refine (left_calls _ _ _ _ _ HB9.out.2.1).mono ?_; rw [hleft]; rintro e w' ⟨rfl, nq, rfl⟩)
              | (go_at_call 28; refine (may_calls V1 V2 V4 V3 lb _).mono ?_; rw [hm]; rintro e wM ⟨rfl, hfm⟩; have hbM := (hfm.block w.heap.size hsR (fun h => h)).trans HB9.out.1; obtain ⟨m0, m1, m2, m3, m4, n0', n1', n2', n3', n4'⟩ := blk5 hbM; obtain ⟨k0, k1, k2, k3, k4, _, _, _, _, _⟩ := blk5 ((hfm.block gh hghl (fun h => h)).trans HBG.out); have HM := hid (And.intro hbM ((HA.out.1.then (HB9.out.2.2.drewN nq)).then hfm)); clear hfm hbM))
            refine ret_head (x := 0) (y := 0) (z := 0) (u := 0) (l := false) (er := 11) ?_ rfl rfl rfl ?_
            · rw [heap_set _ _ _ _ _ _ (heap_set _ _ _ _ _ _ (heap_set _ _ _ _ _ _ (heap_set _ _ _ _ _ _ (heap_set _ _ _ _ _ _ HM.out.1))))]; rfl
            · rw [(rd_bad HBAD.out).1, (rd_bad HBAD.out).2]
              exact ⟨rfl, set5 (HM.out.2) _ _ _ _ _⟩
          | true =>
            have hgood : rdOk bs := by
              obtain ⟨x1, x2, x3, x4, x5, x6⟩ := HX.out
              rw [be_one bs 8 (by rw [H13.out]; omega)] at x3
              rw [be_one bs 9 (by rw [H13.out]; omega)] at x4
              rw [be_one bs 12 (by rw [H13.out]; omega)] at x6
              rw [be_10 bs (by rw [H13.out]; omega)] at x5
              have hz1 := HZ.out
              rw [x1, x2, x3, x4] at hm
              refine ⟨H13.out, ?_, ?_, by omega, hm⟩
              · exact UInt8.toNat_inj.1 (by show (rdB bs 10).toNat = 0; omega)
              · exact UInt8.toNat_inj.1 (by show (rdB bs 11).toNat = 0; omega)
            have HG := hid hgood
            clear hgood
            go_wp2_with (first
              | (go_at_call 58; refine (left_calls _ _ _ _ _ HB9.out.2.1).mono ?_; rw [hleft]; rintro e w' ⟨rfl, nq, rfl⟩)
              | (go_at_call 28; refine (may_calls V1 V2 V4 V3 lb _).mono ?_; rw [hm]; rintro e wM ⟨rfl, hfm⟩; have hbM := (hfm.block w.heap.size hsR (fun h => h)).trans HB9.out.1; obtain ⟨m0, m1, m2, m3, m4, n0', n1', n2', n3', n4'⟩ := blk5 hbM; obtain ⟨k0, k1, k2, k3, k4, _, _, _, _, _⟩ := blk5 ((hfm.block gh hghl (fun h => h)).trans HBG.out); have HM := hid (And.intro hbM ((HA.out.1.then (HB9.out.2.2.drewN nq)).then hfm)); clear hfm hbM))
            refine ret_head (x := V1) (y := V2) (z := V4) (u := V3) (l := lb) (er := 0) ?_ rfl rfl rfl ?_
            · rw [heap_set _ _ _ _ _ _ (heap_set _ _ _ _ _ _ (heap_set _ _ _ _ _ _ (heap_set _ _ _ _ _ _ (heap_set _ _ _ _ _ _ HM.out.1))))]; rfl
            · refine ⟨?_, set5 HM.out.2 _ _ _ _ _⟩
              rw [(rd_good HG.out).1, (rd_good HG.out).2]
              obtain ⟨x1, x2, x3, x4, x5, x6⟩ := HX.out
              rw [be_one bs 8 (by rw [H13.out]; omega)] at x3
              rw [be_one bs 9 (by rw [H13.out]; omega)] at x4
              rw [be_one bs 12 (by rw [H13.out]; omega)] at x6
              have hl := HLB.out
              rw [x6] at hl
              have hl2 : lb = ((rdB bs 12).toNat == 1) := by rw [hl]; exact beq_cast _
              rw [x1, x2, x3, x4, hl2]
      · have bz : (V5 != 0) = true := by simpa using hz
        have hbad : ¬ rdOk bs := fun h => by
          have h5 := HX.out.2.2.2.2.1
          rw [be_10 bs (by rw [h.1]; omega), h.2.1, h.2.2.1] at h5
          exact hz (by rw [h5]; rfl)
        have HBAD := hid hbad
        clear hbad hz
        go_wp2_with (go_at_call 58; refine (left_calls _ _ _ _ _ HB9.out.2.1).mono ?_; rw [hleft]; rintro e w' ⟨rfl, nq, rfl⟩)
        refine ret_head (x := 0) (y := 0) (z := 0) (u := 0) (l := false) (er := 11) ?_ rfl rfl rfl ?_
        · rw [heap_set _ _ _ _ _ _ (heap_set _ _ _ _ _ _ (heap_set _ _ _ _ _ _ (heap_set _ _ _ _ _ _ (heap_set _ _ _ _ _ _ (HBD.out nq)))))]; rfl
        · rw [(rd_bad HBAD.out).1, (rd_bad HBAD.out).2]
          exact ⟨rfl, set5 ((HA.out.1.then HB9.out.2.2).drewN nq) _ _ _ _ _⟩
  · have b6 : (e6 != 0) = true := by simpa using h6
    have HE6 := hid h6
    clear h6
    go_wp2_with fail
    refine ret_head (x := 0) (y := 0) (z := 0) (u := 0) (l := false) (er := 11) ?_ rfl rfl rfl ?_
    · rw [heap_set _ _ _ _ _ _ (heap_set _ _ _ _ _ _ (heap_set _ _ _ _ _ _ (heap_set _ _ _ _ _ _ (heap_set _ _ _ _ _ _ HB9.out.1))))]; rfl
    · have hbad : ¬ rdOk bs := fun h => HE6.out ((rd_chain HC1.out HC2.out HC3.out HC4.out HC5.out HC6.out).2 (by rw [h.1]; exact Nat.le_refl _))
      rw [(rd_bad hbad).1, (rd_bad hbad).2]
      exact ⟨rfl, set5 (HA.out.1.then HB9.out.2.2) _ _ _ _ _⟩
end Go.Proofs.Ytkhglmmidgfliaa

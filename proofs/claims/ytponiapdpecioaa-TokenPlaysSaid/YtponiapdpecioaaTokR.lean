/- The contract of token.Read. -/
import Derived.Test.YtponiapdpecioaaTokW3
namespace Go.Proofs.Ytponiapdpecioaa
open Go.RowKit Go.Proofs.HK
set_option linter.unusedVariables false
set_option linter.unusedSimpArgs false
attribute [local go_sem] max2_int min2_int max_two min_two

theorem res_tok (W : World) (g : Nat) (F : Int) (S : Int) (A : Option Addr) (n c : Nat) (hb : W.heap[g]? = some (.cells #[.int .i64 F, .int .u32 S, .slice A n c] 25 (0, 0))) :
    (Go.asAddr (Value.pointer (some ⟨g, 0, none⟩))).run Try.prog W = .ok ⟨g, 0, none⟩ W ∧ (Go.loadVar 25 ⟨g, 0, none⟩).run Try.prog W = .ok (.agg #[.int .i64 F, .int .u32 S, .slice A n c]) W := by
  obtain ⟨c0, c1, c2⟩ := blk3c hb
  refine ⟨by simp [Go.asAddr], ?_⟩
  unfold Go.loadVar
  go_simp
  first | done | rfl
theorem ret_tok {fn : Func} (hres : fn.results = #[.cell 2 25, .tmp 3]) {R : Ending → World → Prop} {W : World} {g : Nat} {F S : Int} {A : Option Addr} {n c : Nat} {er : Value} {a : Act} (hb : W.heap[g]? = some (.cells #[.int .i64 F, .int .u32 S, .slice A n c] 25 (0, 0)))
    (h2 : a.tmps.getD 2 undef = .pointer (some ⟨g, 0, none⟩)) (h3 : a.tmps.getD 3 undef = er) (hd : a.defers = []) (hR : R (.returned (.tuple #[.agg #[.int .i64 F, .int .u32 S, .slice A n c], er])) W) : bodyPost Try.prog fn R .ret a W := by
  refine bodyPost_ret (v := .tuple #[.agg #[.int .i64 F, .int .u32 S, .slice A n c], er]) ?_ hd hR
  have hr := res_tok W g F S A n c hb
  have h2' : a.tmps[2]?.getD undef = .pointer (some ⟨g, 0, none⟩) := by simpa using h2
  have h3' : a.tmps[3]?.getD undef = er := by simpa using h3
  simp [results, hres, h2', h3', hr.1, hr.2]
theorem blk3f {W : World} {g : Nat} {v0 v1 v2 : Value} {t : TypeId} (hb : W.heap[g]? = some (.cells #[v0, v1, v2] t (0, 0))) :
    (W.cell? ⟨g, 0, none⟩ = some v0 ∧ W.cell? ⟨g, 1, none⟩ = some v1 ∧ W.cell? ⟨g, 2, none⟩ = some v2) ∧ W.frozen? ⟨g, 0, none⟩ = false ∧ W.frozen? ⟨g, 1, none⟩ = false ∧ W.frozen? ⟨g, 2, none⟩ = false := by
  simp [World.cell?, World.frozen?, hb]
/-- Three cells that are stored. -/
theorem set3 {W : World} {g : Nat} {a b c u v x : Value} {t : TypeId} (hb : W.heap[g]? = some (.cells #[a, b, c] t (0, 0))) :
    (((W.setCell ⟨g, 0, none⟩ u).setCell ⟨g, 1, none⟩ v).setCell ⟨g, 2, none⟩ x).heap[g]? = some (.cells #[u, v, x] t (0, 0)) := by
  rw [heap_set _ g 2 _ t x (heap_set _ g 1 _ t v (heap_set _ g 0 _ t u hb))]
  rfl
theorem fr3 {S : Nat → Prop} {w W : World} {g : Nat} (u v x : Value) (h : Fr S w W) (hg : g < w.heap.size → S g) : Fr S w (((W.setCell ⟨g, 0, none⟩ u).setCell ⟨g, 1, none⟩ v).setCell ⟨g, 2, none⟩ x) :=
  ((h.setCell (p := ⟨g, 0, none⟩) hg u).setCell (p := ⟨g, 1, none⟩) hg v).setCell (p := ⟨g, 2, none⟩) hg x

theorem num_at {bs : List UInt8} {p k : Nat} (h1 : 1 ≤ k) (h4 : k ≤ 4) (h : p + k ≤ bs.length) : fitsS bs.length (p : Int) (k : Int) = 0 ∧ numB bs p 0 (k : Int) = (be ((bs.drop p).take k) : Nat) ∧ numP bs p 0 (k : Int) = p + k ∧ numE bs p 0 (k : Int) = 0 := by
  have hf : fitsS bs.length (p : Int) (k : Int) = 0 := by
    unfold fitsS
    rw [if_neg (by omega), if_neg (by omega)]
  refine ⟨hf, ?_, ?_, ?_⟩
  · unfold numB bigS
    rw [if_pos rfl, if_pos hf, if_pos hf]
    rfl
  · unfold numP
    rw [if_pos ⟨rfl, hf⟩]; rfl
  · unfold numE
    rw [if_pos rfl, hf]
def RetTok (w : World) (T : TokS) (E : Int) (e : Ending) (w' : World) : Prop := ∃ v, e = .returned (.tuple #[.agg #[.int .i64 T.F, .int .u32 (T.S : Int), v], .int .i64 E]) ∧ New B w w' v T.D
theorem trdT_no {bs : List UInt8} {E : Int} (h : trdE bs = E) (h0 : E ≠ 0) : trdT bs = ⟨0, 0, []⟩ := by
  unfold trdT; rw [if_neg (by rw [h]; exact h0)]
set_option maxRecDepth 100000 in
set_option maxHeartbeats 1600000 in
theorem read_calls (A : Option Addr) (bs : List UInt8) (m c : Nat) (w : World) (hn : bs.length = m) (hr : Rd B w A bs) (hc : m ≤ c) (hl : m ≤ 2097152) :
    Calls Try.prog 14 #[.slice A m c] w (RetTok w (trdT bs) (trdE bs)) := by
  have HN := hid (And.intro hn hr)
  clear hn hr
  by_cases h13 : m < 13
  · have HE := hid (show trdE bs = 2 by unfold trdE; rw [if_pos (by rw [HN.out.1]; exact h13)])
    have h13' : (m : Int) - 4 < 9 := by omega
    obtain ⟨c0, c1, c2⟩ := (blk3f (heap_new w (.cells #[.int .i64 0, .int .u32 0, .slice none 0 0] 25))).1
    obtain ⟨f0, f1, f2⟩ := (blk3f (heap_new w (.cells #[.int .i64 0, .int .u32 0, .slice none 0 0] 25))).2
    have hb := heap_new w (.cells #[.int .i64 0, .int .u32 0, .slice none 0 0] 25)
    have HB := hid hb
    clear hb
    go_enter Try.func14, Try.ntmps14
    go_wp2_with fail
    refine ret_tok rfl (g := w.heap.size) HB.out rfl rfl rfl ?_
    refine ⟨_, by rw [HE.out, trdT_no HE.out (by decide)]; rfl, ?_⟩
    rw [trdT_no HE.out (by decide)]
    exact ⟨NewR.nil, (Fr.refl No w).alloc _⟩
  · have hm4 : (m : Int) - 4 = ((m - 4 : Nat) : Int) := by omega
    obtain ⟨k, hk⟩ : ∃ k, k = m - 4 := ⟨_, rfl⟩
    rw [← hk] at hm4
    have hk9 : 9 ≤ k := by omega
    obtain ⟨L, hL⟩ : ∃ L, L = le (bs.drop k) := ⟨_, rfl⟩
    have hd4 : (bs.drop k).length = 4 := by rw [List.length_drop, HN.out.1]; omega
    have hLl : L < 4294967296 := by have := le_lt (bs.drop k); rw [hd4] at this; rw [hL]; omega
    have HLit := hid (show littleS bs (k : Int) 4 = (L : Int) ∧ fitsS bs.length (k : Int) 4 = 0 by
      have hf : fitsS bs.length (k : Int) 4 = 0 := by
        unfold fitsS
        rw [if_neg (by omega), if_neg (by rw [HN.out.1]; omega)]
      refine ⟨?_, hf⟩
      unfold littleS
      rw [if_pos hf, hL, show (4 : Int).toNat = 4 from rfl, Int.toNat_natCast, List.take_of_length_le (by omega)])
    obtain ⟨C, hC⟩ : ∃ C, C = crcOf (bs.take k) := ⟨_, rfl⟩
    have hCl : C < 4294967296 := by rw [hC]; exact crcM_lt _ _
    have HKK := hid (And.intro hk (And.intro hL hC))
    have hcut := cut_h slU8 A m c (k : Int) k rfl (by omega)
    have htk : (bs.take k).length = k := by rw [List.length_take, HN.out.1]; omega
    have HT := hid htk
    obtain ⟨g, hgg⟩ : ∃ g, g = w.heap.size := ⟨_, rfl⟩
    obtain ⟨w1, hw1⟩ : ∃ W, W = w.alloc (.cells #[.int .i64 0, .int .u32 0, .slice none 0 0] 25) := ⟨_, rfl⟩
    have hb := heap_new w (.cells #[.int .i64 0, .int .u32 0, .slice none 0 0] 25)
    rw [← hgg, ← hw1] at hb
    have hf1 : Fr No w w1 := by rw [hw1]; exact (Fr.refl No w).alloc _
    have HB := hid (And.intro hb (And.intro hf1 hgg))
    have hge9 : ¬ ((k : Int) < 9) := by omega
    have hmm : ¬ ((m : Int) - 4 < 9) := by omega
    have hwL : IntKind.u32.wrap (L : Int) = (L : Int) := wraps_u32 _ (by omega) (by omega)
    by_cases hS : C = L
    · obtain ⟨bs', hbs'⟩ : ∃ l, l = bs.take k := ⟨_, rfl⟩
      have hl' : bs'.length = k := by rw [hbs', htk]
      have hcutt : ∀ p j, p + j ≤ k → (bs'.drop p).take j = (bs.drop p).take j := fun p j h => by
        rw [hbs', List.drop_take, List.take_take, Nat.min_eq_left (by omega)]
      obtain ⟨F, hF⟩ : ∃ F, F = be ((bs.drop 0).take 1) := ⟨_, rfl⟩
      obtain ⟨S, hS'⟩ : ∃ S, S = trdS bs := ⟨_, rfl⟩
      obtain ⟨N, hN⟩ : ∃ N, N = trdN bs := ⟨_, rfl⟩
      have n1 := num_at (bs := bs') (p := 0) (k := 1) (by omega) (by omega) (by omega)
      have n2 := num_at (bs := bs') (p := 1) (k := 4) (by omega) (by omega) (by omega)
      have n3 := num_at (bs := bs') (p := 5) (k := 4) (by omega) (by omega) (by omega)
      rw [hcutt 0 1 (by omega), ← hF] at n1
      rw [hcutt 1 4 (by omega), show be ((bs.drop 1).take 4) = S from hS'.symm] at n2
      rw [hcutt 5 4 (by omega), show be ((bs.drop 5).take 4) = N from hN.symm] at n3
      have hFl : F < 256 := by
        have h1 := be_lt ((bs.drop 0).take 1)
        rw [← hF, show ((bs.drop 0).take 1).length = 1 by rw [List.length_take, List.drop_zero, HN.out.1]; omega] at h1
        omega
      have hSl : S < 4294967296 := by rw [hS']; exact trdS_lt bs
      have hNl : N < 4294967296 := by rw [hN]; exact trdN_lt bs
      have hFt : trdF bs = (F : Int) := by
        rw [hF]
        unfold trdF
        cases bs with
        | nil => have := HN.out.1; simp at this; omega
        | cons b l => simp [be, beN, rdB]
      have hne : ((L : Int) != (C : Int)) = false := by rw [hS]; simp
      have hE3 : trdE bs = if F < 16 ∧ N ≤ 1048576 ∧ N = k - 9 then 0 else 3 := by
        unfold trdE
        rw [if_neg (by rw [HN.out.1]; exact h13), HN.out.1, ← hk, if_neg (by rw [← hC, ← hL]; exact fun h => h hS), hFt, ← hN, show m - 13 = k - 9 by omega]
        by_cases h : F < 16 ∧ N ≤ 1048576 ∧ N = k - 9
        · rw [if_pos h, if_pos ⟨by omega, h.2⟩]
        · rw [if_neg h, if_neg (fun h' => h ⟨by omega, h'.2⟩)]
      have HNN := hid (And.intro n1 (And.intro n2 n3))
      have HV := hid (And.intro hE3 (And.intro hFt (And.intro hS' (And.intro hbs' hl'))))
      obtain ⟨EB, hEB⟩ : ∃ E, E = byE bs' 9 0 N := ⟨_, rfl⟩
      have HEB := hid hEB
      clear hk hL hC hd4 htk hb hf1 hS n1 n2 n3 hE3 hFt hS' hbs' hN hF hEB hcutt hl'
      have hwS : IntKind.u32.wrap (S : Int) = (S : Int) := wraps_u32 _ (by omega) (by omega)
      go_enter Try.func14, Try.ntmps14
      go_wp2_with fail
      rw [← hw1, ← hgg]
      clear hw1 hgg
      refine (little_calls A bs m c HN.out.1 (k : Int) 4 _ (HN.out.2.fr0 HB.out.2.1) (by rw [HN.out.1]; omega)).mono ?_
      rw [HLit.out.1, HLit.out.2]
      rintro e w2 ⟨rfl, hw2⟩
      rw [hw2]
      clear hw2 w2
      go_wp2_with fail
      refine (of_calls _ 1 1 [.slice A k c] [bs.take k] rfl _ (rdS1 rfl HT.out ((HN.out.2.fr0 HB.out.2.1).take k)) (by simp only [List.flatten_cons, List.flatten_nil, List.append_nil, HT.out]; omega) (by decide)).mono ?_
      rw [show [bs.take k].flatten = bs.take k by simp, ← HKK.out.2.2]
      rintro e w5 ⟨rfl, hw5⟩
      rw [hw5]
      clear hw5 w5
      obtain ⟨X, hX⟩ : ∃ X, X = w1.alloc (.cells #[.slice A k c] 23) := ⟨_, rfl⟩
      rw [← hX]
      have hfX : Fr No w1 X := by rw [hX]; exact (Fr.refl No w1).alloc _
      have HX := hid hfX
      clear hX hfX
      go_wp2_with fail
      refine (new_calls A bs' k c HV.out.2.2.2.2 _ (by rw [HV.out.2.2.2.1]; exact (HN.out.2.fr0 (HB.out.2.1.then HX.out)).take k) (by rw [HV.out.2.2.2.2]; omega)).mono ?_
      rintro e w3 ⟨gc, rfl, hc3, hf3⟩
      have H3 := hid (And.intro hc3 hf3)
      have hgc : X.heap.size ≤ gc := hc3.gl
      clear hc3 hf3
      go_wp2_with fail
      refine (cbig_calls _ gc bs' 0 0 ((1 : Nat) : Int) H3.out.1).mono ?_
      rw [HNN.out.1.2.1, HNN.out.1.2.2.1, HNN.out.1.2.2.2]
      rintro e w4 ⟨rfl, hc4, hf4⟩
      have H4 := hid (And.intro hc4 hf4)
      clear hc4 hf4
      go_wp2_with fail
      refine (cbig_calls _ gc bs' 1 0 ((4 : Nat) : Int) H4.out.1).mono ?_
      rw [HNN.out.2.1.2.1, HNN.out.2.1.2.2.1, HNN.out.2.1.2.2.2]
      rintro e w6 ⟨rfl, hc6, hf6⟩
      have H6 := hid (And.intro hc6 hf6)
      clear hc6 hf6
      obtain ⟨gt, hgt⟩ : ∃ g, g = w6.heap.size := ⟨_, rfl⟩
      have hs3 : gc < w3.heap.size := H3.out.1.lt
      have hs4 := H4.out.2.size
      have hs6 := H6.out.2.size
      have hsX := HX.out.size
      have hsX3 := H3.out.2.size
      have hsw : w.heap.size ≤ w1.heap.size := HB.out.2.1.size
      have hg1 : g < w1.heap.size := (Array.getElem?_eq_some_iff.1 HB.out.1).1
      have hF6 : Fr (fun b => gc = b) w1 w6 := (((HX.out.then H3.out.2).any).then (H4.out.2.mono (fun k _ e => (show k = gc from e).symm))).then (H6.out.2.mono (fun k _ e => (show k = gc from e).symm))
      have HF6 := hid hF6
      clear hF6
      go_wp2_with fail
      obtain ⟨w7, hw7⟩ : ∃ W, W = w6.alloc (.cells #[.int .i64 (F : Int), .int .u32 (S : Int), .slice none 0 0] 25) := ⟨_, rfl⟩
      rw [← hw7, ← hgt]
      have hb7 := heap_new w6 (.cells #[.int .i64 (F : Int), .int .u32 (S : Int), .slice none 0 0] 25)
      rw [← hw7, ← hgt] at hb7
      have hf7 : Fr No w6 w7 := by rw [hw7]; exact (Fr.refl No w6).alloc _
      have H7 := hid (And.intro hb7 (And.intro hf7 hgt))
      clear hb7 hf7 hgt hw7
      refine (cbig_calls _ gc bs' 5 0 ((4 : Nat) : Int) ((H6.out.1.fr H7.out.2.1 (fun _ _ _ h => h)))).mono ?_
      rw [HNN.out.2.2.2.1, HNN.out.2.2.2.2.1, HNN.out.2.2.2.2.2]
      rintro e w8 ⟨rfl, hc8, hf8⟩
      have H8 := hid (And.intro hc8 hf8)
      clear hc8 hf8
      go_wp2_with fail
      refine (cbytes_calls _ gc bs' 9 0 (N : Int) H8.out.1).mono ?_
      rw [← HEB.out]
      rintro e w9 ⟨v9, rfl, hv9, hc9, hf9⟩
      obtain ⟨A9, n9, c9, rfl, HN9⟩ := hv9.use
      have H9 := hid (And.intro hv9 (And.intro hc9 hf9))
      clear hv9 hc9 hf9
      have hb9 : w9.heap[gt]? = some (.cells #[.int .i64 (F : Int), .int .u32 (S : Int), .slice none 0 0] 25 (0, 0)) := by
        have hlt := (Array.getElem?_eq_some_iff.1 H7.out.1).1
        have h8 := H8.out.2.block gt hlt (fun e => by have e : gt = gc := e; have := H7.out.2.2; omega)
        have h9 := H9.out.2.2.block gt (Nat.lt_of_lt_of_le hlt H8.out.2.size) (fun e => by have e : gt = gc := e; have := H7.out.2.2; omega)
        exact (h9.trans h8).trans H7.out.1
      obtain ⟨⟨c0, c1, c2⟩, f0, f1, f2⟩ := blk3f hb9
      have HB9 := hid hb9
      clear hb9
      go_wp2_with fail
      obtain ⟨Y, hY⟩ : ∃ W, W = w9.setCell ⟨gt, 2, none⟩ (.slice A9 n9 c9) := ⟨_, rfl⟩
      rw [← hY]
      have hfY : Fr (HK.One gt) w9 Y := by rw [hY]; exact Fr.set1 _ _ _ _
      have hbY : Y.heap[gt]? = some (.cells #[.int .i64 (F : Int), .int .u32 (S : Int), .slice A9 n9 c9] 25 (0, 0)) := by
        rw [hY, heap_set _ gt 2 _ _ _ HB9.out]; rfl
      have hcY : Cur X.heap.size w3.heap.size Y gc bs' (byP bs' 9 0 N) EB := H9.out.2.1.fr hfY (fun q _ h2 e => by have e : q = gt := e; have := H7.out.2.2; omega)
      have hgt := H7.out.2.2
      have hs8 := H8.out.2.size
      have hs9 := H9.out.2.2.size
      have hlt7 := (Array.getElem?_eq_some_iff.1 H7.out.1).1
      have hF9 : Fr (fun b => gc = b ∨ gt = b) w1 w9 := (((HF6.out.mono (fun k _ e => .inl e)).then H7.out.2.1.any).then (H8.out.2.mono (fun k _ e => .inl (show k = gc from e).symm))).then (H9.out.2.2.mono (fun k _ e => .inl (show k = gc from e).symm))
      have hFY : Fr (fun b => gc = b ∨ gt = b) w1 Y := hF9.then (hfY.mono (fun k _ e => .inr (show k = gt from e).symm))
      have hF0 : Fr No w Y := HB.out.2.1.trans hFY (fun k hk e => by rcases e with e | e <;> omega)
      have hg0 : Y.heap[g]? = some (.cells #[.int .i64 0, .int .u32 0, .slice none 0 0] 25 (0, 0)) := (hFY.block g hg1 (fun e => by rcases e with e | e <;> omega)).trans HB.out.1
      have hrowY : ∃ ob, Row Y 1 (.slice A9 n9 c9) ob n9 ((byB bs' 9 0 N).map B) ∧ ∀ q, ob = some q → w.heap.size ≤ q ∧ q ≠ g := by
        obtain ⟨ob, h1, h2⟩ := HN9.out.2.2.2
        exact ⟨ob, h1.fr hfY (fun q hq e => by have e : q = gt := e; have := h2 q hq; omega), fun q hq => by have := h2 q hq; omega⟩
      have HY := hid (And.intro hbY (And.intro hcY (And.intro hF0 (And.intro hg0 hrowY))))
      have hsY : w9.heap.size ≤ Y.heap.size := hfY.size
      clear hY hfY hbY hcY hF9 hFY hF0 hg0 hrowY c0 c1 c2 f0 f1 f2
      have hend : ∀ (W : World), Fr No Y W → RetTok w ⟨0, 0, []⟩ 3 (.returned (.tuple #[.agg #[.int .i64 0, .int .u32 0, .slice none 0 0], .int .i64 3])) (((W.setCell ⟨g, 0, none⟩ (.int .i64 0)).setCell ⟨g, 1, none⟩ (.int .u32 0)).setCell ⟨g, 2, none⟩ (.slice none 0 0)) := fun W hW =>
        ⟨_, rfl, NewR.nil, fr3 _ _ _ (HY.out.2.2.1.then hW) (fun h => absurd h (by have := HB.out.2.2; omega))⟩
      have hgW : ∀ (W : World), Fr No Y W → W.heap[g]? = some (.cells #[.int .i64 0, .int .u32 0, .slice none 0 0] 25 (0, 0)) := fun W hW => (hW.block g (by omega) (fun h => h)).trans HY.out.2.2.2.1
      have HEND := hid (And.intro hend hgW)
      clear hend hgW hgt
      refine (err_calls _ gc bs' _ EB HY.out.2.1).mono ?_
      rintro e w10 ⟨rfl, h10⟩
      rw [h10]
      clear h10 w10
      by_cases hEB0 : EB = 0
      · have hEk : byP bs' 9 0 N = 9 + N ∧ 9 + N ≤ k ∧ byB bs' 9 0 N = (bs'.drop 9).take N := by
          have h1 := HEB.out
          unfold byE at h1
          rw [if_pos rfl, if_neg (by omega), HV.out.2.2.2.2] at h1
          have h2 : ¬ ((k - 9 : Nat) : Int) < (N : Int) := fun h => by rw [if_pos h] at h1; omega
          have h3 : byE bs' 9 0 N = 0 := HEB.out.symm.trans hEB0
          refine ⟨?_, by omega, ?_⟩
          · unfold byP; rw [if_pos ⟨rfl, h3⟩]; rfl
          · unfold byB; rw [if_pos ⟨rfl, h3⟩]; rfl
        obtain ⟨LB, hLB⟩ : ∃ L, L = k - (9 + N) := ⟨_, rfl⟩
        have hleft : leftS bs' (byP bs' 9 0 N) EB = (LB : Int) := by
          unfold leftS; rw [if_pos hEB0, HV.out.2.2.2.2, hEk.1, hLB]
        have hb0 : (EB == 0) = true := by simpa using hEB0
        have hb1 : (EB != 0) = false := by simpa using hEB0
        have HLB := hid (And.intro hLB hEk)
        have HE0 := hid hEB0
        have HLF := hid hleft
        have hNk := hEk.2.1
        clear hEk hLB hEB0 hleft
        by_cases hL0 : 0 < LB
        · have hE3 := hid (show trdE bs = 3 by rw [HV.out.1, if_neg (fun h => by have := HLB.out.1; omega)])
          have hL0' : (0 : Int) < (LB : Int) := by omega
          go_wp2_with fail
          refine (left_calls _ gc bs' _ EB HY.out.2.1).mono ?_
          rw [HLF.out]
          rintro e w11 ⟨rfl, q, rfl⟩
          have hfq : Fr No Y (Y.drewN q) := (Fr.refl No Y).drewN q
          have hbq := HEND.out.2 _ hfq
          obtain ⟨⟨c0, c1, c2⟩, f0, f1, f2⟩ := blk3f hbq
          go_wp2_with fail
          refine ret_tok rfl (g := g) (set3 hbq) rfl rfl rfl ?_
          rw [hE3.out, trdT_no hE3.out (by decide)]
          exact HEND.out.1 _ hfq
        · obtain rfl : LB = 0 := by omega
          by_cases hok : F < 16 ∧ N ≤ 1048576
          · have hE3 := hid (show trdE bs = 0 by rw [HV.out.1, if_pos ⟨hok.1, hok.2, by have := HLB.out.1; omega⟩])
            have ok1 : ¬ (16 ≤ (F : Int)) := by omega
            have ok2 : ¬ ((1048576 : Int) < (N : Int)) := by omega
            clear hok
            go_wp2_with fail
            refine (left_calls _ gc bs' _ EB HY.out.2.1).mono ?_
            rw [HLF.out]
            rintro e w11 ⟨rfl, q, rfl⟩
            have hfq : Fr No Y (Y.drewN q) := (Fr.refl No Y).drewN q
            have hbq := HEND.out.2 _ hfq
            obtain ⟨⟨c0, c1, c2⟩, f0, f1, f2⟩ := blk3f hbq
            obtain ⟨⟨d0, d1, d2⟩, _⟩ := blk3f (show (Y.drewN q).heap[gt]? = _ from HY.out.1)
            have HBQ := hid hbq
            clear hbq
            go_wp2_with fail
            refine ret_tok rfl (g := g) (set3 HBQ.out) rfl rfl rfl ?_
            have hD : trdD bs = byB bs' 9 0 N := by
              unfold trdD
              rw [HLB.out.2.2.2, HN.out.1, ← HKK.out.1, ← HV.out.2.2.2.1, List.take_of_length_le]
              rw [List.length_drop, HV.out.2.2.2.2]
              have := HLB.out.1
              omega
            unfold trdT
            rw [hE3.out, if_pos rfl, HV.out.2.1, ← HV.out.2.2.1, hD]
            obtain ⟨ob, hr1, hr2⟩ := HY.out.2.2.2.2
            refine ⟨_, rfl, New.mk' rfl HN9.out.1 ((hr1.drewN q).fr (((Fr.refl (HK.One g) _).setCell (p := ⟨g, 0, none⟩) (fun _ => rfl) _).setCell (p := ⟨g, 1, none⟩) (fun _ => rfl) _ |>.setCell (p := ⟨g, 2, none⟩) (fun _ => rfl) _) (fun q hq e => (hr2 q hq).2 e)) (fun q hq => (hr2 q hq).1) (fr3 _ _ _ (HY.out.2.2.1.then hfq) (fun h => absurd h (by have := HB.out.2.2; omega)))⟩
          · have hE3 := hid (show trdE bs = 3 by rw [HV.out.1, if_neg (fun h => hok ⟨h.1, h.2.1⟩)])
            by_cases ok1 : (16 : Int) ≤ (F : Int)
            · clear hok
              go_wp2_with fail
              refine (left_calls _ gc bs' _ EB HY.out.2.1).mono ?_
              rw [HLF.out]
              rintro e w11 ⟨rfl, q, rfl⟩
              have hfq : Fr No Y (Y.drewN q) := (Fr.refl No Y).drewN q
              have hbq := HEND.out.2 _ hfq
              obtain ⟨⟨c0, c1, c2⟩, f0, f1, f2⟩ := blk3f hbq
              obtain ⟨⟨d0, d1, d2⟩, _⟩ := blk3f (show (Y.drewN q).heap[gt]? = _ from HY.out.1)
              go_wp2_with fail
              refine ret_tok rfl (g := g) (set3 hbq) rfl rfl rfl ?_
              rw [hE3.out, trdT_no hE3.out (by decide)]
              exact HEND.out.1 _ hfq
            · have ok2 : (1048576 : Int) < (N : Int) := by omega
              clear hok
              go_wp2_with fail
              refine (left_calls _ gc bs' _ EB HY.out.2.1).mono ?_
              rw [HLF.out]
              rintro e w11 ⟨rfl, q, rfl⟩
              have hfq : Fr No Y (Y.drewN q) := (Fr.refl No Y).drewN q
              have hbq := HEND.out.2 _ hfq
              obtain ⟨⟨c0, c1, c2⟩, f0, f1, f2⟩ := blk3f hbq
              obtain ⟨⟨d0, d1, d2⟩, _⟩ := blk3f (show (Y.drewN q).heap[gt]? = _ from HY.out.1)
              go_wp2_with fail
              refine ret_tok rfl (g := g) (set3 hbq) rfl rfl rfl ?_
              rw [hE3.out, trdT_no hE3.out (by decide)]
              exact HEND.out.1 _ hfq
      · have hE3 := hid (show trdE bs = 3 by
          have h1 := HEB.out
          unfold byE at h1
          rw [HV.out.1]
          rw [if_pos rfl, if_neg (by omega), HV.out.2.2.2.2] at h1
          rw [if_neg]
          rintro ⟨_, _, h4⟩
          rw [if_neg (by omega)] at h1
          exact hEB0 h1)
        have hb0 : (EB == 0) = false := by simpa using hEB0
        have hb1 : (EB != 0) = true := by simpa using hEB0
        obtain ⟨⟨c0, c1, c2⟩, f0, f1, f2⟩ := blk3f HY.out.2.2.2.1
        clear hEB0
        go_wp2_with fail
        refine ret_tok rfl (g := g) (set3 HY.out.2.2.2.1) rfl rfl rfl ?_
        rw [hE3.out, trdT_no hE3.out (by decide)]
        exact HEND.out.1 Y (Fr.refl _ _)
    · have HE := hid (show trdE bs = 4 by
        unfold trdE
        rw [if_neg (by rw [HN.out.1]; exact h13), HN.out.1, ← hk, if_pos (by rw [← hC, ← hL]; exact hS)])
      have hne : ((L : Int) != (C : Int)) = true := by rw [bne_iff_ne]; omega
      clear hk hL hC hd4 htk hb hf1 hS
      go_enter Try.func14, Try.ntmps14
      go_wp2_with fail
      rw [← hw1, ← hgg]
      clear hw1 hgg
      refine (little_calls A bs m c HN.out.1 (k : Int) 4 _ (HN.out.2.fr0 HB.out.2.1) (by rw [HN.out.1]; omega)).mono ?_
      rw [HLit.out.1, HLit.out.2]
      rintro e w2 ⟨rfl, hw2⟩
      rw [hw2]
      clear hw2 w2
      go_wp2_with fail
      refine (of_calls _ 1 1 [.slice A k c] [bs.take k] rfl _ (rdS1 rfl HT.out ((HN.out.2.fr0 HB.out.2.1).take k)) (by simp only [List.flatten_cons, List.flatten_nil, List.append_nil, HT.out]; omega) (by decide)).mono ?_
      rw [show [bs.take k].flatten = bs.take k by simp, ← HKK.out.2.2]
      rintro e w5 ⟨rfl, hw5⟩
      rw [hw5]
      clear hw5 w5
      obtain ⟨X, hX⟩ : ∃ X, X = w1.alloc (.cells #[.slice A k c] 23) := ⟨_, rfl⟩
      rw [← hX]
      have hbX : X.heap[g]? = some (.cells #[.int .i64 0, .int .u32 0, .slice none 0 0] 25 (0, 0)) := by
        rw [hX]; exact (((Fr.refl No w1).alloc _).block g (Array.getElem?_eq_some_iff.1 HB.out.1).1 (fun h => h)).trans HB.out.1
      have hfX : Fr No w X := by rw [hX]; exact HB.out.2.1.alloc _
      obtain ⟨⟨c0, c1, c2⟩, f0, f1, f2⟩ := blk3f hbX
      have HX := hid (And.intro hbX hfX)
      clear hX hbX hfX
      go_wp2_with fail
      refine ret_tok rfl (g := g) (set3 HX.out.1) rfl rfl rfl ?_
      refine ⟨_, by rw [HE.out, trdT_no HE.out (by decide)]; rfl, ?_⟩
      rw [trdT_no HE.out (by decide)]
      exact ⟨NewR.nil, fr3 _ _ _ HX.out.2 (fun h => absurd h (by have := HB.out.2.2; omega))⟩
end Go.Proofs.Ytponiapdpecioaa

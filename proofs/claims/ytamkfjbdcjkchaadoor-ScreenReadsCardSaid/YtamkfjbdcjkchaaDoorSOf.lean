/- The document's answer for blocks. -/
import Derived.Test.YtamkfjbdcjkchaaDoorSRef
import Derived.Test.YtamkfjbdcjkchaaDoorSRd
namespace Go.Proofs.YtamkfjbdcjkchaaDoor
open Go.RowKit Go.Proofs.HK
set_option linter.unusedVariables false
set_option linter.unusedSimpArgs false
attribute [local go_sem] max2_int min2_int max_two min_two
theorem ret_cell {fn : Func} {s : Nat} {T : TypeId} (hres : fn.results = #[.cell s T]) {R : Ending → World → Prop} {W : World} {g : Nat} {v : Value} {a : Act}
    (h2 : a.tmps.getD s undef = .pointer (some ⟨g, 0, none⟩)) (hl : (Go.loadVar T ⟨g, 0, none⟩).run Tryd.prog W = .ok v W) (hd : a.defers = []) (hR : R (.returned v) W) : bodyPost Tryd.prog fn R .ret a W := by
  refine bodyPost_ret (v := v) ?_ hd hR
  have h2' : a.tmps[s]?.getD undef = .pointer (some ⟨g, 0, none⟩) := by simpa using h2
  have ha : (Go.asAddr (Value.pointer (some ⟨g, 0, none⟩))).run Tryd.prog W = .ok ⟨g, 0, none⟩ W := by simp [Go.asAddr]
  simp [results, hres, h2', ha, hl]
theorem kt0 {W : World} {g : Nat} {a0 a1 a2 a3 : Value} {t : TypeId} (hb : W.heap[g]? = some (.cells #[a0, a1, a2, a3] t (0, 0))) (x : Value) : (W.setCell ⟨g, 0, none⟩ x).heap[g]? = some (.cells #[x, a1, a2, a3] t (0, 0)) := by rw [heap_set _ g 0 _ t x hb]; rfl
theorem kt1 {W : World} {g : Nat} {a0 a1 a2 a3 : Value} {t : TypeId} (hb : W.heap[g]? = some (.cells #[a0, a1, a2, a3] t (0, 0))) (x : Value) : (W.setCell ⟨g, 1, none⟩ x).heap[g]? = some (.cells #[a0, x, a2, a3] t (0, 0)) := by rw [heap_set _ g 1 _ t x hb]; rfl
theorem kt2 {W : World} {g : Nat} {a0 a1 a2 a3 : Value} {t : TypeId} (hb : W.heap[g]? = some (.cells #[a0, a1, a2, a3] t (0, 0))) (x : Value) : (W.setCell ⟨g, 2, none⟩ x).heap[g]? = some (.cells #[a0, a1, x, a3] t (0, 0)) := by rw [heap_set _ g 2 _ t x hb]; rfl
theorem kt3 {W : World} {g : Nat} {a0 a1 a2 a3 : Value} {t : TypeId} (hb : W.heap[g]? = some (.cells #[a0, a1, a2, a3] t (0, 0))) (x : Value) : (W.setCell ⟨g, 3, none⟩ x).heap[g]? = some (.cells #[a0, a1, a2, x] t (0, 0)) := by rw [heap_set _ g 3 _ t x hb]; rfl
theorem set4 {W : World} {g : Nat} {a0 a1 a2 a3 : Value} {t : TypeId} (hb : W.heap[g]? = some (.cells #[a0, a1, a2, a3] t (0, 0))) (b0 b1 b2 b3 : Value) :
    ((((W.setCell ⟨g, 0, none⟩ b0).setCell ⟨g, 1, none⟩ b1).setCell ⟨g, 2, none⟩ b2).setCell ⟨g, 3, none⟩ b3).heap[g]? = some (.cells #[b0, b1, b2, b3] t (0, 0)) := kt3 (kt2 (kt1 (kt0 hb b0) b1) b2) b3
theorem fr4 (W : World) (g : Nat) (b0 b1 b2 b3 : Value) : Fr (HK.One g) W ((((W.setCell ⟨g, 0, none⟩ b0).setCell ⟨g, 1, none⟩ b1).setCell ⟨g, 2, none⟩ b2).setCell ⟨g, 3, none⟩ b3) :=
  (((Fr.set1 W g 0 b0).then (Fr.set1 _ g 1 b1)).then (Fr.set1 _ g 2 b2)).then (Fr.set1 _ g 3 b3)
theorem load_run {W : World} {g : Nat} {v0 v1 v2 v3 : Value} {t : TypeId} (hb : W.heap[g]? = some (.cells #[v0, v1, v2, v3] t (0, 0))) :
    (Go.loadVar 55 ⟨g, 0, none⟩).run Tryd.prog W = .ok (.agg #[v0, v1, v2, v3]) W := by
  obtain ⟨c0, c1, c2, c3⟩ := blk4i hb
  go_simp
def slLen : Value → Nat
  | .slice _ n _ => n
  | _ => 0
theorem after_new {w w' : World} {o : Obj} {ob' : Option Nat} (hf : Fr (Opt (some w.heap.size)) (w.alloc o) w') (h : ob' = some w.heap.size ∨ ∃ k, ob' = some k ∧ (w.alloc o).heap.size ≤ k) : Fr No w w' ∧ ∀ k, ob' = some k → w.heap.size ≤ k := by
  refine ⟨((Fr.refl No w).alloc o).trans hf (fun k hk e => by have e : some k = some w.heap.size := e; injection e with e; omega), fun k e => ?_⟩
  rcases h with h | ⟨i, h, hi⟩
  · rw [h] at e; injection e with e; omega
  · rw [h] at e; injection e with e; rw [World.size_alloc] at hi; omega
/-- At the edge between two blocks. -/
def Edge (bs : List UInt8) (p : Nat) (s : BSt) : Prop := bRun b00 (bs.take p) = s ∧ s.seen = p ∧ s.done = false ∧ (s.left = 0 ∨ bs.length ≤ p)
theorem edge_end {bs : List UInt8} {p : Nat} {s : BSt} (h : Edge bs p s) (hp : p = bs.length) : bRun b00 bs = s ∧ bRest b00 bs = [] := by
  obtain ⟨h1, h2, h3, _⟩ := h
  rw [hp, List.take_of_length_le (Nat.le_refl _)] at h1
  refine ⟨h1, ?_⟩
  unfold bRest
  rw [h1, h3]
  rfl
theorem edge_zero {bs : List UInt8} {p : Nat} {s : BSt} (h : Edge bs p s) (hp : p < bs.length) (hz : bs[p].toNat = 0) : bRun b00 bs = ⟨0, p + 1, true, s.out⟩ ∧ bRest b00 bs = bs.drop (p + 1) := by
  obtain ⟨h1, h2, h3, h4⟩ := h
  have hb : bs[p] = 0 := UInt8.toNat_inj.1 (by simpa using hz)
  have hl : s.left = 0 := by omega
  have e : bRun b00 (bs.take (p + 1)) = ⟨0, p + 1, true, s.out⟩ := by
    rw [bRun_take b00 bs p hp, h1]
    unfold bStep
    rw [h3, if_neg (by simp), if_neg (by omega), hb, h2]
    rfl
  have e2 : bRun b00 bs = ⟨0, p + 1, true, s.out⟩ := by rw [bRun_end b00 bs (p + 1) (by omega) (by rw [e]), e]
  refine ⟨e2, ?_⟩
  unfold bRest
  rw [e2]
  rfl
theorem edge_step {bs : List UInt8} {p m : Nat} {s : BSt} (h : Edge bs p s) (hp : p < bs.length) (hz : bs[p].toNat ≠ 0) (hm : m = min bs[p].toNat (bs.length - (p + 1))) : ∃ s', Edge bs (p + 1 + m) s' ∧ s'.out = s.out ++ (bs.drop (p + 1)).take m := by
  obtain ⟨h1, h2, h3, h4⟩ := h
  have hl : s.left = 0 := by omega
  have hb : (bs[p] == 0) = false := by
    rw [beq_eq_false_iff_ne]
    intro e
    rw [e] at hz
    exact hz rfl
  have e : bRun b00 (bs.take (p + 1)) = ⟨bs[p].toNat, p + 1, false, s.out⟩ := by
    rw [bRun_take b00 bs p hp, h1]
    unfold bStep
    rw [h3, if_neg (by simp), if_neg (by omega), hb, h2]
  have e2 := bRun_block ((bs.drop (p + 1)).take m) ⟨bs[p].toNat, p + 1, false, s.out⟩ rfl (by rw [List.length_take, List.length_drop]; show _ ≤ bs[p].toNat; omega)
  have hlen : ((bs.drop (p + 1)).take m).length = m := by rw [List.length_take, List.length_drop]; omega
  rw [hlen] at e2
  refine ⟨⟨bs[p].toNat - m, p + 1 + m, false, s.out ++ (bs.drop (p + 1)).take m⟩, ⟨?_, ?_, rfl, ?_⟩, rfl⟩
  · rw [take_add bs (p + 1) m, bRun_append, e]
    exact e2
  · rfl
  · show bs[p].toNat - m = 0 ∨ _
    omega
set_option maxRecDepth 100000 in
set_option maxHeartbeats 3200000 in
theorem of10_calls (A : Option Addr) (bs : List UInt8) (n c : Nat) (w : World) (hn : bs.length = n) (hr : Rd B w A bs) (hc : n ≤ c) (hl : n ≤ 140737488355328) :
    Calls Tryd.prog 25 #[.slice A n c] w fun e w' => ∃ (oA : Option Addr) (on oc : Nat) (rA : Option Addr) (rn rc : Nat), e = .returned (.agg #[.slice oA on oc, .slice rA rn rc, .bool (bRun b00 bs).done, .int .i64 ((bRun b00 bs).seen : Int)]) ∧
      OutB w.heap.size w' oA on oc (bRun b00 bs).out ∧ OutB w.heap.size w' rA rn rc (bRest b00 bs) ∧ Fr No w w' := by
  have HN := hid (And.intro hn (And.intro hr hc))
  clear hn hr hc
  obtain ⟨h, hh⟩ : ∃ h, h = w.heap.size := ⟨_, rfl⟩
  obtain ⟨g, hg⟩ : ∃ g, g = w.heap.size + 1 := ⟨_, rfl⟩
  obtain ⟨w1, hw1⟩ : ∃ W, W = (w.alloc (.cells #[.slice none 0 0, .slice none 0 0, .bool false, .int .i64 0] 55)).alloc (.cells #[.slice none 0 0, .slice none 0 0, .bool false, .int .i64 0] 55) := ⟨_, rfl⟩
  have H1 : w1.heap[h]? = some (.cells #[.slice none 0 0, .slice none 0 0, .bool false, .int .i64 0] 55 (0, 0)) ∧ w1.heap[g]? = some (.cells #[.slice none 0 0, .slice none 0 0, .bool false, .int .i64 0] 55 (0, 0)) ∧ Fr No w w1 ∧ w1.heap.size = w.heap.size + 2 := by
    refine ⟨?_, ?_, ?_, ?_⟩
    · rw [hw1, hh, ((Fr.refl No _).alloc _).block w.heap.size (by rw [World.size_alloc]; omega) (fun h => h)]; exact heap_new _ _
    · rw [hw1, hg]
      have := heap_new (w.alloc (.cells #[.slice none 0 0, .slice none 0 0, .bool false, .int .i64 0] 55)) (.cells #[.slice none 0 0, .slice none 0 0, .bool false, .int .i64 0] 55)
      rw [World.size_alloc] at this
      exact this
    · rw [hw1]; exact ((Fr.refl No w).alloc _).alloc _
    · rw [hw1, World.size_alloc, World.size_alloc]
  have HW := hid H1
  have HHG := hid (And.intro hh hg)
  have HW1 := hid hw1
  have HGH := hid (show g = h + 1 by omega)
  clear hw1 H1 hh hg
  go_enter Tryd.func25, Tryd.ntmps25
  go_upto_region 2 with fail
  rw [← HHG.out.1, ← HW1.out, ← HGH.out]
  go_loopw [0, 4] (fun s0 _ wr => ∃ (p nn cc : Nat) (A1 : Option Addr), s0 = .slice A1 nn cc ∧ p + nn = n ∧ Hid (∃ (s : BSt) (oA : Option Addr) (on oc : Nat), Edge bs p s ∧ Rd B w A1 (bs.drop p) ∧ nn ≤ cc ∧ True ∧
      wr.heap[g]? = some (.cells #[.slice oA on oc, .slice none 0 0, .bool false, .int .i64 (p : Int)] 55 (0, 0)) ∧ wr.heap[h]? = some (.cells #[.slice none 0 0, .slice none 0 0, .bool false, .int .i64 0] 55 (0, 0)) ∧ OutB (w.heap.size + 2) wr oA on oc s.out ∧ on ≤ p ∧ Fr No w wr)) (fun s0 _ _ => slLen s0)
  case atStart =>
    refine ⟨0, n, c, A, rfl, by omega, ?_⟩
    refine hid ⟨b00, none, 0, 0, ⟨by rw [List.take_zero]; rfl, rfl, rfl, .inl rfl⟩, HN.out.2.1, HN.out.2.2, trivial, HW.out.2.1, HW.out.1, OutB.nil _ _, by omega, HW.out.2.2.1⟩
  case round =>
    obtain ⟨p, nn, cc, A1, rfl, hp, HR⟩ := hrel
    obtain ⟨s, oA, on, oc, hE, hrd, hcc, hbl, hbg, hbh, hO, hon, hf⟩ := HR.out
    have HX := hid (And.intro hE (And.intro hrd (And.intro hcc (And.intro hbl (And.intro hbg (And.intro hbh (And.intro hO (And.intro hon hf))))))))
    clear HR hE hrd hbl hbg hbh hO hf
    by_cases hnn : nn = 0
    · subst hnn
      obtain rfl : p = n := by omega
      have HEE := hid (edge_end HX.out.1 HN.out.1.symm)
      obtain ⟨c0, c1, c2, c3, cf⟩ := blk4 HX.out.2.2.2.2.1
      obtain ⟨d0, d1, d2, d3, df⟩ := blk4 HX.out.2.2.2.2.2.1
      go_wp2_with fail
      refine ret_cell rfl (g := h) rfl (load_run (set4 HX.out.2.2.2.2.2.1 _ _ _ _)) rfl ?_
      have hfs : Fr (HK.One h) wr _ := fr4 wr h (.slice oA on oc) (.slice none 0 0) (.bool false) (.int .i64 (p : Int))
      have hhw : ∀ k, k < w.heap.size → HK.One h k → No k := fun k hk e => by have e : k = h := e; have := HHG.out.1; omega
      refine ⟨oA, on, oc, none, 0, 0, ?_, ?_, ?_, HX.out.2.2.2.2.2.2.2.2.trans hfs hhw⟩
      · rw [HEE.out.1, HX.out.1.2.2.1, HX.out.1.2.1]
      · rw [HEE.out.1]
        obtain ⟨ob, h1, h2⟩ := HX.out.2.2.2.2.2.2.1.fr hfs (fun k h1 _ e => by have e : k = h := e; have := HHG.out.1; omega)
        exact ⟨ob, h1, fun k e => by have := h2 k e; omega⟩
      · rw [HEE.out.2]; exact OutB.nil _ _
    · have hpl : p < bs.length := by rw [HN.out.1]; omega
      obtain ⟨ad, rfl, hcb⟩ := (HX.out.2.1.fr0 HX.out.2.2.2.2.2.2.2.2).atN 0 (by rw [List.length_drop, HN.out.1]; omega)
      have hcx := bs[p].toNat_lt
      obtain ⟨cx, hcx2⟩ : ∃ x, x = bs[p].toNat := ⟨_, rfl⟩
      have hq0 : wr.cell? ad = some (.int .u8 (cx : Int)) := by
        rw [hcx2]
        rw [rdB_drop, Nat.add_zero, take_B bs p hpl] at hcb
        exact hcb
      have hwg : IntKind.i64.wrap (cx : Int) = (cx : Int) := w64 _ (by omega) (by omega)
      have hcut := cut_l slU8 (some ad) nn cc 1 1 rfl (by omega)
      rw [← hcx2] at hcx
      obtain ⟨c0, c1, c2, c3, cf⟩ := blk4 HX.out.2.2.2.2.1
      have HCX := hid hcx2
      have hb1 : (0 : Int) < (nn : Int) := by omega
      clear hcb hcx2
      go_upto_region 6 with fail
      rw [show (p : Int) + 1 = ((p + 1 : Nat) : Int) by omega]
      obtain ⟨w2, hw2⟩ : ∃ W, W = wr.setCell ⟨g, 3, none⟩ (.int .i64 ((p + 1 : Nat) : Int)) := ⟨_, rfl⟩
      rw [← hw2]
      have hb2 : w2.heap[g]? = some (.cells #[.slice oA on oc, .slice none 0 0, .bool false, .int .i64 ((p + 1 : Nat) : Int)] 55 (0, 0)) := by rw [hw2]; exact kt3 HX.out.2.2.2.2.1 _
      have hf2 : Fr (HK.One g) wr w2 := by rw [hw2]; exact Fr.set1 wr g 3 _
      have hh2 : w2.heap[h]? = some (.cells #[.slice none 0 0, .slice none 0 0, .bool false, .int .i64 0] 55 (0, 0)) := (hf2.block h (Array.getElem?_eq_some_iff.1 HX.out.2.2.2.2.2.1).1 (fun e => by have e : h = g := e; have := HGH.out; omega)).trans HX.out.2.2.2.2.2.1
      have hO2 : OutB (w.heap.size + 2) w2 oA on oc s.out := HX.out.2.2.2.2.2.2.1.fr hf2 (fun k h1 _ e => by have e : k = g := e; have := HHG.out.2; omega)
      have hF2 : Fr No w w2 := HX.out.2.2.2.2.2.2.2.2.trans hf2 (fun k hk e => by have e : k = g := e; have := HHG.out.2; omega)
      have H2 := hid (And.intro hb2 (And.intro hh2 (And.intro hO2 hF2)))
      clear hw2 hf2 hh2 hO2 hF2 c0 c1 c2 c3 cf hq0
      obtain ⟨c0, c1, c2, c3, cf⟩ := blk4 hb2
      clear hb2
      obtain ⟨A2, hA2⟩ : ∃ A2, A2 = cutA (some ad) cc 1 1 := ⟨_, rfl⟩
      try rw [← hA2]
      have hrd2 : Rd B w A2 (bs.drop (p + 1)) := by
        rw [hA2, show bs.drop (p + 1) = (bs.drop p).drop 1 by rw [List.drop_drop]]
        exact HX.out.2.1.cutA 1 cc (by rw [List.length_drop, HN.out.1]; omega) (by rw [List.length_drop, HN.out.1]; omega)
      have HA2 := hid hrd2
      clear hrd2 hA2 hcut
      by_cases hz : cx = 0
      · subst hz
        have hgh : h < g := by have := HGH.out; omega
        have HEE := hid (edge_zero HX.out.1 hpl HCX.out.symm)
        go_upto_region 8 with fail
        obtain ⟨w3, hw3⟩ : ∃ W, W = w2.setCell ⟨g, 2, none⟩ (.bool true) := ⟨_, rfl⟩
        rw [← hw3]
        have hb3 : w3.heap[g]? = some (.cells #[.slice oA on oc, .slice none 0 0, .bool true, .int .i64 ((p + 1 : Nat) : Int)] 55 (0, 0)) := by rw [hw3]; exact kt2 H2.out.1 _
        have hf3 : Fr (HK.One g) w2 w3 := by rw [hw3]; exact Fr.set1 w2 g 2 _
        have hh3 : w3.heap[h]? = some (.cells #[.slice none 0 0, .slice none 0 0, .bool false, .int .i64 0] 55 (0, 0)) := (hf3.block h (Array.getElem?_eq_some_iff.1 H2.out.2.1).1 (fun e => by have e : h = g := e; have := HGH.out; omega)).trans H2.out.2.1
        have hO3 : OutB (w.heap.size + 2) w3 oA on oc s.out := H2.out.2.2.1.fr hf3 (fun k h1 _ e => by have e : k = g := e; have := HHG.out.2; omega)
        have hF3 : Fr No w w3 := H2.out.2.2.2.trans hf3 (fun k hk e => by have e : k = g := e; have := HHG.out.2; omega)
        have hg3 : w.heap.size + 2 ≤ w3.heap.size := by have h1 := (Array.getElem?_eq_some_iff.1 hb3).1; have h2 := HHG.out.2; omega
        have H3 := hid (And.intro hb3 (And.intro hh3 (And.intro hO3 (And.intro hF3 hg3))))
        clear hw3 hf3 hh3 hO3 hF3 hb3 hg3 c0 c1 c2 c3 cf
        go_wp2_with (at_builtin; refine wpList_app slU8 rfl (.tmp 22) (.tmp 23) rfl rfl (Row.new w3 1 0 [] _ rfl (by omega)) rfl (by rw [List.length_map, List.length_drop, HN.out.1]; omega) (Rd.cells.1 (HA2.out.fr0 (H3.out.2.2.2.1.alloc _))) (oneB _) (by omega) (by omega) ?_; intro A4 c4 w4 ob4 hv4 hf4 hob4; simp only [Nat.zero_add, List.nil_append] at hv4 ⊢; obtain ⟨ho4, hk4⟩ := after_new hf4 hob4; have H4 := hid (And.intro hv4 (And.intro ho4 hk4)); clear hv4 hf4 hob4 ho4 hk4; have hb4 := (H4.out.2.1.block g (Array.getElem?_eq_some_iff.1 H3.out.1).1 (fun h => h)).trans H3.out.1; have hh4 := (H4.out.2.1.block h (Array.getElem?_eq_some_iff.1 H3.out.2.1).1 (fun h => h)).trans H3.out.2.1; have HB4 := hid (And.intro hb4 hh4); obtain ⟨c0, c1, c2, c3, cf⟩ := blk4 hb4; obtain ⟨d0, d1, d2, d3, df⟩ := blk4 hh4; clear hb4 hh4)
        refine ret_cell rfl (g := h) rfl (load_run (set4 (((Fr.set1 w4 g 1 _).block h (Array.getElem?_eq_some_iff.1 HB4.out.2).1 (fun e => by have e : h = g := e; omega)).trans HB4.out.2) _ _ _ _)) rfl ?_
        obtain ⟨w5, hw5⟩ : ∃ W, W = w4.setCell ⟨g, 1, none⟩ (.slice A4 (nn - 1) c4) := ⟨_, rfl⟩
        have hf5 : Fr (HK.One g) w4 w5 := by rw [hw5]; exact Fr.set1 w4 g 1 _
        rw [← hw5]
        have hfs : Fr (HK.One h) w5 _ := fr4 w5 h (.slice oA on oc) (.slice A4 (nn - 1) c4) (.bool true) (.int .i64 ((p + 1 : Nat) : Int))
        have hO := (H3.out.2.2.1.fr0 H4.out.2.1).fr hf5 (fun k h1 _ e => by have e : k = g := e; have := HHG.out; omega)
        have hO2 := hO.fr hfs (fun k h1 _ e => by have e : k = h := e; have := HHG.out; omega)
        have hR : OutB (w.heap.size + 2) w4 A4 (nn - 1) c4 (bs.drop (p + 1)) := ⟨ob4, H4.out.1, fun k e => Nat.le_trans H3.out.2.2.2.2 (H4.out.2.2 k e)⟩
        have hR1 := hR.fr hf5 (fun k h1 _ e => by have e : k = g := e; have := HHG.out; omega)
        have hR2 := hR1.fr hfs (fun k h1 _ e => by have e : k = h := e; have := HHG.out; omega)
        have hF5 : Fr No w w5 := (H3.out.2.2.2.1.then H4.out.2.1).trans hf5 (fun k hk e => by have e : k = g := e; have := HHG.out; omega)
        refine ⟨oA, on, oc, A4, nn - 1, c4, ?_, ?_, ?_, hF5.trans hfs (fun k hk e => by have e : k = h := e; have := HHG.out; omega)⟩
        · rw [HEE.out.1]; first | done | rfl | simp
        · rw [HEE.out.1]
          obtain ⟨ob, h1, h2⟩ := hO2
          exact ⟨ob, h1, fun k e => by have := h2 k e; omega⟩
        · rw [HEE.out.2]
          obtain ⟨ob, h1, h2⟩ := hR2
          exact ⟨ob, h1, fun k e => by have := h2 k e; omega⟩
      · have hz' : ((cx : Int) == 0) = false := by rw [beq_eq_false_iff_ne]; omega
        have hmn : mn (cx : Int) ((nn - 1 : Nat) : Int) = ((min cx (nn - 1) : Nat) : Int) := by rw [mn_eq]; omega
        go_upto_region 11 with fail
        try rw [hmn]
        obtain ⟨m, hm⟩ : ∃ m, m = min cx (nn - 1) := ⟨_, rfl⟩
        rw [← hm]
        obtain ⟨s', hE', hout⟩ := edge_step HX.out.1 hpl (by rw [← HCX.out]; exact hz) (m := m) (by rw [← HCX.out, HN.out.1, hm]; congr 1; omega)
        have hm1 : m ≤ nn - 1 := by omega
        have hm2 : 1 ≤ m ∨ nn = 1 := by omega
        have HE' := hid (And.intro hE' hout)
        clear hm hE' hout hmn
        have hcut := cut_h slU8 A2 (nn - 1) (cc - 1) (m : Int) m rfl (by omega)
        refine wp_region_held_drew (S := (fun _ => True)) (by kernel_rfl) trivial (fun hHeld => ?_)
        refine takeD (i := 0) (d := some 31) (v := (.pointer (some ⟨g, 0, none⟩))) rfl rfl (by kernel_rfl) (by kernel_rfl) (by kernel_rfl) (fun _ _ _ h => h) (by rfl) ?_ trivial ?_
        · intro w' hSw
          go_simp
          first | done | rfl
        (try simp only [Act.put, List.setIfInBounds_toArray, List.set_cons_zero, List.set_cons_succ])
        refine takeD (i := 2) (d := some 33) (v := (.slice A2 (nn - 1) (cc - 1))) rfl rfl (by kernel_rfl) (by kernel_rfl) (by kernel_rfl) (fun _ _ _ h => h) (by rfl) ?_ trivial ?_
        · intro w' hSw
          go_simp
          first | done | rfl
        (try simp only [Act.put, List.setIfInBounds_toArray, List.set_cons_zero, List.set_cons_succ])
        refine takeD (i := 3) (d := some 34) (v := (.int .i64 (m : Int))) rfl rfl (by kernel_rfl) (by kernel_rfl) (by kernel_rfl) (fun _ _ _ h => h) (by rfl) ?_ trivial ?_
        · intro w' hSw
          go_simp
          first | done | rfl
        (try simp only [Act.put, List.setIfInBounds_toArray, List.set_cons_zero, List.set_cons_succ])
        refine takeD (i := 4) (d := some 35) (v := (.slice A2 m (cc - 1))) rfl rfl (by kernel_rfl) (by kernel_rfl) (by kernel_rfl) (fun _ _ _ h => h) (by rfl) ?_ trivial ?_
        · intro w' hSw
          go_simp
          first | done | rfl
        (try simp only [Act.put, List.setIfInBounds_toArray, List.set_cons_zero, List.set_cons_succ])
        refine oneD (i := 1) (by kernel_rfl) rfl (fun KK hK => ?_)
        go_simp
        refine hK.out _ _ trivial (fun hHeld => ?_)
        clear hK KK
        (try simp only [Act.put, List.setIfInBounds_toArray, List.set_cons_zero, List.set_cons_succ])
        refine oneD (i := 5) (by kernel_rfl) rfl (fun KK hK => ?_)
        obtain ⟨ob1, hrow1, hob1⟩ := H2.out.2.2.1
        have HO1 := hid hob1
        have hg2 : g < w2.heap.size := (Array.getElem?_eq_some_iff.1 H2.out.1).1
        have hh2 : h < w2.heap.size := (Array.getElem?_eq_some_iff.1 H2.out.2.1).1
        refine step_app slU8 rfl (.tmp 32) (.tmp 35) rfl rfl (hrow1.drew) rfl (by rw [List.length_map, List.length_take, List.length_drop, HN.out.1]; omega) (Rd.cells.1 (((HA2.out.take m).fr0 H2.out.2.2.2).drew)) (oneB _) (by omega) (by omega) ?_
        intro A4 c4 w4 ob4 hv4 hf4 hob4
        rw [← List.map_append, ← HE'.out.2] at hv4
        have hsz := H2.out.2.2.2.size
        have hk4 : ∀ q, ob4 = some q → w.heap.size + 2 ≤ q := fun q hq => by
          rcases hob4 with e | ⟨j, e, hj⟩
          · exact HO1.out q (by rw [← e]; exact hq)
          · rw [e] at hq; injection hq with hq; simp only [World.size_drew] at hj; have := HHG.out.2; omega
        have hf4' : Fr (Opt ob1) w2 w4 := ((Fr.refl _ w2).drew).then hf4
        have hb4 := (hf4'.block g hg2 (fun e => by have e : some g = ob1 := e; have := HO1.out g e.symm; have := HHG.out; omega)).trans H2.out.1
        have hh4 := (hf4'.block h hh2 (fun e => by have e : some h = ob1 := e; have := HO1.out h e.symm; have := HHG.out; omega)).trans H2.out.2.1
        have hF4 : Fr No w w4 := H2.out.2.2.2.trans hf4' (fun k hk e => by have e : some k = ob1 := e; have := HO1.out k e.symm; omega)
        have H4 := hid (And.intro hv4 (And.intro hk4 (And.intro hb4 (And.intro hh4 hF4))))
        obtain ⟨e0, e1, e2, e3, ef⟩ := blk4 hb4
        clear hv4 hf4 hob4 hk4 hf4' hb4 hh4 hF4 hob1 hrow1
        refine hK.out _ _ trivial (fun hHeld => ?_)
        clear hK KK
        (try simp only [Act.put, List.setIfInBounds_toArray, List.set_cons_zero, List.set_cons_succ])
        refine takeD (i := 6) (d := some 37) (v := (.pointer (some ⟨g, 0, none⟩))) rfl rfl (by kernel_rfl) (by kernel_rfl) (by kernel_rfl) (fun _ _ _ h => h) (by rfl) ?_ trivial ?_
        · intro w' hSw
          go_simp
          first | done | rfl
        (try simp only [Act.put, List.setIfInBounds_toArray, List.set_cons_zero, List.set_cons_succ])
        refine oneD (i := 7) (by kernel_rfl) rfl (fun KK hK => ?_)
        go_simp
        refine hK.out _ _ trivial (fun hHeld => ?_)
        clear hK KK
        (try simp only [Act.put, List.setIfInBounds_toArray, List.set_cons_zero, List.set_cons_succ])
        refine wpAnyH_done (by kernel_rfl) ?_ _
        clear hHeld
        obtain ⟨w5, hw5⟩ : ∃ W, W = w4.setCell ⟨g, 0, none⟩ (.slice A4 (on + m) c4) := ⟨_, rfl⟩
        rw [← hw5]
        have hb5 : w5.heap[g]? = some (.cells #[.slice A4 (on + m) c4, .slice none 0 0, .bool false, .int .i64 ((p + 1 : Nat) : Int)] 55 (0, 0)) := by rw [hw5]; exact kt0 H4.out.2.2.1 _
        have hf5 : Fr (HK.One g) w4 w5 := by rw [hw5]; exact Fr.set1 w4 g 0 _
        have H5 := hid (And.intro hb5 hf5)
        clear hw5 hf5 c0 c1 c2 c3 cf e0 e1 e2 e3 ef
        obtain ⟨c0, c1, c2, c3, cf⟩ := blk4 hb5
        clear hb5
        have hcut2 := cut_l slU8 A2 (nn - 1) (cc - 1) (m : Int) m rfl (by omega)
        go_wp2_with fail
        go_roundw
        case rel =>
          rw [show (p : Int) + 1 + (m : Int) = ((p + 1 + m : Nat) : Int) by omega]
          have hfs : Fr (HK.One g) w5 (w5.setCell ⟨g, 3, none⟩ (.int .i64 ((p + 1 + m : Nat) : Int))) := Fr.set1 w5 g 3 _
          refine ⟨p + 1 + m, nn - 1 - m, cc - 1 - m, cutA A2 (cc - 1) m 1, rfl, by omega, hid ⟨s', A4, on + m, c4, HE'.out.1, ?_, by omega, trivial, ?_, ?_, ?_, by omega, ?_⟩⟩
          · rw [show bs.drop (p + 1 + m) = (bs.drop (p + 1)).drop m by rw [List.drop_drop]]
            exact HA2.out.cutA m (cc - 1) (by rw [List.length_drop, HN.out.1]; omega) (by rw [List.length_drop, HN.out.1]; omega)
          · exact kt3 H5.out.1 _
          · exact ((hfs.block h (by have := H5.out.2.size; have := (Array.getElem?_eq_some_iff.1 H4.out.2.2.2.1).1; omega) (fun e => by have e : h = g := e; have := HHG.out; omega)).trans (H5.out.2.block h (Array.getElem?_eq_some_iff.1 H4.out.2.2.2.1).1 (fun e => by have e : h = g := e; have := HHG.out; omega))).trans H4.out.2.2.2.1
          · exact (OutB.fr ⟨ob4, H4.out.1, H4.out.2.1⟩ H5.out.2 (fun k h1 _ e => by have e : k = g := e; have := HHG.out; omega)).fr hfs (fun k h1 _ e => by have e : k = g := e; have := HHG.out; omega)
          · exact (H4.out.2.2.2.2.trans H5.out.2 (fun k hk e => by have e : k = g := e; have := HHG.out; omega)).trans hfs (fun k hk e => by have e : k = g := e; have := HHG.out; omega)
        case measure => simp only [slLen]; omega
end Go.Proofs.YtamkfjbdcjkchaaDoor

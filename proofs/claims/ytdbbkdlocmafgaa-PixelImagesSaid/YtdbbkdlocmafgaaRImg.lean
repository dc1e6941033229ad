/- The contract of the document's Image. -/
import Derived.Test.YtdbbkdlocmafgaaImgP
import Derived.Test.YtdbbkdlocmafgaaROf
import Derived.Test.YtdbbkdlocmafgaaReg
import Derived.Test.YtdbbkdlocmafgaaPack
namespace Go.Proofs.Ytdbbkdlocmafgaa
open Go.RowKit Go.Proofs.HK
set_option linter.unusedVariables false
set_option linter.unusedSimpArgs false
attribute [local go_sem] max2_int min2_int max_two min_two

def imgN (r : RS) : Nat := (samS r.C).toNat
def imgK (r : RS) : Nat := r.sa.length / imgN r
def imgC (r : RS) : List Col := if chkS r = 0 then imgL r (imgN r) (imgK r) else []
def imgW (r : RS) : Int := if chkS r = 0 then r.W else 0
def imgH (r : RS) : Int := if chkS r = 0 then r.H else 0
/-- e tells an image, of a row just made, and an error. -/
def RetImg (w : World) (r : RS) (e : Ending) (w' : World) : Prop := ∃ A n c ob, e = .returned (.tuple #[.agg #[.int .i64 (imgW r), .int .i64 (imgH r), .slice A n c], .int .i64 (chkS r)]) ∧ n = (imgC r).length ∧ Row w' 4 (.slice A n c) ob n (colsC (imgC r)) ∧ (∀ k, ob = some k → w.heap.size ≤ k) ∧ Fr No w w'
theorem slC4 : SlT Try.prog 50 38 4 8 := SlT.of (z := .agg #[.int .u16 0, .int .u16 0, .int .u16 0, .int .u16 0]) Try.underlying50 (by kernel_rfl) rfl (by decide)
theorem blk3i {W : World} {g : Nat} {v0 v1 v2 : Value} {t : TypeId} (hb : W.heap[g]? = some (.cells #[v0, v1, v2] t (0, 0))) :
    (W.cell? ⟨g, 0, none⟩ = some v0 ∧ W.cell? ⟨g, 1, none⟩ = some v1 ∧ W.cell? ⟨g, 2, none⟩ = some v2) ∧ W.frozen? ⟨g, 0, none⟩ = false ∧ W.frozen? ⟨g, 1, none⟩ = false ∧ W.frozen? ⟨g, 2, none⟩ = false := by
  simp [World.cell?, World.frozen?, hb]
theorem res_img (W : World) (g : Nat) (F S : Int) (A : Option Addr) (n c : Nat) (hb : W.heap[g]? = some (.cells #[.int .i64 F, .int .i64 S, .slice A n c] 52 (0, 0))) :
    (Go.asAddr (Value.pointer (some ⟨g, 0, none⟩))).run Try.prog W = .ok ⟨g, 0, none⟩ W ∧ (Go.loadVar 52 ⟨g, 0, none⟩).run Try.prog W = .ok (.agg #[.int .i64 F, .int .i64 S, .slice A n c]) W := by
  obtain ⟨⟨c0, c1, c2⟩, _⟩ := blk3i hb
  refine ⟨by simp [Go.asAddr], ?_⟩
  unfold Go.loadVar
  go_simp
  first | done | rfl
theorem ret_img {fn : Func} (hres : fn.results = #[.cell 2 52, .tmp 3]) {R : Ending → World → Prop} {W : World} {g : Nat} {F S : Int} {A : Option Addr} {n c : Nat} {er : Value} {a : Act} (hb : W.heap[g]? = some (.cells #[.int .i64 F, .int .i64 S, .slice A n c] 52 (0, 0)))
    (h2 : a.tmps.getD 2 undef = .pointer (some ⟨g, 0, none⟩)) (h3 : a.tmps.getD 3 undef = er) (hd : a.defers = []) (hR : R (.returned (.tuple #[.agg #[.int .i64 F, .int .i64 S, .slice A n c], er])) W) : bodyPost Try.prog fn R .ret a W := by
  refine bodyPost_ret (v := .tuple #[.agg #[.int .i64 F, .int .i64 S, .slice A n c], er]) ?_ hd hR
  have hr := res_img W g F S A n c hb
  have h2' : a.tmps[2]?.getD undef = .pointer (some ⟨g, 0, none⟩) := by simpa using h2
  have h3' : a.tmps[3]?.getD undef = er := by simpa using h3
  simp [results, hres, h2', h3', hr.1, hr.2]
theorem set3i {W : World} {g : Nat} {a b c u v x : Value} {t : TypeId} (hb : W.heap[g]? = some (.cells #[a, b, c] t (0, 0))) :
    (((W.setCell ⟨g, 0, none⟩ u).setCell ⟨g, 1, none⟩ v).setCell ⟨g, 2, none⟩ x).heap[g]? = some (.cells #[u, v, x] t (0, 0)) := by
  rw [heap_set _ g 2 _ t x (heap_set _ g 1 _ t v (heap_set _ g 0 _ t u hb))]
  rfl
theorem fr3i {S : Nat → Prop} {w W : World} {g : Nat} (u v x : Value) (h : Fr S w W) (hg : g < w.heap.size → S g) : Fr S w (((W.setCell ⟨g, 0, none⟩ u).setCell ⟨g, 1, none⟩ v).setCell ⟨g, 2, none⟩ x) :=
  ((h.setCell (p := ⟨g, 0, none⟩) hg u).setCell (p := ⟨g, 1, none⟩) hg v).setCell (p := ⟨g, 2, none⟩) hg x
set_option maxRecDepth 100000 in
set_option maxHeartbeats 3200000 in
theorem refImage_calls (r : RS) (w : World) (hr : r.ok w) : Calls Try.prog 23 #[r.v] w (RetImg w r) := by
  obtain ⟨E, hE⟩ : ∃ E, E = chkS r := ⟨_, rfl⟩
  have hck : ∀ W, Fr No w W → Calls Try.prog 18 #[r.v] W fun e w' => e = .returned (.int .i64 E) ∧ Fr No W w' := fun W hW => by rw [hE]; exact refCheck_calls r W (hr.fr hW)
  have HCK := hid hck
  have HE := hid hE
  have HR := hid hr
  have hfin : E ≠ 0 → ∀ (W : World) (g : Nat), Fr No w W → w.heap.size ≤ g → RetImg w r (.returned (.tuple #[.agg #[.int .i64 0, .int .i64 0, .slice none 0 0], .int .i64 E])) (((W.setCell ⟨g, 0, none⟩ (.int .i64 0)).setCell ⟨g, 1, none⟩ (.int .i64 0)).setCell ⟨g, 2, none⟩ (.slice none 0 0)) := fun h0 W g hW hg => by
    have h : ¬ chkS r = 0 := by rw [← HE.out]; exact h0
    refine ⟨none, 0, 0, none, ?_, ?_, ?_, fun _ h => (by cases h), fr3i _ _ _ hW (fun h => absurd h (by omega))⟩
    · unfold imgW imgH; rw [if_neg h, if_neg h, HE.out]
    · unfold imgC; rw [if_neg h]; rfl
    · unfold imgC; rw [if_neg h]; exact Row.nil _ _
  have HFIN := hid hfin
  have hof : ∀ W, Fr No w W → ∀ (A : Option Addr) (xs : List Int) (m c : Nat), xs.length = m → Rd II W A xs → m ≤ 5000 → ofE r xs = 0 → Calls Try.prog 16 #[r.v, .slice A m c] W fun e w' => e = .returned (.tuple #[(ofC r xs).v, .int .i64 0]) ∧ Fr No W w' := fun W hW A xs m c h1 h2 h3 h4 => by
    have := refOf_calls r A xs m c W (hr.fr hW) h1 h2 h3
    rw [h4] at this; exact this
  have HOF := hid hof
  have himg : E = 0 → _ := fun h => chk_img (r := r) (hE.symm.trans h)
  have HIMG := hid himg
  clear hck hE hfin hof himg
  obtain ⟨ro, hro⟩ : ∃ x, x = r := ⟨_, rfl⟩
  rw [← hro] at HE HFIN HOF HIMG HCK HR ⊢
  have hrv : ro.v = r.v := by rw [hro]
  rw [hrv] at HCK HOF
  rw [hrv]
  have HRO := hid hro
  clear hro hrv
  obtain ⟨W, H, C, D, L, tA, ts, tc, aA, al, ac, cA, cl, cc, sA, sa, sc⟩ := r
  obtain ⟨nt, hnt⟩ : ∃ n, n = ts.length := ⟨_, rfl⟩
  obtain ⟨na, hna⟩ : ∃ n, n = al.length := ⟨_, rfl⟩
  obtain ⟨nc, hnc⟩ : ∃ n, n = cl.length := ⟨_, rfl⟩
  obtain ⟨ns, hns⟩ : ∃ n, n = sa.length := ⟨_, rfl⟩
  obtain ⟨v, hv⟩ : ∃ v, v = (RS.mk W H C D L tA ts tc aA al ac cA cl cc sA sa sc).v := ⟨_, rfl⟩
  have hv2 : v = .agg #[.int .i64 W, .int .i64 H, .int .i64 C, .int .i64 D, .bool L, .slice tA nt tc, .slice aA na ac, .slice cA nc cc, .slice sA ns sc] := by rw [hv, hnt, hna, hnc, hns]; rfl
  obtain ⟨T, hT⟩ : ∃ T, T = tabS ⟨W, H, C, D, L, tA, ts, tc, aA, al, ac, cA, cl, cc, sA, sa, sc⟩ := ⟨_, rfl⟩
  obtain ⟨w2, hw2⟩ : ∃ w2, w2 = w.alloc (.cells #[.int .i64 W, .int .i64 H, .int .i64 C, .int .i64 D, .bool L, .slice tA nt tc, .slice aA na ac, .slice cA nc cc, .slice sA ns sc] 34) := ⟨_, rfl⟩
  obtain ⟨g, hg⟩ : ∃ g, g = w.heap.size := ⟨_, rfl⟩
  have hf2 : Fr No w w2 := by rw [hw2]; exact (Fr.refl _ _).alloc _
  have hb9 : w2.heap[g]? = some (.cells #[.int .i64 W, .int .i64 H, .int .i64 C, .int .i64 D, .bool L, .slice tA nt tc, .slice aA na ac, .slice cA nc cc, .slice sA ns sc] 34 (0, 0)) := by rw [hw2, hg]; exact heap_new _ _
  have hcell : ∀ X, Fr No w2 X → X.heap[g]? = some (.cells #[.int .i64 W, .int .i64 H, .int .i64 C, .int .i64 D, .bool L, .slice tA nt tc, .slice aA na ac, .slice cA nc cc, .slice sA ns sc] 34 (0, 0)) := fun X hf => (hf.block g (Array.getElem?_eq_some_iff.1 hb9).1 (fun h => h)).trans hb9
  have hgs : g < w2.heap.size := (Array.getElem?_eq_some_iff.1 hb9).1
  have hl : ns ≤ 5000 := by rw [hns]; exact hr.sl
  have HC := hid hcell
  have HW := hid (And.intro hw2 (And.intro hg (And.intro hf2 (And.intro (hr.fr hf2) (And.intro hv2 hns)))))
  have HV := hid hv
  have HT := hid hT
  rw [show (RS.mk W H C D L tA ts tc aA al ac cA cl cc sA sa sc).v = .agg #[.int .i64 W, .int .i64 H, .int .i64 C, .int .i64 D, .bool L, .slice tA nt tc, .slice aA na ac, .slice cA nc cc, .slice sA ns sc] from hv.symm.trans hv2]
  clear hw2 hg hf2 hb9 hcell hr hnt hna hnc hns hv hv2 hT
  obtain ⟨X, hX⟩ : ∃ X, X = w2.alloc (.cells #[.int .i64 0, .int .i64 0, .slice none 0 0] 52) := ⟨_, rfl⟩
  have hgw : w2.heap.size = g + 1 := by rw [HW.out.1, HW.out.2.1, World.size_alloc]
  have hbX : X.heap[g + 1]? = some (.cells #[.int .i64 0, .int .i64 0, .slice none 0 0] 52 (0, 0)) := by rw [hX, ← hgw]; exact heap_new _ _
  have hfX : Fr No w2 X := by rw [hX]; exact (Fr.refl No w2).alloc _
  have HX := hid (And.intro hX (And.intro hbX (And.intro hfX hgw)))
  clear hX hbX hfX hgw
  by_cases hE0 : E = 0
  · subst hE0
    obtain ⟨n, N, hC, hn1, hn4, hlen, hT0, hchunk⟩ := HIMG.out rfl
    have hCn : samS C = (n : Int) := by rw [HRO.out] at hC; exact hC
    have hns : ns = N * n := by rw [HRO.out] at hlen; rw [HW.out.2.2.2.2.2]; exact hlen
    have hsr : Rd II w sA sa := by have := HR.out.s; rw [HRO.out] at this; exact this
    have hsc : ns ≤ sc := by have := HR.out.scap; rw [HRO.out] at this; rw [HW.out.2.2.2.2.2]; exact this
    have HN := hid (And.intro hCn (And.intro hns (And.intro hsr (And.intro hchunk (And.intro hlen hC)))))
    clear hC hlen hT0 hchunk hCn hns hsr HIMG HFIN
    go_enter Try.func23, Try.ntmps23
    go_wp2_with fail
    rw [← HW.out.1, ← HW.out.2.1, ← HX.out.1, ← HW.out.2.2.2.2.1, HV.out]
    refine (HCK.out _ (HW.out.2.2.1.then HX.out.2.2.1)).mono ?_
    rw [← HV.out, HW.out.2.2.2.2.1]
    rintro e w4 ⟨rfl, hf4⟩
    have hb9 := HC.out w4 (HX.out.2.2.1.then hf4)
    have hb4 := (hf4.block (g + 1) (Array.getElem?_eq_some_iff.1 HX.out.2.1).1 (fun h => h)).trans HX.out.2.1
    obtain ⟨q0, q1, q2, q3, q4, q5, q6, q7, q8⟩ := blk9 hb9
    have al2 : ∀ i v, w4.cell? ⟨g, i, none⟩ = some v → ∀ o, (w4.alloc o).cell? ⟨g, i, none⟩ = some v := fun i v h o => (((Fr.refl No w4).alloc o).cell (lt_of_cell h) (fun h => h)).trans h
    have a2 := al2 _ _ q2
    have H4 := hid (And.intro hb4 (And.intro hf4 hb9))
    clear hb4 hf4 hb9 al2 q3 q4 q5 q6 q7 q8
    go_wp2_with fail
    obtain ⟨g5, hg5⟩ : ∃ g, g = w4.heap.size := ⟨_, rfl⟩
    obtain ⟨Y, hY⟩ : ∃ Y, Y = w4.alloc (.cells #[.int .i64 W, .int .i64 H, .slice none 0 0] 52) := ⟨_, rfl⟩
    rw [← hg5, ← hY]
    have hfY : Fr No w4 Y := by rw [hY]; exact (Fr.refl No w4).alloc _
    have hbY : Y.heap[g5]? = some (.cells #[.int .i64 W, .int .i64 H, .slice none 0 0] 52 (0, 0)) := by rw [hY, hg5]; exact heap_new _ _
    have HY := hid (And.intro hfY (And.intro hbY (And.intro hg5 hY)))
    clear hfY hbY hg5 hY q0 q1 q2 a2
    refine (refSamples_calls C _).mono ?_
    rw [HN.out.1]
    rintro e w5 ⟨rfl, hw5⟩
    rw [hw5]
    clear hw5 w5
    go_wp2_with fail
    go_loopw [7] (fun i wr => ∃ j : Nat, i = .int .i64 j ∧ Hid (∃ k A c ob, j = k * n ∧ k ≤ N ∧ wr.heap[g5]? = some (.cells #[.int .i64 W, .int .i64 H, .slice A k c] 52 (0, 0)) ∧ Row wr 4 (.slice A k c) ob k (colsC (imgL ro n k)) ∧ (∀ q, ob = some q → Y.heap.size ≤ q) ∧ Fr (HK.One g5) Y wr)) (fun i _ => ns - (intOf i).toNat)
    case atStart => exact ⟨0, rfl, 0, none, 0, none, by omega, by omega, HY.out.2.1, Row.nil _ _, fun _ h => (by cases h), Fr.refl _ _⟩
    case round =>
      obtain ⟨j, rfl, HQ⟩ := hrel
      obtain ⟨k, A, c, ob, hj, hk, hb5, hrow, hob, hfr⟩ := HQ.out
      have hgY : g < w4.heap.size := (Array.getElem?_eq_some_iff.1 H4.out.2.2).1
      have h45 := HY.out.1.size
      have hg5 := HY.out.2.2.1
      have hb9 := (hfr.block g (by omega) (fun e => by have e : g = g5 := e; omega)).trans ((HY.out.1.block g hgY (fun h => h)).trans H4.out.2.2)
      obtain ⟨q0, q1, q2, q3, q4, q5, q6, q7, q8⟩ := blk9 hb9
      have HB := hid (And.intro hj (And.intro hk (And.intro hb5 (And.intro hrow (And.intro hob (And.intro hfr hb9))))))
      clear hj hk hb5 hrow hob hfr hb9 hg5 hgY
      by_cases hlt : j < ns
      · have hlt' : (j : Int) < (ns : Int) := by omega
        have hcut := cut_lh slII sA ns sc (j : Int) ((j : Int) + (n : Int)) j n rfl rfl (by
          have h1 := HB.out.1
          have h2 := HN.out.2.1
          have h3 : k < N := by
            refine Nat.lt_of_not_le (fun h => ?_)
            have := Nat.mul_le_mul_right n h
            omega
          have h4 : (k + 1) * n ≤ N * n := Nat.mul_le_mul_right _ h3
          rw [Nat.succ_mul] at h4
          omega)
        have hjN : k < N := by
          have h1 := HB.out.1
          have h2 := HN.out.2.1
          refine Nat.lt_of_not_le (fun h => ?_)
          have := Nat.mul_le_mul_right n h
          omega
        have hjn : j + n ≤ ns := by
          have h1 := HB.out.1
          have h2 := HN.out.2.1
          have h4 : (k + 1) * n ≤ N * n := Nat.mul_le_mul_right _ hjN
          rw [Nat.succ_mul] at h4
          omega
        have hch := HN.out.2.2.2.1 k hjN
        have hFw : Fr No w wr := ((HW.out.2.2.1.then (HX.out.2.2.1.then H4.out.2.1)).then HY.out.1).trans HB.out.2.2.2.2.2.1 (fun q hq e => by have e : q = g5 := e; have := HY.out.2.2.1; have := (HW.out.2.2.1.then (HX.out.2.2.1.then H4.out.2.1)).size; omega)
        have hchunk : (sa.drop j).take n = chunkP ro n k := by unfold chunkP; rw [HRO.out, HB.out.1]
        obtain ⟨x, y, z, u, hcv⟩ : ∃ x y z u, (ofC ro (chunkP ro n k)).v = .agg #[.int .u16 x, .int .u16 y, .int .u16 z, .int .u16 u] := ⟨_, _, _, _, rfl⟩
        have hcol : colC (colS ro (chunkP ro n k)) = [.int .u16 x, .int .u16 y, .int .u16 z, .int .u16 u] := by
          rw [hch.2.2.2] at hcv
          unfold Col.v colV at hcv
          injection hcv with hcv
          exact congrArg Array.toList hcv
        have hof1 : ∀ W', Fr No wr W' → Calls Try.prog 16 #[.agg #[.int .i64 W, .int .i64 H, .int .i64 C, .int .i64 D, .bool L, .slice tA nt tc, .slice aA na ac, .slice cA nc cc, .slice sA ns sc], .slice (cutA sA sc j 1) n (sc - j)] W' fun e w' => e = .returned (.tuple #[.agg #[.int .u16 x, .int .u16 y, .int .u16 z, .int .u16 u], .int .i64 0]) ∧ Fr No W' w' := fun W' hW' => by
          have := HOF.out W' (hFw.then hW') (cutA sA sc j 1) (chunkP ro n k) n (sc - j) hch.1 (by rw [← hchunk]; exact (((HN.out.2.2.1.fr0 hFw).fr0 hW').cutA j sc (by rw [← HW.out.2.2.2.2.2]; exact hsc) (by rw [← HW.out.2.2.2.2.2]; omega)).take n) (by omega) hch.2.2.1
          rw [hcv, ← HV.out, HW.out.2.2.2.2.1] at this
          exact this
        have HO := hid (And.intro hof1 (And.intro hcol (And.intro hFw hjN)))
        have hadd : IntKind.i64.wrap ((j : Int) + (n : Int)) = (j : Int) + (n : Int) := w64 _ (by omega) (by omega)
        have HS9 := hid (show (fun W' => W'.cell? ⟨g, 0, none⟩ = some (.int .i64 W) ∧ W'.cell? ⟨g, 1, none⟩ = some (.int .i64 H) ∧ W'.cell? ⟨g, 2, none⟩ = some (.int .i64 C) ∧ W'.cell? ⟨g, 3, none⟩ = some (.int .i64 D) ∧ W'.cell? ⟨g, 4, none⟩ = some (.bool L) ∧ W'.cell? ⟨g, 5, none⟩ = some (.slice tA nt tc) ∧ W'.cell? ⟨g, 6, none⟩ = some (.slice aA na ac) ∧ W'.cell? ⟨g, 7, none⟩ = some (.slice cA nc cc) ∧ W'.cell? ⟨g, 8, none⟩ = some (.slice sA ns sc)) wr from ⟨q0, q1, q2, q3, q4, q5, q6, q7, q8⟩)
        clear hof1 hcol hFw hjN hch hchunk hcv
        have b1 : (0 : Int) ≤ (j : Int) := by omega
        have b2 : (j : Int) ≤ (j : Int) + (n : Int) := by omega
        have b3 : (j : Int) + (n : Int) ≤ (sc : Int) := by omega
        go_wp2_with fail
        refine wp_region_held_drew (S := fun W' => W'.cell? ⟨g, 0, none⟩ = some (.int .i64 W) ∧ W'.cell? ⟨g, 1, none⟩ = some (.int .i64 H) ∧ W'.cell? ⟨g, 2, none⟩ = some (.int .i64 C) ∧ W'.cell? ⟨g, 3, none⟩ = some (.int .i64 D) ∧ W'.cell? ⟨g, 4, none⟩ = some (.bool L) ∧ W'.cell? ⟨g, 5, none⟩ = some (.slice tA nt tc) ∧ W'.cell? ⟨g, 6, none⟩ = some (.slice aA na ac) ∧ W'.cell? ⟨g, 7, none⟩ = some (.slice cA nc cc) ∧ W'.cell? ⟨g, 8, none⟩ = some (.slice sA ns sc)) (by kernel_rfl) HS9.out (fun hHeld => ?_)
        refine takeD (i := 0) (d := some 36) (v := ?_) rfl rfl (by kernel_rfl) (by kernel_rfl) (by kernel_rfl) (fun _ _ _ h => h) (by rfl) ?_ (by assumption) ?_
        rotate_left
        · intro w' hSw
          (try dsimp only at hSw)
          go_simp
          try with_reducible rfl
        try simp only [Act.put, List.setIfInBounds_toArray, List.set_cons_zero, List.set_cons_succ]
        refine takeD (i := 1) (d := some 37) (v := ?_) rfl rfl (by kernel_rfl) (by kernel_rfl) (by kernel_rfl) (fun _ _ _ h => h) (by rfl) ?_ (by assumption) ?_
        rotate_left
        · intro w' hSw
          (try dsimp only at hSw)
          go_simp
          try with_reducible rfl
        try simp only [Act.put, List.setIfInBounds_toArray, List.set_cons_zero, List.set_cons_succ]
        refine takeD (i := 2) (d := some 38) (v := ?_) rfl rfl (by kernel_rfl) (by kernel_rfl) (by kernel_rfl) (fun _ _ _ h => h) (by rfl) ?_ (by assumption) ?_
        rotate_left
        · intro w' hSw
          (try dsimp only at hSw)
          go_simp
          try with_reducible rfl
        try simp only [Act.put, List.setIfInBounds_toArray, List.set_cons_zero, List.set_cons_succ]
        refine takeD (i := 3) (d := some 39) (v := ?_) rfl rfl (by kernel_rfl) (by kernel_rfl) (by kernel_rfl) (fun _ _ _ h => h) (by rfl) ?_ (by assumption) ?_
        rotate_left
        · intro w' hSw
          (try dsimp only at hSw)
          go_simp
          try with_reducible rfl
        try simp only [Act.put, List.setIfInBounds_toArray, List.set_cons_zero, List.set_cons_succ]
        refine takeD (i := 4) (d := some 40) (v := ?_) rfl rfl (by kernel_rfl) (by kernel_rfl) (by kernel_rfl) (fun _ _ _ h => h) (by rfl) ?_ (by assumption) ?_
        rotate_left
        · intro w' hSw
          (try dsimp only at hSw)
          go_simp
          try with_reducible rfl
        try simp only [Act.put, List.setIfInBounds_toArray, List.set_cons_zero, List.set_cons_succ]
        refine takeD (i := 5) (d := some 41) (v := ?_) rfl rfl (by kernel_rfl) (by kernel_rfl) (by kernel_rfl) (fun _ _ _ h => h) (by rfl) ?_ (by assumption) ?_
        rotate_left
        · intro w' hSw
          (try dsimp only at hSw)
          go_simp
          try with_reducible rfl
        try simp only [Act.put, List.setIfInBounds_toArray, List.set_cons_zero, List.set_cons_succ]
        refine takeD (i := 6) (d := some 42) (v := ?_) rfl rfl (by kernel_rfl) (by kernel_rfl) (by kernel_rfl) (fun _ _ _ h => h) (by rfl) ?_ (by assumption) ?_
        rotate_left
        · intro w' hSw
          (try dsimp only at hSw)
          go_simp
          try with_reducible rfl
        try simp only [Act.put, List.setIfInBounds_toArray, List.set_cons_zero, List.set_cons_succ]
        refine takeD (i := 7) (d := some 43) (v := ?_) rfl rfl (by kernel_rfl) (by kernel_rfl) (by kernel_rfl) (fun _ _ _ h => h) (by rfl) ?_ (by assumption) ?_
        rotate_left
        · intro w' hSw
          (try dsimp only at hSw)
          go_simp
          try with_reducible rfl
        try simp only [Act.put, List.setIfInBounds_toArray, List.set_cons_zero, List.set_cons_succ]
        refine wpAnyH_ready (rs := [8, 12]) (by kernel_rfl) (by simp) (AllReadyH.cons rfl (fun K hK => ?_) (AllReadyH.cons rfl (fun K hK => ?_) AllReadyH.nil))
        · go_simp
          go_at_call 16
          refine (HO.out.1 _ ((Fr.refl No wr).drew)).mono ?_
          rintro e w6 ⟨rfl, hf6⟩
          have hF6 : Fr No wr w6 := ((Fr.refl No wr).drew).then hf6
          refine hK.out _ _ ⟨(hF6.cell (p := ⟨g, 0, none⟩) (lt_of_cell q0) (fun h => h)).trans q0, (hF6.cell (p := ⟨g, 1, none⟩) (lt_of_cell q1) (fun h => h)).trans q1, (hF6.cell (p := ⟨g, 2, none⟩) (lt_of_cell q2) (fun h => h)).trans q2, (hF6.cell (p := ⟨g, 3, none⟩) (lt_of_cell q3) (fun h => h)).trans q3, (hF6.cell (p := ⟨g, 4, none⟩) (lt_of_cell q4) (fun h => h)).trans q4, (hF6.cell (p := ⟨g, 5, none⟩) (lt_of_cell q5) (fun h => h)).trans q5, (hF6.cell (p := ⟨g, 6, none⟩) (lt_of_cell q6) (fun h => h)).trans q6, (hF6.cell (p := ⟨g, 7, none⟩) (lt_of_cell q7) (fun h => h)).trans q7, (hF6.cell (p := ⟨g, 8, none⟩) (lt_of_cell q8) (fun h => h)).trans q8⟩ (fun hHeld2 => ?_)
          clear hK K
          try simp only [Act.put, List.setIfInBounds_toArray, List.set_cons_zero, List.set_cons_succ]
          refine takeD (i := 9) (d := some 35) (v := ?_) rfl rfl (by kernel_rfl) (by kernel_rfl) (by kernel_rfl) (fun _ _ _ h => h) (by rfl) ?_ (by assumption) ?_
          rotate_left
          · intro w' hSw
            (try dsimp only at hSw)
            go_simp
            try with_reducible rfl
          try simp only [Act.put, List.setIfInBounds_toArray, List.set_cons_zero, List.set_cons_succ]
          refine takeD (i := 10) (d := some 45) (v := ?_) rfl rfl (by kernel_rfl) (by kernel_rfl) (by kernel_rfl) (fun _ _ _ h => h) (by rfl) ?_ (by assumption) ?_
          rotate_left
          · intro w' hSw
            (try dsimp only at hSw)
            go_simp
            try with_reducible rfl
          try simp only [Act.put, List.setIfInBounds_toArray, List.set_cons_zero, List.set_cons_succ]
          refine takeD (i := 11) (d := some 46) (v := ?_) rfl rfl (by kernel_rfl) (by kernel_rfl) (by kernel_rfl) (fun _ _ _ h => h) (by rfl) ?_ (by assumption) ?_
          rotate_left
          · intro w' hSw
            (try dsimp only at hSw)
            go_simp
            try with_reducible rfl
          try simp only [Act.put, List.setIfInBounds_toArray, List.set_cons_zero, List.set_cons_succ]
          refine oneD (i := 12) (by kernel_rfl) rfl (fun K hK => ?_)
          go_simp
          refine hK.out _ _ ⟨((hF6.alloc _).cell (p := ⟨g, 0, none⟩) (lt_of_cell q0) (fun h => h)).trans q0, ((hF6.alloc _).cell (p := ⟨g, 1, none⟩) (lt_of_cell q1) (fun h => h)).trans q1, ((hF6.alloc _).cell (p := ⟨g, 2, none⟩) (lt_of_cell q2) (fun h => h)).trans q2, ((hF6.alloc _).cell (p := ⟨g, 3, none⟩) (lt_of_cell q3) (fun h => h)).trans q3, ((hF6.alloc _).cell (p := ⟨g, 4, none⟩) (lt_of_cell q4) (fun h => h)).trans q4, ((hF6.alloc _).cell (p := ⟨g, 5, none⟩) (lt_of_cell q5) (fun h => h)).trans q5, ((hF6.alloc _).cell (p := ⟨g, 6, none⟩) (lt_of_cell q6) (fun h => h)).trans q6, ((hF6.alloc _).cell (p := ⟨g, 7, none⟩) (lt_of_cell q7) (fun h => h)).trans q7, ((hF6.alloc _).cell (p := ⟨g, 8, none⟩) (lt_of_cell q8) (fun h => h)).trans q8⟩ (fun hHeld3 => ?_)
          clear hK K
          try simp only [Act.put, List.setIfInBounds_toArray, List.set_cons_zero, List.set_cons_succ]
          refine oneD (i := 13) (by kernel_rfl) rfl (fun K hK => ?_)
          go_simp
          refine hK.out _ _ ⟨((hF6.alloc _).cell (p := ⟨g, 0, none⟩) (lt_of_cell q0) (fun h => h)).trans q0, ((hF6.alloc _).cell (p := ⟨g, 1, none⟩) (lt_of_cell q1) (fun h => h)).trans q1, ((hF6.alloc _).cell (p := ⟨g, 2, none⟩) (lt_of_cell q2) (fun h => h)).trans q2, ((hF6.alloc _).cell (p := ⟨g, 3, none⟩) (lt_of_cell q3) (fun h => h)).trans q3, ((hF6.alloc _).cell (p := ⟨g, 4, none⟩) (lt_of_cell q4) (fun h => h)).trans q4, ((hF6.alloc _).cell (p := ⟨g, 5, none⟩) (lt_of_cell q5) (fun h => h)).trans q5, ((hF6.alloc _).cell (p := ⟨g, 6, none⟩) (lt_of_cell q6) (fun h => h)).trans q6, ((hF6.alloc _).cell (p := ⟨g, 7, none⟩) (lt_of_cell q7) (fun h => h)).trans q7, ((hF6.alloc _).cell (p := ⟨g, 8, none⟩) (lt_of_cell q8) (fun h => h)).trans q8⟩ (fun hHeld4 => ?_)
          clear hK K
          try simp only [Act.put, List.setIfInBounds_toArray, List.set_cons_zero, List.set_cons_succ]
          refine takeD (i := 14) (d := some 9) (v := ?_) rfl rfl (by kernel_rfl) (by kernel_rfl) (by kernel_rfl) (fun _ _ _ h => h) (by rfl) ?_ (by assumption) ?_
          rotate_left
          · intro w' hSw
            (try dsimp only at hSw)
            go_simp
            try with_reducible rfl
          try simp only [Act.put, List.setIfInBounds_toArray, List.set_cons_zero, List.set_cons_succ]
          refine wpAnyH_done (by kernel_rfl) ?_ _
          clear hHeld hHeld2 hHeld3 hHeld4
          obtain ⟨gh, hgh⟩ : ∃ g, g = w6.heap.size := ⟨_, rfl⟩
          obtain ⟨Z, hZ⟩ : ∃ Z, Z = w6.alloc (.cells #[.int .u16 x, .int .u16 y, .int .u16 z, .int .u16 u] 38) := ⟨_, rfl⟩
          rw [← hZ, ← hgh]
          have HZ := hid (show Z.heap[gh]? = some (.cells #[.int .u16 x, .int .u16 y, .int .u16 z, .int .u16 u] 38 (0, 0)) ∧ Fr No wr Z from ⟨by rw [hZ, hgh]; exact heap_new _ _, by rw [hZ]; exact hF6.alloc _⟩)
          clear hZ hgh hf6 hF6 HS9
          have hobY := HB.out.2.2.2.2.1
          have hg5Y : g5 < Y.heap.size := (Array.getElem?_eq_some_iff.1 HY.out.2.1).1
          have hb5Z := (HZ.out.2.block g5 (Array.getElem?_eq_some_iff.1 HB.out.2.2.1).1 (fun h => h)).trans HB.out.2.2.1
          obtain ⟨⟨p0, p1, p2⟩, -⟩ := blk3i hb5Z
          obtain ⟨⟨s0, s1, s2, s3⟩, -⟩ := blk4c HZ.out.1
          have HrowZ := hid (HB.out.2.2.2.1.fr HZ.out.2 (fun _ _ h => h))
          have HB5 := hid hb5Z
          have hkl : k ≤ 100000 := by have := HN.out.2.1; have := HO.out.2.2.2; have : N * 1 ≤ N * n := Nat.mul_le_mul_left _ hn1; omega
          clear hb5Z hobY
          go_wp2_with (at_builtin; refine wpList_app1 slC4 rfl (.tmp 48) (.tmp 50) rfl rfl HrowZ.out rfl (m := 1) (c := 1) (ys := [.int .u16 x, .int .u16 y, .int .u16 z, .int .u16 u]) rfl (by simp [Value.oneCell']) (by omega) (by omega) ?_; intro A7 c7 w7 ob7 hrow7 hfr7 hob7; have hb57 := (hfr7.block g5 (Array.getElem?_eq_some_iff.1 HB5.out).1 (fun e => by have := HB.out.2.2.2.2.1 g5 e.symm; omega)).trans HB5.out; obtain ⟨⟨e0, e1, e2⟩, e3, e4, e5⟩ := blk3i hb57; have H7 := hid (And.intro hrow7 (And.intro hfr7 (And.intro hob7 hb57))); clear hrow7 hfr7 hob7 hb57 p0 p1 p2 s0 s1 s2 s3)
          go_roundw
          case rel =>
            have hZs := HZ.out.2.size
            have hYs := HB.out.2.2.2.2.2.1.size
            have hob7 : ∀ q, ob7 = some q → Y.heap.size ≤ q := fun q hq => by
              rcases H7.out.2.2.1 with h | ⟨i, h, hi⟩
              · exact HB.out.2.2.2.2.1 q (by rw [← h]; exact hq)
              · rw [h] at hq; injection hq with hq; omega
            refine ⟨j + n, by go_num, k + 1, A7, c7, ob7, by rw [HB.out.1, Nat.succ_mul], HO.out.2.2.2, ?_, ?_, hob7, ?_⟩
            · rw [heap_set _ g5 2 _ _ _ H7.out.2.2.2]; rfl
            · rw [imgL_succ, colsC_snoc, HO.out.2.1]
              exact H7.out.1.fr (Fr.set1 _ _ _ _) (fun q hq e => by have e : q = g5 := e; have := hob7 q hq; omega)
            · have h1 : Fr (HK.One g5) Y w7 := ((HB.out.2.2.2.2.2.1.then HZ.out.2.any)).fresh H7.out.2.1 (fun q hq => HB.out.2.2.2.2.1 q hq)
              exact h1.then (Fr.set1 _ _ _ _)
          case measure => simp [intOf] <;> omega
        · go_simp
          refine hK.out _ _ ⟨(((Fr.refl No wr).alloc (.cells #[.int .u16 0, .int .u16 0, .int .u16 0, .int .u16 0] 38)).cell (p := ⟨g, 0, none⟩) (lt_of_cell q0) (fun h => h)).trans q0, (((Fr.refl No wr).alloc (.cells #[.int .u16 0, .int .u16 0, .int .u16 0, .int .u16 0] 38)).cell (p := ⟨g, 1, none⟩) (lt_of_cell q1) (fun h => h)).trans q1, (((Fr.refl No wr).alloc (.cells #[.int .u16 0, .int .u16 0, .int .u16 0, .int .u16 0] 38)).cell (p := ⟨g, 2, none⟩) (lt_of_cell q2) (fun h => h)).trans q2, (((Fr.refl No wr).alloc (.cells #[.int .u16 0, .int .u16 0, .int .u16 0, .int .u16 0] 38)).cell (p := ⟨g, 3, none⟩) (lt_of_cell q3) (fun h => h)).trans q3, (((Fr.refl No wr).alloc (.cells #[.int .u16 0, .int .u16 0, .int .u16 0, .int .u16 0] 38)).cell (p := ⟨g, 4, none⟩) (lt_of_cell q4) (fun h => h)).trans q4, (((Fr.refl No wr).alloc (.cells #[.int .u16 0, .int .u16 0, .int .u16 0, .int .u16 0] 38)).cell (p := ⟨g, 5, none⟩) (lt_of_cell q5) (fun h => h)).trans q5, (((Fr.refl No wr).alloc (.cells #[.int .u16 0, .int .u16 0, .int .u16 0, .int .u16 0] 38)).cell (p := ⟨g, 6, none⟩) (lt_of_cell q6) (fun h => h)).trans q6, (((Fr.refl No wr).alloc (.cells #[.int .u16 0, .int .u16 0, .int .u16 0, .int .u16 0] 38)).cell (p := ⟨g, 7, none⟩) (lt_of_cell q7) (fun h => h)).trans q7, (((Fr.refl No wr).alloc (.cells #[.int .u16 0, .int .u16 0, .int .u16 0, .int .u16 0] 38)).cell (p := ⟨g, 8, none⟩) (lt_of_cell q8) (fun h => h)).trans q8⟩ (fun hHeld2 => ?_)
          clear hK K
          try simp only [Act.put, List.setIfInBounds_toArray, List.set_cons_zero, List.set_cons_succ]
          refine oneD (i := 8) (by kernel_rfl) rfl (fun K hK => ?_)
          go_simp
          go_at_call 16
          refine (HO.out.1 _ (((Fr.refl No wr).alloc _).drew)).mono ?_
          rintro e w6 ⟨rfl, hf6⟩
          have hF6 : Fr No wr w6 := (((Fr.refl No wr).alloc _).drew).then hf6
          have hbh : w6.heap[wr.heap.size]? = some (.cells #[.int .u16 0, .int .u16 0, .int .u16 0, .int .u16 0] 38 (0, 0)) := (hf6.block wr.heap.size (by simp) (fun h => h)).trans (heap_new wr _)
          obtain ⟨⟨h0, h1, h2, h3⟩, i0, i1, i2, i3⟩ := blk4c hbh
          refine hK.out _ _ ⟨(hF6.cell (p := ⟨g, 0, none⟩) (lt_of_cell q0) (fun h => h)).trans q0, (hF6.cell (p := ⟨g, 1, none⟩) (lt_of_cell q1) (fun h => h)).trans q1, (hF6.cell (p := ⟨g, 2, none⟩) (lt_of_cell q2) (fun h => h)).trans q2, (hF6.cell (p := ⟨g, 3, none⟩) (lt_of_cell q3) (fun h => h)).trans q3, (hF6.cell (p := ⟨g, 4, none⟩) (lt_of_cell q4) (fun h => h)).trans q4, (hF6.cell (p := ⟨g, 5, none⟩) (lt_of_cell q5) (fun h => h)).trans q5, (hF6.cell (p := ⟨g, 6, none⟩) (lt_of_cell q6) (fun h => h)).trans q6, (hF6.cell (p := ⟨g, 7, none⟩) (lt_of_cell q7) (fun h => h)).trans q7, (hF6.cell (p := ⟨g, 8, none⟩) (lt_of_cell q8) (fun h => h)).trans q8⟩ (fun hHeld3 => ?_)
          clear hK K
          try simp only [Act.put, List.setIfInBounds_toArray, List.set_cons_zero, List.set_cons_succ]
          refine takeD (i := 9) (d := some 35) (v := ?_) rfl rfl (by kernel_rfl) (by kernel_rfl) (by kernel_rfl) (fun _ _ _ h => h) (by rfl) ?_ (by assumption) ?_
          rotate_left
          · intro w' hSw
            (try dsimp only at hSw)
            go_simp
            try with_reducible rfl
          try simp only [Act.put, List.setIfInBounds_toArray, List.set_cons_zero, List.set_cons_succ]
          refine takeD (i := 10) (d := some 45) (v := ?_) rfl rfl (by kernel_rfl) (by kernel_rfl) (by kernel_rfl) (fun _ _ _ h => h) (by rfl) ?_ (by assumption) ?_
          rotate_left
          · intro w' hSw
            (try dsimp only at hSw)
            go_simp
            try with_reducible rfl
          try simp only [Act.put, List.setIfInBounds_toArray, List.set_cons_zero, List.set_cons_succ]
          refine takeD (i := 11) (d := some 46) (v := ?_) rfl rfl (by kernel_rfl) (by kernel_rfl) (by kernel_rfl) (fun _ _ _ h => h) (by rfl) ?_ (by assumption) ?_
          rotate_left
          · intro w' hSw
            (try dsimp only at hSw)
            go_simp
            try with_reducible rfl
          try simp only [Act.put, List.setIfInBounds_toArray, List.set_cons_zero, List.set_cons_succ]
          refine oneD (i := 13) (by kernel_rfl) rfl (fun K hK => ?_)
          go_simp
          obtain ⟨Z, hZ⟩ : ∃ Z, Z = (((w6.setCell ⟨wr.heap.size, 0, none⟩ (.int .u16 x)).setCell ⟨wr.heap.size, 1, none⟩ (.int .u16 y)).setCell ⟨wr.heap.size, 2, none⟩ (.int .u16 z)).setCell ⟨wr.heap.size, 3, none⟩ (.int .u16 u) := ⟨_, rfl⟩
          have hFZ : Fr No wr Z := by
            rw [hZ]
            exact (((hF6.setCell (p := ⟨wr.heap.size, 0, none⟩) (fun h => absurd h (Nat.lt_irrefl _)) _).setCell (p := ⟨wr.heap.size, 1, none⟩) (fun h => absurd h (Nat.lt_irrefl _)) _).setCell (p := ⟨wr.heap.size, 2, none⟩) (fun h => absurd h (Nat.lt_irrefl _)) _).setCell (p := ⟨wr.heap.size, 3, none⟩) (fun h => absurd h (Nat.lt_irrefl _)) _
          have HZ := hid (show Z.heap[wr.heap.size]? = some (.cells #[.int .u16 x, .int .u16 y, .int .u16 z, .int .u16 u] 38 (0, 0)) ∧ Fr No wr Z from ⟨by rw [hZ, heap_set _ _ 3 _ _ _ (heap_set _ _ 2 _ _ _ (heap_set _ _ 1 _ _ _ (heap_set _ _ 0 _ _ _ hbh)))]; rfl, hFZ⟩)
          rw [← hZ]
          refine hK.out _ _ ⟨(hFZ.cell (p := ⟨g, 0, none⟩) (lt_of_cell q0) (fun h => h)).trans q0, (hFZ.cell (p := ⟨g, 1, none⟩) (lt_of_cell q1) (fun h => h)).trans q1, (hFZ.cell (p := ⟨g, 2, none⟩) (lt_of_cell q2) (fun h => h)).trans q2, (hFZ.cell (p := ⟨g, 3, none⟩) (lt_of_cell q3) (fun h => h)).trans q3, (hFZ.cell (p := ⟨g, 4, none⟩) (lt_of_cell q4) (fun h => h)).trans q4, (hFZ.cell (p := ⟨g, 5, none⟩) (lt_of_cell q5) (fun h => h)).trans q5, (hFZ.cell (p := ⟨g, 6, none⟩) (lt_of_cell q6) (fun h => h)).trans q6, (hFZ.cell (p := ⟨g, 7, none⟩) (lt_of_cell q7) (fun h => h)).trans q7, (hFZ.cell (p := ⟨g, 8, none⟩) (lt_of_cell q8) (fun h => h)).trans q8⟩ (fun hHeld4 => ?_)
          clear hK K
          try simp only [Act.put, List.setIfInBounds_toArray, List.set_cons_zero, List.set_cons_succ]
          refine takeD (i := 14) (d := some 9) (v := ?_) rfl rfl (by kernel_rfl) (by kernel_rfl) (by kernel_rfl) (fun _ _ _ h => h) (by rfl) ?_ (by assumption) ?_
          rotate_left
          · intro w' hSw
            (try dsimp only at hSw)
            go_simp
            try with_reducible rfl
          try simp only [Act.put, List.setIfInBounds_toArray, List.set_cons_zero, List.set_cons_succ]
          refine wpAnyH_done (by kernel_rfl) ?_ _
          clear hHeld hHeld2 hHeld3 hHeld4
          obtain ⟨gh, hgh⟩ : ∃ g, g = wr.heap.size := ⟨_, rfl⟩
          rw [← hgh] at HZ ⊢
          clear hZ hFZ hgh hf6 hF6 HS9 hbh h0 h1 h2 h3 i0 i1 i2 i3
          have hobY := HB.out.2.2.2.2.1
          have hg5Y : g5 < Y.heap.size := (Array.getElem?_eq_some_iff.1 HY.out.2.1).1
          have hb5Z := (HZ.out.2.block g5 (Array.getElem?_eq_some_iff.1 HB.out.2.2.1).1 (fun h => h)).trans HB.out.2.2.1
          obtain ⟨⟨p0, p1, p2⟩, -⟩ := blk3i hb5Z
          obtain ⟨⟨s0, s1, s2, s3⟩, -⟩ := blk4c HZ.out.1
          have HrowZ := hid (HB.out.2.2.2.1.fr HZ.out.2 (fun _ _ h => h))
          have HB5 := hid hb5Z
          have hkl : k ≤ 100000 := by have := HN.out.2.1; have := HO.out.2.2.2; have : N * 1 ≤ N * n := Nat.mul_le_mul_left _ hn1; omega
          clear hb5Z hobY
          go_wp2_with (at_builtin; refine wpList_app1 slC4 rfl (.tmp 48) (.tmp 50) rfl rfl HrowZ.out rfl (m := 1) (c := 1) (ys := [.int .u16 x, .int .u16 y, .int .u16 z, .int .u16 u]) rfl (by simp [Value.oneCell']) (by omega) (by omega) ?_; intro A7 c7 w7 ob7 hrow7 hfr7 hob7; have hb57 := (hfr7.block g5 (Array.getElem?_eq_some_iff.1 HB5.out).1 (fun e => by have := HB.out.2.2.2.2.1 g5 e.symm; omega)).trans HB5.out; obtain ⟨⟨e0, e1, e2⟩, e3, e4, e5⟩ := blk3i hb57; have H7 := hid (And.intro hrow7 (And.intro hfr7 (And.intro hob7 hb57))); clear hrow7 hfr7 hob7 hb57 p0 p1 p2 s0 s1 s2 s3)
          go_roundw
          case rel =>
            have hZs := HZ.out.2.size
            have hYs := HB.out.2.2.2.2.2.1.size
            have hob7 : ∀ q, ob7 = some q → Y.heap.size ≤ q := fun q hq => by
              rcases H7.out.2.2.1 with h | ⟨i, h, hi⟩
              · exact HB.out.2.2.2.2.1 q (by rw [← h]; exact hq)
              · rw [h] at hq; injection hq with hq; omega
            refine ⟨j + n, by go_num, k + 1, A7, c7, ob7, by rw [HB.out.1, Nat.succ_mul], HO.out.2.2.2, ?_, ?_, hob7, ?_⟩
            · rw [heap_set _ g5 2 _ _ _ H7.out.2.2.2]; rfl
            · rw [imgL_succ, colsC_snoc, HO.out.2.1]
              exact H7.out.1.fr (Fr.set1 _ _ _ _) (fun q hq e => by have e : q = g5 := e; have := hob7 q hq; omega)
            · have h1 : Fr (HK.One g5) Y w7 := ((HB.out.2.2.2.2.2.1.then HZ.out.2.any)).fresh H7.out.2.1 (fun q hq => HB.out.2.2.2.2.1 q hq)
              exact h1.then (Fr.set1 _ _ _ _)
          case measure => simp [intOf] <;> omega
      · have hkN : k = N := by
          have h1 := HB.out.1
          have h2 := HN.out.2.1
          have h3 := HB.out.2.1
          refine Nat.le_antisymm h3 (Nat.le_of_not_lt (fun h => ?_))
          have h4 : (k + 1) * n ≤ N * n := Nat.mul_le_mul_right _ h
          rw [Nat.succ_mul] at h4
          omega
        have hge : ¬ ((j : Int) < (ns : Int)) := by omega
        have hgi : g + 1 < w4.heap.size := (Array.getElem?_eq_some_iff.1 H4.out.1).1
        have hbi : wr.heap[g + 1]? = some (.cells #[.int .i64 0, .int .i64 0, .slice none 0 0] 52 (0, 0)) :=
          (HB.out.2.2.2.2.2.1.block (g + 1) (by omega) (fun e => by have e : g + 1 = g5 := e; have := HY.out.2.2.1; omega)).trans ((HY.out.1.block (g + 1) hgi (fun h => h)).trans H4.out.1)
        obtain ⟨⟨p0, p1, p2⟩, -⟩ := blk3i HB.out.2.2.1
        obtain ⟨⟨z0, z1, z2⟩, f0, f1, f2⟩ := blk3i hbi
        have HI := hid hbi
        have HKN := hid hkN
        clear hlt hbi hkN
        go_wp2_with fail
        refine ret_img rfl (g := g + 1) (er := .int .i64 0) (set3i HI.out) rfl rfl rfl ?_
        have hn0 : imgN ro = n := by unfold imgN; rw [HN.out.2.2.2.2.2]; rfl
        have hK0 : imgK ro = k := by unfold imgK; rw [hn0, HN.out.2.2.2.2.1, Nat.mul_div_cancel _ (by omega), HKN.out]
        have h0 : chkS ro = 0 := HE.out.symm
        have hFw : Fr No w wr := ((HW.out.2.2.1.then (HX.out.2.2.1.then H4.out.2.1)).then HY.out.1).trans HB.out.2.2.2.2.2.1 (fun q hq e => by have e : q = g5 := e; have := HY.out.2.2.1; have := (HW.out.2.2.1.then (HX.out.2.2.1.then H4.out.2.1)).size; omega)
        have hgw : w.heap.size ≤ g + 1 := by have := HW.out.2.1; omega
        have hlen : (imgC ro).length = k := by unfold imgC; rw [if_pos h0, hn0, hK0, imgL_length]
        refine ⟨A, k, c, ob, ?_, hlen.symm, ?_, fun q hq => ?_, fr3i _ _ _ hFw (fun h => absurd h (by omega))⟩
        · unfold imgW imgH; rw [if_pos h0, if_pos h0, h0, HRO.out]
        · have : imgC ro = imgL ro n k := by unfold imgC; rw [if_pos h0, hn0, hK0]
          rw [this]
          exact HB.out.2.2.2.1.fr (fr3i (S := HK.One (g + 1)) _ _ _ (Fr.refl _ wr) (fun _ => rfl)) (fun q hq e => by have e : q = g + 1 := e; have := HB.out.2.2.2.2.1 q hq; omega)
        · have := HB.out.2.2.2.2.1 q hq
          have := ((HW.out.2.2.1.then (HX.out.2.2.1.then H4.out.2.1)).then HY.out.1).size
          omega
  · have hb0 : (E != 0) = true := by rw [bne_iff_ne]; exact hE0
    have HF2 := hid (HFIN.out hE0)
    clear hE0
    go_enter Try.func23, Try.ntmps23
    go_wp2_with fail
    rw [← HW.out.1, ← HW.out.2.1, ← HX.out.1, ← HW.out.2.2.2.2.1, HV.out]
    refine (HCK.out _ (HW.out.2.2.1.then HX.out.2.2.1)).mono ?_
    rintro e w4 ⟨rfl, hf4⟩
    have hb4 := (hf4.block (g + 1) (Array.getElem?_eq_some_iff.1 HX.out.2.1).1 (fun h => h)).trans HX.out.2.1
    obtain ⟨⟨z0, z1, z2⟩, f0, f1, f2⟩ := blk3i hb4
    have H4 := hid (And.intro hb4 hf4)
    clear hb4 hf4
    go_wp2_with fail
    refine ret_img rfl (g := g + 1) (set3i H4.out.1) rfl rfl rfl ?_
    exact HF2.out _ _ ((HW.out.2.2.1.then HX.out.2.2.1).then H4.out.2) (by have := HW.out.2.1; omega)
end Go.Proofs.Ytdbbkdlocmafgaa

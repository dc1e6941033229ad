/- The contract of screen.Read. -/
import Derived.Test.YtamkfjbdcjkchaaDoorSRdP
import Derived.Test.YtamkfjbdcjkchaaDoorArrEq
import Derived.Deep.LoopGhost
import Derived.WalkMore
namespace Go.Proofs.YtamkfjbdcjkchaaDoor
open Go.RowKit Go.Proofs.HK
set_option linter.unusedVariables false
set_option linter.unusedSimpArgs false
attribute [local go_sem] max2_int min2_int max_two min_two
theorem zt0 {W : World} {g : Nat} {a0 a1 a2 a3 a4 a5 a6 : Value} {t : TypeId} (hb : W.heap[g]? = some (.cells #[a0, a1, a2, a3, a4, a5, a6] t (0, 0))) (x : Value) : (W.setCell ⟨g, 0, none⟩ x).heap[g]? = some (.cells #[x, a1, a2, a3, a4, a5, a6] t (0, 0)) := by rw [heap_set _ g 0 _ t x hb]; rfl
theorem zt1 {W : World} {g : Nat} {a0 a1 a2 a3 a4 a5 a6 : Value} {t : TypeId} (hb : W.heap[g]? = some (.cells #[a0, a1, a2, a3, a4, a5, a6] t (0, 0))) (x : Value) : (W.setCell ⟨g, 1, none⟩ x).heap[g]? = some (.cells #[a0, x, a2, a3, a4, a5, a6] t (0, 0)) := by rw [heap_set _ g 1 _ t x hb]; rfl
theorem zt2 {W : World} {g : Nat} {a0 a1 a2 a3 a4 a5 a6 : Value} {t : TypeId} (hb : W.heap[g]? = some (.cells #[a0, a1, a2, a3, a4, a5, a6] t (0, 0))) (x : Value) : (W.setCell ⟨g, 2, none⟩ x).heap[g]? = some (.cells #[a0, a1, x, a3, a4, a5, a6] t (0, 0)) := by rw [heap_set _ g 2 _ t x hb]; rfl
theorem zt3 {W : World} {g : Nat} {a0 a1 a2 a3 a4 a5 a6 : Value} {t : TypeId} (hb : W.heap[g]? = some (.cells #[a0, a1, a2, a3, a4, a5, a6] t (0, 0))) (x : Value) : (W.setCell ⟨g, 3, none⟩ x).heap[g]? = some (.cells #[a0, a1, a2, x, a4, a5, a6] t (0, 0)) := by rw [heap_set _ g 3 _ t x hb]; rfl
theorem zt4 {W : World} {g : Nat} {a0 a1 a2 a3 a4 a5 a6 : Value} {t : TypeId} (hb : W.heap[g]? = some (.cells #[a0, a1, a2, a3, a4, a5, a6] t (0, 0))) (x : Value) : (W.setCell ⟨g, 4, none⟩ x).heap[g]? = some (.cells #[a0, a1, a2, a3, x, a5, a6] t (0, 0)) := by rw [heap_set _ g 4 _ t x hb]; rfl
theorem zt5 {W : World} {g : Nat} {a0 a1 a2 a3 a4 a5 a6 : Value} {t : TypeId} (hb : W.heap[g]? = some (.cells #[a0, a1, a2, a3, a4, a5, a6] t (0, 0))) (x : Value) : (W.setCell ⟨g, 5, none⟩ x).heap[g]? = some (.cells #[a0, a1, a2, a3, a4, x, a6] t (0, 0)) := by rw [heap_set _ g 5 _ t x hb]; rfl
theorem zt6 {W : World} {g : Nat} {a0 a1 a2 a3 a4 a5 a6 : Value} {t : TypeId} (hb : W.heap[g]? = some (.cells #[a0, a1, a2, a3, a4, a5, a6] t (0, 0))) (x : Value) : (W.setCell ⟨g, 6, none⟩ x).heap[g]? = some (.cells #[a0, a1, a2, a3, a4, a5, x] t (0, 0)) := by rw [heap_set _ g 6 _ t x hb]; rfl
theorem set7 {W : World} {g : Nat} {a0 a1 a2 a3 a4 a5 a6 : Value} {t : TypeId} (hb : W.heap[g]? = some (.cells #[a0, a1, a2, a3, a4, a5, a6] t (0, 0))) (b0 b1 b2 b3 b4 b5 b6 : Value) :
    (((((((W.setCell ⟨g, 0, none⟩ b0).setCell ⟨g, 1, none⟩ b1).setCell ⟨g, 2, none⟩ b2).setCell ⟨g, 3, none⟩ b3).setCell ⟨g, 4, none⟩ b4).setCell ⟨g, 5, none⟩ b5).setCell ⟨g, 6, none⟩ b6).heap[g]? = some (.cells #[b0, b1, b2, b3, b4, b5, b6] t (0, 0)) := zt6 (zt5 (zt4 (zt3 (zt2 (zt1 (zt0 hb b0) b1) b2) b3) b4) b5) b6
theorem fr7 (W : World) (g : Nat) (b0 b1 b2 b3 b4 b5 b6 : Value) : Fr (HK.One g) W (((((((W.setCell ⟨g, 0, none⟩ b0).setCell ⟨g, 1, none⟩ b1).setCell ⟨g, 2, none⟩ b2).setCell ⟨g, 3, none⟩ b3).setCell ⟨g, 4, none⟩ b4).setCell ⟨g, 5, none⟩ b5).setCell ⟨g, 6, none⟩ b6) :=
  ((((((Fr.set1 W g 0 b0).then (Fr.set1 _ g 1 b1)).then (Fr.set1 _ g 2 b2)).then (Fr.set1 _ g 3 b3)).then (Fr.set1 _ g 4 b4)).then (Fr.set1 _ g 5 b5)).then (Fr.set1 _ g 6 b6)
theorem load_scr {W : World} {g : Nat} {v0 v1 v2 v3 v4 v5 v6 : Value} {t : TypeId} (hb : W.heap[g]? = some (.cells #[v0, v1, v2, v3, v4, v5, v6] t (0, 0))) :
    (Go.loadVar 26 ⟨g, 0, none⟩).run Tryd.prog W = .ok (.agg #[v0, v1, v2, v3, v4, v5, v6]) W := by
  obtain ⟨c0, c1, c2, c3, c4, c5, c6, cf⟩ := blk7 hb
  unfold Go.loadVar
  go_simp
  first | done | rfl
theorem ret_cell3 {fn : Func} {s k j : Nat} {T : TypeId} (hres : fn.results = #[.cell s T, .tmp k, .tmp j]) {R : Ending → World → Prop} {W : World} {g : Nat} {v x y : Value} {a : Act}
    (h2 : a.tmps.getD s undef = .pointer (some ⟨g, 0, none⟩)) (h3 : a.tmps.getD k undef = x) (h4 : a.tmps.getD j undef = y) (hl : (Go.loadVar T ⟨g, 0, none⟩).run Tryd.prog W = .ok v W) (hd : a.defers = []) (hR : R (.returned (.tuple #[v, x, y])) W) : bodyPost Tryd.prog fn R .ret a W := by
  refine bodyPost_ret (v := .tuple #[v, x, y]) ?_ hd hR
  have h2' : a.tmps[s]?.getD undef = .pointer (some ⟨g, 0, none⟩) := by simpa using h2
  have h3' : a.tmps[k]?.getD undef = x := by simpa using h3
  have h4' : a.tmps[j]?.getD undef = y := by simpa using h4
  have ha : (Go.asAddr (Value.pointer (some ⟨g, 0, none⟩))).run Tryd.prog W = .ok ⟨g, 0, none⟩ W := by simp [Go.asAddr]
  simp [results, hres, h2', h3', h4', ha, hl]
/-- What Read answers. -/
def RetS (w : World) (r : Int × ScrS × Nat) (e : Ending) (w' : World) : Prop :=
  ∃ tA tn tc, e = .returned (.tuple #[.agg (scC r.2.1.W r.2.1.H (.slice tA tn tc) r.2.1.L r.2.1.C r.2.1.I r.2.1.K), .int .i64 (r.2.2 : Int), .int .i64 r.1]) ∧ TabN w.heap.size w' tA tn tc r.2.1.T ∧ Fr No w w'
/-- The state of a reading: the cursor at g, the screen in the box h. -/
def StR (L T g h : Nat) (w1 : World) (o : List UInt8) (W : World) (s : LS) (x : ScrS) : Prop :=
  Cur L T W g o s.p s.e ∧ (∃ tA tn tc b, W.heap[h]? = some (.cells (scC x.W x.H (.slice tA tn tc) x.L x.C x.I x.K) 26 (0, 0)) ∧ TabN b W tA tn tc x.T ∧ h < b) ∧ Fr No w1 W
section
variable {L T g h : Nat} {w1 W W' : World} {o : List UInt8} {s s' : LS} {x : ScrS}
theorem StR.cur (H : StR L T g h w1 o W s x) : Cur L T W g o s.p s.e := H.1
theorem StR.fr (H : StR L T g h w1 o W s x) : Fr No w1 W := H.2.2
theorem StR.step (H : StR L T g h w1 o W s x) (hc : Cur L T W' g o s'.p s'.e) (hf : Fr (HK.One g) W W') (hgh : g < h) (hg1 : w1.heap.size ≤ g) : StR L T g h w1 o W' s' x := by
  obtain ⟨h1, ⟨tA, tn, tc, b, hb, ht, hhb⟩, h3⟩ := H
  refine ⟨hc, ⟨tA, tn, tc, b, (hf.block h (Array.getElem?_eq_some_iff.1 hb).1 (fun e => by have e : h = g := e; omega)).trans hb, ht.fr hf (fun k hk _ e => by have e : k = g := e; omega), hhb⟩, h3.trans hf (fun k hk e => by have e : k = g := e; omega)⟩
theorem StR.keep (H : StR L T g h w1 o W s x) (hf : Fr No W W') : StR L T g h w1 o W' s x := by
  obtain ⟨h1, ⟨tA, tn, tc, b, hb, ht, hhb⟩, h3⟩ := H
  exact ⟨h1.fr hf (fun _ _ _ h => h), ⟨tA, tn, tc, b, (hf.block h (Array.getElem?_eq_some_iff.1 hb).1 (fun h => h)).trans hb, ht.fr hf (fun _ _ _ h => h), hhb⟩, h3.then hf⟩
theorem StR.setB (H : StR L T g h w1 o W s x) (hhT : T ≤ h) (hw : w1.heap.size ≤ h) (i : Nat) (v : Value) (y : ScrS) (hy : ∀ tA tn tc, W.heap[h]? = some (.cells (scC x.W x.H (.slice tA tn tc) x.L x.C x.I x.K) 26 (0, 0)) → (W.setCell ⟨h, i, none⟩ v).heap[h]? = some (.cells (scC y.W y.H (.slice tA tn tc) y.L y.C y.I y.K) 26 (0, 0))) (hT : y.T = x.T) : StR L T g h w1 o (W.setCell ⟨h, i, none⟩ v) s y := by
  obtain ⟨h1, ⟨tA, tn, tc, b, hb, ht, hhb⟩, h3⟩ := H
  have hf : Fr (HK.One h) W (W.setCell ⟨h, i, none⟩ v) := Fr.set1 W h i v
  refine ⟨h1.fr hf (fun k _ h2 e => by have e : k = h := e; omega), ⟨tA, tn, tc, b, hy tA tn tc hb, by rw [hT]; exact ht.fr hf (fun k hk _ e => by have e : k = h := e; omega), hhb⟩, h3.trans hf (fun k hk e => by have e : k = h := e; omega)⟩
theorem StR.drewN (H : StR L T g h w1 o W s x) (n : Nat) : StR L T g h w1 o (W.drewN n) s x := ⟨H.1.drewN n, H.2.1, H.2.2.drewN n⟩
end
theorem blk4i {W : World} {g : Nat} {v0 v1 v2 v3 : Value} {t : TypeId} (hb : W.heap[g]? = some (.cells #[v0, v1, v2, v3] t (0, 0))) : W.cell? ⟨g, 0, none⟩ = some v0 ∧ W.cell? ⟨g, 1, none⟩ = some v1 ∧ W.cell? ⟨g, 2, none⟩ = some v2 ∧ W.cell? ⟨g, 3, none⟩ = some v3 := by
  simp [World.cell?, hb]
theorem and64 : ∀ m : Fin 256, bits .and .i64 ((m.val : Nat) : Int) 64 = ((m.val / 64 % 2 * 64 : Nat) : Int) := by decide +kernel
theorem parts_done (f : Nat) (o : List UInt8) (s : LS) (c : Int) (h : s.e ≠ 0) : partsS f o s c = (s, c) := by
  cases f with
  | zero => rfl
  | succ f => unfold partsS; rw [if_pos h]
theorem lx_one (o : List UInt8) (s : LS) (h0 : s.e = 0) : (s.p < o.length ∧ lnN o s 1 = ((rdB o s.p).toNat : Int) ∧ lxN o s 1 = ⟨s.p + 1, 0⟩) ∨ (o.length ≤ s.p ∧ lnN o s 1 = 0 ∧ lxN o s 1 = ⟨s.p, 2⟩) := by
  obtain ⟨p, e⟩ := s
  simp only at h0
  subst h0
  by_cases hp : p < o.length
  · obtain ⟨h1, h2, h3⟩ := one_yes o p hp
    exact .inl ⟨hp, h1, by unfold lxN; rw [h2, h3]⟩
  · obtain ⟨h1, h2, h3⟩ := one_no o p (by omega)
    exact .inr ⟨(show o.length ≤ p by omega), h1, by unfold lxN; rw [h2, h3]⟩
theorem dec_not (b : Bool) : decide (b = false) = !b := by cases b <;> rfl
theorem flN_ne (s : LS) (x : Int) (hx : x ≠ 0) : (flN s x).e ≠ 0 := by
  unfold flN failS
  simp only
  split
  · exact hx
  · assumption
theorem lxN_p (o : List UInt8) (s : LS) : s.p ≤ (lxN o s 1).p := by
  unfold lxN numP
  simp only
  split <;> omega
theorem exS_p (o : List UInt8) (p : Nat) (c : Int) : p ≤ (exS o p c).1.p := by
  unfold exS
  repeat' split
  all_goals first | exact Nat.le_refl _ | (simp only; omega)
set_option maxRecDepth 100000 in
set_option maxHeartbeats 6400000 in
theorem scread_calls (A : Option Addr) (o : List UInt8) (n c : Nat) (w : World) (hn : o.length = n) (hr : Rd B w A o) (hc : n ≤ c) (hl : n ≤ 140737488355328) :
    Calls Tryd.prog 8 #[.slice A n c] w (RetS w (scrS o)) := by
  have HN := hid (And.intro hn (And.intro hr hc))
  obtain ⟨k, hk⟩ : ∃ k, k = min n 6 := ⟨_, rfl⟩
  have hmn : mn (n : Int) 6 = (k : Int) := by rw [mn_eq]; omega
  have hk6 : k ≤ 6 := by omega
  have hk6' : (k : Int) ≤ 6 := by omega
  have hkn : k ≤ n := by omega
  have hcut := cut_h slU8 A n c (k : Int) k rfl (by omega)
  have hcv : ∀ W, Fr No w W → (Go.convert 22 9 (.slice A k c)).run Tryd.prog W = .ok (.string (mkS (o.take k))) W := fun W hf => conv_bytes slU8 u8U strU ((HN.out.2.1.fr0 hf).take k) k c (by rw [List.length_take, HN.out.1]; omega)
  obtain ⟨X, hX⟩ : ∃ X : ByteArray, X = ({ data := #[71, 73, 70, 56, 57, 97] } : ByteArray).extract 0 k := ⟨_, rfl⟩
  obtain ⟨MB, hMB⟩ : ∃ b, b = decide (o.take 6 = magic.take o.length) := ⟨_, rfl⟩
  have HMB := hid hMB
  have HXE := hid (show ((mkS (o.take k)).toList != X.toList) = !MB from by rw [hMB]; exact magic_eq o k (by rw [hn]; exact hk) X hX)
  obtain ⟨g2, hg2⟩ : ∃ q, q = w.heap.size := ⟨_, rfl⟩
  obtain ⟨w1, hw1⟩ : ∃ W, W = w.alloc (.cells #[.int .i64 0, .int .i64 0, .slice none 0 0, .bool false, .int .i64 0, .bool false, .int .i64 0] 26) := ⟨_, rfl⟩
  have hz1 : w1.heap[g2]? = some (.cells #[.int .i64 0, .int .i64 0, .slice none 0 0, .bool false, .int .i64 0, .bool false, .int .i64 0] 26 (0, 0)) := by rw [hw1, hg2]; exact heap_new _ _
  have hf1 : Fr No w w1 := by rw [hw1]; exact (Fr.refl _ _).alloc _
  have hG : ∀ W, Fr No w1 W → W.heap[g2]? = some (.cells #[.int .i64 0, .int .i64 0, .slice none 0 0, .bool false, .int .i64 0, .bool false, .int .i64 0] 26 (0, 0)) ∧ Fr No w W := fun W hf => ⟨(hf.block g2 (Array.getElem?_eq_some_iff.1 hz1).1 (fun h => h)).trans hz1, hf1.then hf⟩
  have HG := hid hG
  have HW1 := hid (And.intro hw1 hg2)
  have hs1 : w1.heap.size = g2 + 1 := by rw [hw1, World.size_alloc, hg2]
  have HS1 := hid hs1
  have hcvd : (Go.convert 22 9 (.slice A k c)).run Tryd.prog w1.drew = .ok (.string (mkS (o.take k))) w1.drew := hcv _ hf1.drew
  have HCV := hid (hcv)
  have HF1 := hid hf1
  clear hn hr hc hk hMB hw1 hg2 hz1 hf1 hG hs1 hcv
  go_enter Tryd.func8, Tryd.ntmps8
  go_wp2_with fail
  go_step3
  go_upto_region 2 with fail
  rw [← HW1.out.1, ← HW1.out.2]
  go_cut [21] (fun s21 wx => s21 = .bool (!MB) ∧ Fr No w1 wx)
  case first =>
    refine wp_region_held_drew (S := (fun W => W = w1.drew)) (by kernel_rfl) rfl (fun hHeld => ?_)
    refine takeD (i := 0) (d := some 15) (v := .slice A n c) rfl rfl (by kernel_rfl) (by kernel_rfl) (by kernel_rfl) (fun _ _ _ h => h) (by rfl) ?_ (by first | assumption | trivial) ?_
    · intro w' hSw
      (try dsimp only at hSw)
      go_simp
      first | done | rfl
    (try simp only [Act.put, List.setIfInBounds_toArray, List.set_cons_zero, List.set_cons_succ])
    refine takeD (i := 1) (d := some 16) (v := .int .i64 (k : Int)) rfl rfl (by kernel_rfl) (by kernel_rfl) (by kernel_rfl) (fun _ _ _ h => h) (by rfl) ?_ (by first | assumption | trivial) ?_
    · intro w' hSw
      (try dsimp only at hSw)
      go_simp
      first | done | rfl
    (try simp only [Act.put, List.setIfInBounds_toArray, List.set_cons_zero, List.set_cons_succ])
    refine takeD (i := 2) (d := some 17) (v := .slice A k c) rfl rfl (by kernel_rfl) (by kernel_rfl) (by kernel_rfl) (fun _ _ _ h => h) (by rfl) ?_ (by first | assumption | trivial) ?_
    · intro w' hSw
      (try dsimp only at hSw)
      go_simp
      first | done | rfl
    (try simp only [Act.put, List.setIfInBounds_toArray, List.set_cons_zero, List.set_cons_succ])
    refine takeD (i := 4) (d := some 19) (v := .int .i64 (k : Int)) rfl rfl (by kernel_rfl) (by kernel_rfl) (by kernel_rfl) (fun _ _ _ h => h) (by rfl) ?_ (by first | assumption | trivial) ?_
    · intro w' hSw
      (try dsimp only at hSw)
      go_simp
      first | done | rfl
    (try simp only [Act.put, List.setIfInBounds_toArray, List.set_cons_zero, List.set_cons_succ])
    refine takeD (i := 3) (d := some 18) (v := .string (mkS (o.take k))) rfl rfl (by kernel_rfl) (by kernel_rfl) (by kernel_rfl) (fun _ _ _ h => h) (by rfl) ?_ (by assumption) ?_
    · intro w' hSw
      (try dsimp only at hSw)
      have hq : (Go.convert 22 9 (.slice A k c)).run Tryd.prog w' = .ok (.string (mkS (o.take k))) w' := by rw [hSw]; exact hcvd
      go_simp
      first | done | rfl
    (try simp only [Act.put, List.setIfInBounds_toArray, List.set_cons_zero, List.set_cons_succ])
    refine takeD (i := 5) (d := some 20) (v := .string X) rfl rfl (by kernel_rfl) (by kernel_rfl) (by kernel_rfl) (fun _ _ _ h => h) (by rfl) ?_ (by assumption) ?_
    · intro w' hSw
      clear hcvd hHeld
      go_simp
      first | done | rfl | (rw [hX]) | (rw [hX]; rfl)
    (try simp only [Act.put, List.setIfInBounds_toArray, List.set_cons_zero, List.set_cons_succ])
    refine takeD (i := 6) (d := some 21) (v := .bool ((mkS (o.take k)).toList != X.toList)) rfl rfl (by kernel_rfl) (by kernel_rfl) (by kernel_rfl) (fun _ _ _ h => h) (by rfl) ?_ (by assumption) ?_
    · intro w' hSw
      clear hcvd hHeld hX
      go_simp
      first | done | rfl | simp [bne]
    (try simp only [Act.put, List.setIfInBounds_toArray, List.set_cons_zero, List.set_cons_succ])
    refine wpAnyH_done (by kernel_rfl) ?_ _
    clear hHeld
    go_wp2_with fail
    go_meet
    exact ⟨congrArg Value.bool HXE.out, (Fr.refl No w1).drew⟩
  case rest =>
    obtain ⟨rfl, hfc⟩ := hcut
    obtain ⟨w2, rfl⟩ : ∃ x : World, x = wc := ⟨_, rfl⟩
    have HF2 := hid hfc
    clear hfc hX hcvd
    cases MB with
    | false =>
      have HE := hid (show scrS o = (3, zeroScr, 0) from by unfold scrS; rw [if_neg (fun h => by have h2 := HMB.out; rw [decide_eq_true h] at h2; cases h2)])
      have HV := hid (HG.out w2 HF2.out)
      obtain ⟨z0, z1, z2, z3, z4, z5, z6, zf⟩ := blk7 HV.out.1
      go_wp2_with fail
      refine ret_cell3 rfl (g := g2) rfl rfl rfl (load_scr (set7 HV.out.1 _ _ _ _ _ _ _)) rfl ?_
      rw [HE.out]
      exact ⟨none, 0, 0, rfl, TabN.nil _ _, HV.out.2.trans (fr7 w2 g2 _ _ _ _ _ _ _) (fun k hk e => by have e : k = g2 := e; have := HW1.out.2; omega)⟩
    | true =>
      have HE0 := hid (show scrS o = headS o from by unfold scrS; rw [if_pos (of_decide_eq_true HMB.out.symm)])
      obtain ⟨s0, hs0⟩ : ∃ q : LS, q = ⟨byP o 0 0 6, byE o 0 0 6⟩ := ⟨_, rfl⟩
      obtain ⟨vW, hvW⟩ : ∃ q : Int, q = lnN o s0 2 := ⟨_, rfl⟩
      obtain ⟨s1, hs1⟩ : ∃ q : LS, q = lxN o s0 2 := ⟨_, rfl⟩
      obtain ⟨vH, hvH⟩ : ∃ q : Int, q = lnN o s1 2 := ⟨_, rfl⟩
      obtain ⟨s2, hs2⟩ : ∃ q : LS, q = lxN o s1 2 := ⟨_, rfl⟩
      obtain ⟨vM, hvM⟩ : ∃ q : Int, q = lnN o s2 1 := ⟨_, rfl⟩
      obtain ⟨s3, hs3⟩ : ∃ q : LS, q = lxN o s2 1 := ⟨_, rfl⟩
      obtain ⟨vZ, hvZ⟩ : ∃ q : Int, q = lnN o s3 2 := ⟨_, rfl⟩
      obtain ⟨s4, hs4⟩ : ∃ q : LS, q = lxN o s3 2 := ⟨_, rfl⟩
      obtain ⟨s5, hs5⟩ : ∃ q : LS, q = if s4.e = 0 ∧ sizB vW vH = false then flN s4 11 else s4 := ⟨_, rfl⟩
      obtain ⟨m1, hm1⟩ : ∃ q : Nat, q = vM.toNat := ⟨_, rfl⟩
      obtain ⟨t1, ht1⟩ : ∃ q : List UInt8, q = tbB o s5 m1 := ⟨_, rfl⟩
      obtain ⟨s6, hs6⟩ : ∃ q : LS, q = tbX o s5 m1 := ⟨_, rfl⟩
      obtain ⟨s7, hs7⟩ : ∃ q : LS, q = (partsS (o.length + 1) o s6 (-1)).1 := ⟨_, rfl⟩
      obtain ⟨cl, hcl⟩ : ∃ q : Int, q = (partsS (o.length + 1) o s6 (-1)).2 := ⟨_, rfl⟩
      obtain ⟨q0, hq0⟩ : ∃ q : Int, q = lnN o s7 2 := ⟨_, rfl⟩
      obtain ⟨s8, hs8⟩ : ∃ q : LS, q = lxN o s7 2 := ⟨_, rfl⟩
      obtain ⟨q1, hq1⟩ : ∃ q : Int, q = lnN o s8 2 := ⟨_, rfl⟩
      obtain ⟨s9, hs9⟩ : ∃ q : LS, q = lxN o s8 2 := ⟨_, rfl⟩
      obtain ⟨q2, hq2⟩ : ∃ q : Int, q = lnN o s9 2 := ⟨_, rfl⟩
      obtain ⟨s10, hs10⟩ : ∃ q : LS, q = lxN o s9 2 := ⟨_, rfl⟩
      obtain ⟨q3, hq3⟩ : ∃ q : Int, q = lnN o s10 2 := ⟨_, rfl⟩
      obtain ⟨s11, hs11⟩ : ∃ q : LS, q = lxN o s10 2 := ⟨_, rfl⟩
      obtain ⟨vN, hvN⟩ : ∃ q : Int, q = lnN o s11 1 := ⟨_, rfl⟩
      obtain ⟨s12, hs12⟩ : ∃ q : LS, q = lxN o s11 1 := ⟨_, rfl⟩
      obtain ⟨s13, hs13⟩ : ∃ q : LS, q = if s12.e ≠ 0 then s12 else if ¬ (q0 = 0 ∧ q1 = 0 ∧ q2 = vW ∧ q3 = vH) then flN s12 11 else if vN < 128 ∧ t1 = [] then flN s12 12 else s12 := ⟨_, rfl⟩
      obtain ⟨m2, hm2⟩ : ∃ q : Nat, q = vN.toNat := ⟨_, rfl⟩
      obtain ⟨t2, ht2⟩ : ∃ q : List UInt8, q = tbB o s13 m2 := ⟨_, rfl⟩
      obtain ⟨s14, hs14⟩ : ∃ q : LS, q = tbX o s13 m2 := ⟨_, rfl⟩
      obtain ⟨vK, hvK⟩ : ∃ q : Int, q = lnN o s14 1 := ⟨_, rfl⟩
      obtain ⟨s15, hs15⟩ : ∃ q : LS, q = lxN o s14 1 := ⟨_, rfl⟩
      obtain ⟨s16, hs16⟩ : ∃ q : LS, q = if vK < 2 ∨ 8 < vK then flN s15 3 else s15 := ⟨_, rfl⟩
      have HFIN := hid (show headS o = (if s16.e ≠ 0 then (s16.e, zeroScr, 0) else (0, ⟨vW, vH, if t2 = [] then t1 else t2, !decide (t2 = []), cl, decide (m2 / 64 % 2 = 1), vK⟩, s16.p)) from by subst hs16 hs15 hvK hs14 ht2 hm2 hs13 hs12 hvN hs11 hq3 hs10 hq2 hs9 hq1 hs8 hq0 hcl hs7 hs6 ht1 hm1 hs5 hs4 hvZ hs3 hvM hs2 hvH hs1 hvW hs0; rfl)
      have bW := (ln_bd o s0).2
      have bH := (ln_bd o s1).2
      have bM := (ln_bd o s2).1
      have bN := (ln_bd o s11).1
      have bK := (ln_bd o s14).1
      rw [← hvW] at bW
      rw [← hvH] at bH
      rw [← hvM] at bM
      rw [← hvN] at bN
      rw [← hvK] at bK
      have hM1 : vM = (m1 : Int) := by omega
      have hN1 : vN = (m2 : Int) := by omega
      have hm1b : m1 < 256 := by omega
      have hm2b : m2 < 256 := by omega
      have HM1 := hid hM1
      have HN1 := hid hN1
      have Hs0 := hid hs0
      have HvW := hid hvW
      have Hs1 := hid hs1
      have HvH := hid hvH
      have Hs2 := hid hs2
      have HvM := hid hvM
      have Hs3 := hid hs3
      have HvZ := hid hvZ
      have Hs4 := hid hs4
      have Hs5 := hid hs5
      have Hm1 := hid hm1
      have Ht1 := hid ht1
      have Hs6 := hid hs6
      have Hs7 := hid hs7
      have Hcl := hid hcl
      have Hq0 := hid hq0
      have Hs8 := hid hs8
      have Hq1 := hid hq1
      have Hs9 := hid hs9
      have Hq2 := hid hq2
      have Hs10 := hid hs10
      have Hq3 := hid hq3
      have Hs11 := hid hs11
      have HvN := hid hvN
      have Hs12 := hid hs12
      have Hs13 := hid hs13
      have Hm2 := hid hm2
      have Ht2 := hid ht2
      have Hs14 := hid hs14
      have HvK := hid hvK
      have Hs15 := hid hs15
      have Hs16 := hid hs16
      clear hs16 hs15 hvK hs14 ht2 hm2 hs13 hs12 hvN hs11 hq3 hs10 hq2 hs9 hq1 hs8 hq0 hcl hs7 hs6 ht1 hm1 hs5 hs4 hvZ hs3 hvM hs2 hvH hs1 hvW hs0 hM1 hN1
      have HE := hid (HE0.out.trans HFIN.out)
      go_wp2_with fail
      refine (new_calls A o n c HN.out.1 w2 (HN.out.2.1.fr0 (HF1.out.then HF2.out)) (by rw [HN.out.1]; exact hl)).mono ?_
      rintro e w3 ⟨g, rfl, hc3, hf3⟩
      have hg1 : w1.heap.size ≤ g := Nat.le_trans HF2.out.size hc3.gl
      obtain ⟨L, hL⟩ : ∃ q, q = w2.heap.size := ⟨_, rfl⟩
      obtain ⟨T, hT⟩ : ∃ q, q = w3.heap.size := ⟨_, rfl⟩
      rw [← hL, ← hT] at hc3
      have hgT := hc3.gu
      have hTs : T ≤ w3.heap.size := by omega
      have HC3 := hid (And.intro hc3 (HF2.out.then hf3))
      clear hc3 hf3 hL hT
      go_wp2_with fail
      refine (cbytes_calls w3 g o 0 0 6 HC3.out.1).mono ?_
      rintro e w4 ⟨v4, rfl, _, hc4, hf4⟩
      have HC4 := hid (show Cur L T w4 g o s0.p s0.e ∧ Fr No w1 w4 ∧ T ≤ w4.heap.size from by rw [Hs0.out]; exact ⟨hc4, HC3.out.2.trans hf4 (fun k hk e => by have e : k = g := e; omega), Nat.le_trans hTs hf4.size⟩)
      clear hc4 hf4
      go_wp2_with fail
      refine (little_s w4 g o s0 2 HC4.out.1).mono ?_
      rw [← HvW.out, ← Hs1.out]
      rintro e w5 ⟨rfl, hc, hf⟩
      have HC5 := hid (And.intro hc (And.intro (HC4.out.2.1.trans hf (fun k hk e => by have e : k = g := e; omega)) (Nat.le_trans HC4.out.2.2 hf.size)))
      clear hc hf
      go_wp2_with fail
      refine (little_s w5 g o s1 2 HC5.out.1).mono ?_
      rw [← HvH.out, ← Hs2.out]
      rintro e w6 ⟨rfl, hc, hf⟩
      have HC6 := hid (And.intro hc (And.intro (HC5.out.2.1.trans hf (fun k hk e => by have e : k = g := e; omega)) (Nat.le_trans HC5.out.2.2 hf.size)))
      clear hc hf
      go_upto_region 7 with fail
      obtain ⟨h, hh⟩ : ∃ q, q = w6.heap.size := ⟨_, rfl⟩
      obtain ⟨w7, hw7⟩ : ∃ W, W = w6.alloc (.cells (scC vW vH (.slice none 0 0) false (-1) false 0) 26) := ⟨_, rfl⟩
      rw [show (#[.int .i64 vW, .int .i64 vH, .slice none 0 0, .bool false, .int .i64 (-1), .bool false, .int .i64 0] : Array Value) = scC vW vH (.slice none 0 0) false (-1) false 0 from rfl, ← hw7, ← hh]
      have hgh : g < h := by have := HC6.out.2.2; omega
      have hTh : T ≤ h := by have := HC6.out.2.2; omega
      have HA := hid (show StR L T g h w1 o w7 s2 ⟨vW, vH, [], false, -1, false, 0⟩ from by rw [hw7]; exact ⟨HC6.out.1.fr ((Fr.refl No w6).alloc _) (fun _ _ _ h => h), ⟨none, 0, 0, h + 1, by rw [hh]; exact heap_new _ _, TabN.nil _ _, by omega⟩, HC6.out.2.1.alloc _⟩)
      clear hw7 hh
      go_wp2_with fail
      refine (little_s w7 g o s2 1 HA.out.cur).mono ?_
      rw [← HvM.out, ← Hs3.out]
      rintro e w8 ⟨rfl, hc, hf⟩
      have HB := hid (HA.out.step hc hf hgh hg1)
      clear hc hf
      rw [HM1.out]
      go_wp2_with fail
      refine (little_s w8 g o s3 2 HB.out.cur).mono ?_
      rw [← HvZ.out, ← Hs4.out]
      rintro e w9 ⟨rfl, hc, hf⟩
      have HC := hid (HB.out.step hc hf hgh hg1)
      clear hc hf
      obtain ⟨B9, hB9⟩ : ∃ b, b = decide (s4.e = 0 ∧ sizB vW vH = false) := ⟨_, rfl⟩
      have HB9 := hid hB9
      clear hB9
      go_upto_region 9 with fail
      go_cut [46] (fun s46 wx => s46 = .bool B9 ∧ wx = w9)
      case first =>
        obtain ⟨tA, tn, tc, tb, hbox, htab, htb⟩ := HC.out.2.1
        have HTB := hid (And.intro hbox (And.intro htab htb))
        obtain ⟨x0, x1, x2, x3, x4, x5, x6, xf⟩ := blk7 (show _ = some (Obj.cells #[.int .i64 _, .int .i64 _, .slice tA tn tc, .bool _, .int .i64 _, .bool _, .int .i64 _] 26 (0, 0)) from hbox)
        clear hbox htab htb
        by_cases he : s4.e = 0
        · skip
          have e0 : (s4.e == 0) = true := by simpa using he
          have hq := HB9.out
          rw [decide_eq_decide.2 (show (s4.e = 0 ∧ sizB vW vH = false) ↔ sizB vW vH = false from ⟨fun h => h.2, fun h => ⟨he, h⟩⟩)] at hq
          have HQ := hid (show B9 = !sizB vW vH from by rw [hq]; exact dec_not _)
          clear hq he
          go_wp2_with fail
          refine (err_calls w9 g o s4.p s4.e HC.out.cur).mono ?_
          rintro e wx ⟨rfl, hwx⟩
          rw [hwx]
          clear hwx wx
          go_wp2_with fail
          refine (sized_calls vW vH w9 bW bH).mono ?_
          rintro e wx ⟨rfl, hwx⟩
          rw [hwx]
          clear hwx wx
          go_wp2_with fail
          go_meet
          exact ⟨congrArg Value.bool HQ.out.symm, rfl⟩
        · skip
          have e0 : (s4.e == 0) = false := by simpa using he
          have HQ := hid (show B9 = false from by rw [HB9.out]; exact decide_eq_false (fun h => he h.1))
          clear he
          go_wp2_with fail
          refine (err_calls w9 g o s4.p s4.e HC.out.cur).mono ?_
          rintro e wx ⟨rfl, hwx⟩
          rw [hwx]
          clear hwx wx
          go_wp2_with fail
          go_meet
          exact ⟨congrArg Value.bool HQ.out.symm, rfl⟩
      case rest =>
        obtain ⟨rfl, rfl⟩ := hcut
        obtain ⟨w9, rfl⟩ : ∃ x : World, x = wc := ⟨_, rfl⟩
        go_upto_if 46 with fail
        go_cut [] (fun wx => StR L T g h w1 o wx s5 ⟨vW, vH, [], false, -1, false, 0⟩)
        case first =>
          cases B9 with
          | true =>
            have hq : s4.e = 0 ∧ sizB vW vH = false := of_decide_eq_true HB9.out.symm
            have HQ := hid (show s5 = flN s4 11 from by rw [Hs5.out, if_pos hq])
            clear hq
            go_wp2_with fail
            refine (fail_s w9 g o s4 11 HC.out.cur).mono ?_
            rintro e wx ⟨rfl, hc, hf⟩
            have HX := hid (HC.out.step hc hf hgh hg1)
            clear hc hf
            go_wp2_with fail
            go_meet
            rw [HQ.out]
            exact HX.out
          | false =>
            have hq : ¬ (s4.e = 0 ∧ sizB vW vH = false) := of_decide_eq_false HB9.out.symm
            have HQ := hid (show s5 = s4 from by rw [Hs5.out, if_neg hq])
            clear hq
            go_wp2_with fail
            go_meet
            rw [HQ.out]
            exact HC.out
        case rest =>
          have HD := hid hcut
          clear hcut
          obtain ⟨w10, rfl⟩ : ∃ x : World, x = wc := ⟨_, rfl⟩
          obtain ⟨tA0, tn0, tc0, tb0, hbox0, htab0, htb0⟩ := HD.out.2.1
          have hhs : h < w10.heap.size := (Array.getElem?_eq_some_iff.1 hbox0).1
          have HBX := hid hbox0
          clear hbox0 htab0 htb0 HC HB HA
          go_wp2_with fail
          refine (tab_calls w10 g o s5 m1 hm1b HD.out.cur (by omega)).mono ?_
          rw [← Ht1.out, ← Hs6.out]
          rintro e w11 ⟨tA, tn, tc, rfl, htab, hc, hf⟩
          have hb11 : w11.heap[h]? = some (.cells (scC vW vH (.slice tA0 tn0 tc0) false (-1) false 0) 26 (0, 0)) := (hf.block h hhs (fun e => by have e : h = g := e; omega)).trans HBX.out
          have HD2 := hid (And.intro htab (And.intro hc (And.intro (HD.out.fr.trans hf (fun k hk e => by have e : k = g := e; omega)) hb11)))
          obtain ⟨x0, x1, x2, x3, x4, x5, x6, xf⟩ := blk7 (show w11.heap[h]? = some (.cells #[.int .i64 vW, .int .i64 vH, .slice tA0 tn0 tc0, .bool false, .int .i64 (-1), .bool false, .int .i64 0] 26 (0, 0)) from hb11)
          clear htab hc hf hb11
          go_wp2_with fail
          go_step3
          obtain ⟨w12, hw12⟩ : ∃ W, W = w11.setCell ⟨h, 2, none⟩ (.slice tA tn tc) := ⟨_, rfl⟩
          rw [← hw12]
          have HE1 := hid (show StR L T g h w1 o w12 s6 ⟨vW, vH, t1, false, -1, false, 0⟩ from by
            have hfs : Fr (HK.One h) w11 w12 := by rw [hw12]; exact Fr.set1 w11 h 2 _
            exact ⟨HD2.out.2.1.fr hfs (fun k h1 h2 e => by have e : k = h := e; omega), ⟨tA, tn, tc, w10.heap.size, by rw [hw12]; exact zt2 HD2.out.2.2.2 _, HD2.out.1.fr hfs (fun k hk _ e => by have e : k = h := e; omega), hhs⟩, HD2.out.2.2.1.trans hfs (fun k hk e => by have e : k = h := e; omega)⟩)
          clear hw12 x0 x1 x2 x3 x4 x5 x6 xf HD HD2 HBX hhs
          go_upto_block 0 with fail
          go_cut [] (fun wx => StR L T g h w1 o wx s7 ⟨vW, vH, t1, false, cl, false, 0⟩)
          case first =>
            go_wp2_with fail
            go_loopg [] (o.length + 1) (fun f wr => ∃ (s : LS) (cc : Int), Hid (partsS f o s cc = (s7, cl) ∧ (s.e = 0 → o.length + 1 ≤ f + s.p) ∧ StR L T g h w1 o wr s ⟨vW, vH, t1, false, cc, false, 0⟩))
            case atStart => exact ⟨s6, -1, hid ⟨by rw [Hs7.out, Hcl.out], fun _ => by omega, HE1.out⟩⟩
            case round =>
              obtain ⟨s, cc, HR⟩ := hrel
              have hsp : s.p ≤ o.length := HR.out.2.2.cur.hi
              by_cases he : s.e = 0
              · skip
                have e0 : (s.e == 0) = true := by simpa using he
                obtain ⟨f, rfl⟩ : ∃ f, gk = f + 1 := ⟨gk - 1, by have := HR.out.2.1 he; omega⟩
                have hfl := HR.out.2.1 he
                have hun : partsS (f + 1) o s cc = (if lnN o s 1 = 33 then partsS f o (exS o (lxN o s 1).p cc).1 (exS o (lxN o s 1).p cc).2 else if lnN o s 1 = 44 then (lxN o s 1, cc) else if lnN o s 1 = 59 then (flN (lxN o s 1) 16, cc) else (flN (lxN o s 1) 3, cc)) := by rw [partsS, if_neg (by simpa using he)]
                rw [HR.out.1] at hun
                have hlx := lx_one o s he
                obtain ⟨kk, hkk⟩ : ∃ q, q = lnN o s 1 := ⟨_, rfl⟩
                obtain ⟨sx, hsx⟩ : ∃ q, q = lxN o s 1 := ⟨_, rfl⟩
                rw [← hkk, ← hsx] at hun hlx
                have HKK := hid hkk
                have HSX := hid hsx
                have HUN := hid hun
                have HLX := hid hlx
                clear hkk hsx hun hlx he
                go_wp2_with fail
                refine (err_calls wr g o s.p s.e HR.out.2.2.cur).mono ?_
                rintro e wx ⟨rfl, hwx⟩
                rw [hwx]
                clear hwx wx
                go_wp2_with fail
                refine (little_s wr g o s 1 HR.out.2.2.cur).mono ?_
                rw [← HKK.out, ← HSX.out]
                rintro e wy ⟨rfl, hc, hf⟩
                have HY := hid (HR.out.2.2.step hc hf hgh hg1)
                clear hc hf
                by_cases k33 : kk = 33
                · skip
                  have hsx0 : sx = ⟨s.p + 1, 0⟩ ∧ s.p < o.length := by
                    rcases HLX.out with h | h
                    · exact ⟨h.2.2, h.1⟩
                    · exact absurd h.2.1 (by omega)
                  obtain ⟨hsx1, hslt⟩ := hsx0
                  have b33 : (kk == 33) = true := by simpa using k33
                  have HU := hid (show partsS f o (exS o sx.p cc).1 (exS o sx.p cc).2 = (s7, cl) from by rw [HUN.out, if_pos k33])
                  have HSX1 := hid hsx1
                  have hsp2 : sx.p = s.p + 1 ∧ sx.e = 0 := by rw [hsx1]; exact ⟨rfl, rfl⟩
                  clear hsx1 k33
                  obtain ⟨pp, hpp⟩ : ∃ q, q = sx.p := ⟨_, rfl⟩
                  have hp2 : pp ≤ n := by rw [hpp, hsp2.1]; have := HN.out.1; omega
                  have HPP := hid hpp
                  clear hpp
                  go_wp2_with fail
                  refine (left_calls wy g o sx.p sx.e HY.out.cur).mono ?_
                  rw [show leftS o sx.p sx.e = ((n - pp : Nat) : Int) from by unfold leftS; rw [if_pos hsp2.2, HPP.out, HN.out.1]]
                  rintro e wl ⟨rfl, qn, rfl⟩
                  have hsub : (n : Int) - ((n - pp : Nat) : Int) = (pp : Int) := by omega
                  have hcut2 := cut_l slU8 A n c (pp : Int) pp rfl (by omega)
                  obtain ⟨tA, tn, tc, tb, hbox, htab, htb⟩ := HY.out.2.1
                  have HTB := hid (And.intro hbox (And.intro htab htb))
                  have hhw : h < wy.heap.size := (Array.getElem?_eq_some_iff.1 hbox).1
                  clear hbox htab htb
                  go_wp2_with fail
                  refine (ext_calls (L := L) (T := T) (wy.drewN qn) g h o pp (cutA A c pp 1) (n - pp) (c - pp) vW vH (.slice tA tn tc) false cc false 0 (by rw [HPP.out]; have h := HY.out.cur.drewN qn; rw [hsp2.2] at h; exact h) (by show T ≤ wy.heap.size; omega) (((HN.out.2.1.fr0 ((HF1.out.then HY.out.fr))).cutA pp c (by rw [HN.out.1]; exact HN.out.2.2) (by rw [HN.out.1]; omega))) (by rw [List.length_drop, HN.out.1]) (by have := HN.out.2.2; omega) (fun ad e => ?_) HTB.out.1 (.inr hTh)).mono ?_
                  · obtain ⟨a, ea, eb⟩ := cutA_blk e
                    subst ea
                    have := HN.out.2.1.lt (by rw [HN.out.1]; have := hslt; have := HN.out.1; omega)
                    have := HF1.out.size
                    exact ⟨by omega, by omega⟩
                  rintro e wz ⟨rfl, hcz, hbz, hfz⟩
                  have hfz2 : Fr (fun k => k = g ∨ k = h) (wy.drewN qn) wz := hfz
                  have HZ := hid (show StR L T g h w1 o wz (exS o pp cc).1 ⟨vW, vH, t1, false, (exS o pp cc).2, false, 0⟩ from ⟨hcz, ⟨tA, tn, tc, tb, hbz, (show TabN tb (wy.drewN qn) tA tn tc t1 from HTB.out.2.1).fr (S := fun k => k = g ∨ k = h) hfz (fun k hk _ e => by have := HTB.out.2.2; rcases e with e | e <;> omega), HTB.out.2.2⟩, (HY.out.fr.drewN qn).trans hfz2 (fun k hk e => by rcases e with e | e <;> omega)⟩)
                  clear hcz hbz hfz hfz2
                  go_wp2_with fail
                  go_roundg f
                  case measure => omega
                  case rel => exact ⟨_, _, hid ⟨by rw [HPP.out]; exact HU.out, fun _ => by have h1 := exS_p o pp cc; have h2 := HPP.out; omega, HZ.out⟩⟩
                · skip
                  have b33 : (kk == 33) = false := by simpa using k33
                  by_cases k44 : kk = 44
                  · skip
                    have b44 : (kk == 44) = true := by simpa using k44
                    have HU := hid (show s7 = sx ∧ cl = cc from by have h := HUN.out; rw [if_neg k33, if_pos k44] at h; injection h with h1 h2; exact ⟨h1, h2⟩)
                    clear k33 k44
                    go_wp2_with fail
                    go_meet
                    rw [HU.out.1, HU.out.2]
                    exact HY.out
                  · skip
                    have b44 : (kk == 44) = false := by simpa using k44
                    by_cases k59 : kk = 59
                    · skip
                      have b59 : (kk == 59) = true := by simpa using k59
                      have HU := hid (show s7 = flN sx 16 ∧ cl = cc from by have h := HUN.out; rw [if_neg k33, if_neg k44, if_pos k59] at h; injection h with h1 h2; exact ⟨h1, h2⟩)
                      clear k33 k44 k59
                      go_wp2_with fail
                      refine (fail_s wy g o sx 16 HY.out.cur).mono ?_
                      rintro e wz ⟨rfl, hc, hf⟩
                      have HZ := hid (HY.out.step hc hf hgh hg1)
                      clear hc hf
                      go_wp2_with fail
                      go_roundg f
                      case measure => omega
                      case rel => exact ⟨_, _, hid ⟨by rw [← HU.out.1, ← HU.out.2]; exact parts_done f o s7 cl (by rw [HU.out.1]; exact flN_ne _ _ (by decide)), fun h => absurd h (flN_ne _ _ (by decide)), HZ.out⟩⟩
                    · skip
                      have b59 : (kk == 59) = false := by simpa using k59
                      have HU := hid (show s7 = flN sx 3 ∧ cl = cc from by have h := HUN.out; rw [if_neg k33, if_neg k44, if_neg k59] at h; injection h with h1 h2; exact ⟨h1, h2⟩)
                      clear k33 k44 k59
                      go_wp2_with fail
                      refine (fail_s wy g o sx 3 HY.out.cur).mono ?_
                      rintro e wz ⟨rfl, hc, hf⟩
                      have HZ := hid (HY.out.step hc hf hgh hg1)
                      clear hc hf
                      go_wp2_with fail
                      go_roundg f
                      case measure => omega
                      case rel => exact ⟨_, _, hid ⟨by rw [← HU.out.1, ← HU.out.2]; exact parts_done f o s7 cl (by rw [HU.out.1]; exact flN_ne _ _ (by decide)), fun h => absurd h (flN_ne _ _ (by decide)), HZ.out⟩⟩
              · skip
                have e0 : (s.e == 0) = false := by simpa using he
                have HU := hid (show s7 = s ∧ cl = cc from by have h := HR.out.1; rw [parts_done gk o s cc he] at h; injection h with h1 h2; exact ⟨h1.symm, h2.symm⟩)
                clear he
                go_wp2_with fail
                refine (err_calls wr g o s.p s.e HR.out.2.2.cur).mono ?_
                rintro e wx ⟨rfl, hwx⟩
                rw [hwx]
                clear hwx wx
                go_wp2_with fail
                go_meet
                rw [HU.out.1, HU.out.2]
                exact HR.out.2.2
          case rest =>
            have HP := hid hcut
            clear hcut HE1
            obtain ⟨w13, rfl⟩ : ∃ x : World, x = wc := ⟨_, rfl⟩
            go_wp2_with fail
            refine (little_s w13 g o s7 2 HP.out.cur).mono ?_
            rw [← Hq0.out, ← Hs8.out]
            rintro e w14 ⟨rfl, hc, hf⟩
            have HP1 := hid (HP.out.step hc hf hgh hg1)
            clear hc hf
            go_wp2_with fail
            refine (little_s w14 g o s8 2 HP1.out.cur).mono ?_
            rw [← Hq1.out, ← Hs9.out]
            rintro e w15 ⟨rfl, hc, hf⟩
            have HP2 := hid (HP1.out.step hc hf hgh hg1)
            clear hc hf
            go_wp2_with fail
            refine (little_s w15 g o s9 2 HP2.out.cur).mono ?_
            rw [← Hq2.out, ← Hs10.out]
            rintro e w16 ⟨rfl, hc, hf⟩
            have HP3 := hid (HP2.out.step hc hf hgh hg1)
            clear hc hf
            go_wp2_with fail
            refine (little_s w16 g o s10 2 HP3.out.cur).mono ?_
            rw [← Hq3.out, ← Hs11.out]
            rintro e w17 ⟨rfl, hc, hf⟩
            have HP4 := hid (HP3.out.step hc hf hgh hg1)
            clear hc hf
            go_upto_region 21 with fail
            obtain ⟨g9, hg9⟩ : ∃ q, q = w17.heap.size := ⟨_, rfl⟩
            obtain ⟨w18, hw18⟩ : ∃ W, W = w17.alloc (.cells #[.int .i64 q0, .int .i64 q1, .int .i64 q2, .int .i64 q3] 50) := ⟨_, rfl⟩
            have hb9 : w18.heap[g9]? = some (.cells #[.int .i64 q0, .int .i64 q1, .int .i64 q2, .int .i64 q3] 50 (0, 0)) := by rw [hw18, hg9]; exact heap_new _ _
            have HP5 := hid (HP4.out.keep (by rw [hw18]; exact (Fr.refl No w17).alloc _ : Fr No w17 w18))
            have hg9h : h < g9 := by obtain ⟨tA, tn, tc, tb, hbox, _, _⟩ := HP4.out.2.1; have := (Array.getElem?_eq_some_iff.1 hbox).1; omega
            rw [← hw18, ← hg9]
            have HB9P := hid hb9
            clear hw18 hg9 hb9 HP HP1 HP2 HP3 HP4
            go_wp2_with fail
            refine (little_s w18 g o s11 1 HP5.out.cur).mono ?_
            rw [← HvN.out, ← Hs12.out]
            rintro e w19 ⟨rfl, hc, hf⟩
            have HP6 := hid (And.intro (HP5.out.step hc hf hgh hg1) ((hf.block g9 (Array.getElem?_eq_some_iff.1 HB9P.out).1 (fun e => by have e : g9 = g := e; omega)).trans HB9P.out))
            clear hc hf
            rw [HN1.out]
            go_upto_block 3 with fail
            go_cut [] (fun wx => StR L T g h w1 o wx s13 ⟨vW, vH, t1, false, cl, false, 0⟩)
            case first =>
              obtain ⟨tA, tn, tc, tb, hbox, htab, htb⟩ := HP6.out.1.2.1
              have htl := htab.1
              obtain ⟨x0, x1, x2, x3, x4, x5, x6, xf⟩ := blk7 (show w19.heap[h]? = some (.cells #[.int .i64 vW, .int .i64 vH, .slice tA tn tc, .bool false, .int .i64 cl, .bool false, .int .i64 0] 26 (0, 0)) from hbox)
              obtain ⟨p0, p1, p2, p3⟩ := blk4i HP6.out.2
              have HTL := hid htl
              clear hbox htab htl
              have hneq : ∀ W, (binOp .neq 50 (.agg #[.int .i64 q0, .int .i64 q1, .int .i64 q2, .int .i64 q3]) (.agg #[.int .i64 0, .int .i64 0, .int .i64 vW, .int .i64 vH])).run Tryd.prog W = .ok (.bool (!decide ([q0, q1, q2, q3] = [0, 0, vW, vH]))) W := fun W => run_neq_ints W (n := 4) (e := 3) Tryd.underlying50 Tryd.underlying3 (by kernel_rfl) (by kernel_rfl) [q0, q1, q2, q3] [0, 0, vW, vH] rfl rfl
              obtain ⟨PB, hPB⟩ : ∃ b, b = decide ([q0, q1, q2, q3] = [0, 0, vW, vH]) := ⟨_, rfl⟩
              rw [← hPB] at hneq
              have HPB := hid (show PB = decide (q0 = 0 ∧ q1 = 0 ∧ q2 = vW ∧ q3 = vH) from by rw [hPB]; exact decide_eq_decide.2 (by simp))
              clear hPB
              by_cases he : s12.e = 0
              · skip
                have e0 : (s12.e != 0) = false := by simpa using he
                cases PB with
                | false =>
                  have hq : ¬ (q0 = 0 ∧ q1 = 0 ∧ q2 = vW ∧ q3 = vH) := of_decide_eq_false HPB.out.symm
                  have HQ := hid (show s13 = flN s12 11 from by rw [Hs13.out, if_neg (by simpa using he), if_pos hq])
                  clear hq he
                  simp only [Bool.not_false] at hneq
                  go_wp2_with fail
                  refine (err_calls w19 g o s12.p s12.e HP6.out.1.cur).mono ?_
                  rintro e wx ⟨rfl, hwx⟩
                  rw [hwx]
                  clear hwx wx
                  go_wp2_with fail
                  refine (fail_s w19 g o s12 11 HP6.out.1.cur).mono ?_
                  rintro e wx ⟨rfl, hc, hf⟩
                  have HX := hid (HP6.out.1.step hc hf hgh hg1)
                  clear hc hf
                  go_wp2_with fail
                  go_meet
                  rw [HQ.out]
                  exact HX.out
                | true =>
                  have hq : q0 = 0 ∧ q1 = 0 ∧ q2 = vW ∧ q3 = vH := of_decide_eq_true HPB.out.symm
                  have hm := and128 ⟨m2, hm2b⟩
                  simp only at hm
                  simp only [Bool.not_true] at hneq
                  have hvN : vN = (m2 : Int) := HN1.out
                  have hcs : (m2 < 128 ∧ bits .and .i64 (m2 : Int) 128 = 0 ∧ t1 = [] ∧ ((tn : Int) == 0) = true ∧ Hid (s13 = flN s12 12)) ∨ (m2 < 128 ∧ bits .and .i64 (m2 : Int) 128 = 0 ∧ t1 ≠ [] ∧ ((tn : Int) == 0) = false ∧ Hid (s13 = s12)) ∨ (¬ m2 < 128 ∧ bits .and .i64 (m2 : Int) 128 = 128 ∧ Hid (s13 = s12)) := by
                    by_cases hmm : m2 < 128
                    · have hz : m2 / 128 * 128 = 0 := by omega
                      rw [hz] at hm
                      by_cases ht : t1 = []
                      · refine .inl ⟨hmm, hm, ht, ?_, ?_⟩
                        · have h3 := HTL.out; simp only at h3; rw [ht] at h3; simp at h3; simp; omega
                        · show _ = _; rw [Hs13.out, if_neg (by simpa using he), if_neg (fun h => h hq), if_pos ⟨by omega, ht⟩]
                      · refine .inr (.inl ⟨hmm, hm, ht, ?_, ?_⟩)
                        · have h3 := HTL.out; simp only at h3; have h4 : t1.length ≠ 0 := fun h => ht (List.length_eq_zero_iff.1 h); simp; omega
                        · show _ = _; rw [Hs13.out, if_neg (by simpa using he), if_neg (fun h => h hq), if_neg (fun h => ht h.2)]
                    · have hz : m2 / 128 * 128 = 128 := by omega
                      rw [hz] at hm
                      refine .inr (.inr ⟨hmm, hm, ?_⟩)
                      show _ = _; rw [Hs13.out, if_neg (by simpa using he), if_neg (fun h => h hq), if_neg (fun h => hmm (by omega))]
                  clear hq he hm hvN
                  rcases hcs with ⟨_, hm, _, htn, HQ⟩ | ⟨_, hm, _, htn, HQ⟩ | ⟨_, hm, HQ⟩
                  · skip
                    go_wp2_with fail
                    refine (err_calls w19 g o s12.p s12.e HP6.out.1.cur).mono ?_
                    rintro e wx ⟨rfl, hwx⟩
                    rw [hwx]
                    clear hwx wx
                    go_wp2_with fail
                    refine (fail_s w19 g o s12 12 HP6.out.1.cur).mono ?_
                    rintro e wx ⟨rfl, hc, hf⟩
                    have HX := hid (HP6.out.1.step hc hf hgh hg1)
                    clear hc hf
                    go_wp2_with fail
                    go_meet
                    rw [HQ.out]
                    exact HX.out
                  · skip
                    go_wp2_with fail
                    refine (err_calls w19 g o s12.p s12.e HP6.out.1.cur).mono ?_
                    rintro e wx ⟨rfl, hwx⟩
                    rw [hwx]
                    clear hwx wx
                    go_wp2_with fail
                    go_meet
                    rw [HQ.out]
                    exact HP6.out.1
                  · skip
                    go_wp2_with fail
                    refine (err_calls w19 g o s12.p s12.e HP6.out.1.cur).mono ?_
                    rintro e wx ⟨rfl, hwx⟩
                    rw [hwx]
                    clear hwx wx
                    go_wp2_with fail
                    go_meet
                    rw [HQ.out]
                    exact HP6.out.1
              · skip
                have e0 : (s12.e != 0) = true := by simpa using he
                have HQ := hid (show s13 = s12 from by rw [Hs13.out, if_pos he])
                clear he
                go_wp2_with fail
                refine (err_calls w19 g o s12.p s12.e HP6.out.1.cur).mono ?_
                rintro e wx ⟨rfl, hwx⟩
                rw [hwx]
                clear hwx wx
                go_wp2_with fail
                go_meet
                rw [HQ.out]
                exact HP6.out.1
            case rest =>
              have HA7 := hid hcut
              clear hcut HP6 HB9P HP5
              obtain ⟨w20, rfl⟩ : ∃ x : World, x = wc := ⟨_, rfl⟩
              obtain ⟨LA, hLA⟩ : ∃ b, b = decide (m2 / 64 % 2 = 1) := ⟨_, rfl⟩
              have HLA := hid hLA
              have hw1h : w1.heap.size ≤ h := by omega
              go_upto_region 27 with fail
              go_cut [] (fun wx => StR L T g h w1 o wx s13 ⟨vW, vH, t1, false, cl, LA, 0⟩)
              case first =>
                have hm := and64 ⟨m2, hm2b⟩
                simp only at hm
                obtain ⟨tA, tn, tc, tb, hbox, htab, htb⟩ := HA7.out.2.1
                obtain ⟨x0, x1, x2, x3, x4, x5, x6, xf⟩ := blk7 (show w20.heap[h]? = some (.cells #[.int .i64 vW, .int .i64 vH, .slice tA tn tc, .bool false, .int .i64 cl, .bool false, .int .i64 0] 26 (0, 0)) from hbox)
                clear hbox htab htb
                have hcs : (LA = false ∧ bits .and .i64 (m2 : Int) 64 = 0) ∨ (LA = true ∧ bits .and .i64 (m2 : Int) 64 = 64) := by
                  by_cases hr : m2 / 64 % 2 = 1
                  · rw [hr] at hm; exact .inr ⟨by rw [hLA, decide_eq_true hr], hm⟩
                  · have h0 : m2 / 64 % 2 = 0 := by omega
                    rw [h0] at hm; exact .inl ⟨by rw [hLA, decide_eq_false hr], hm⟩
                clear hLA hm
                rcases hcs with ⟨rfl, hm⟩ | ⟨rfl, hm⟩
                all_goals
                  go_wp2_with fail
                  go_meet
                  exact HA7.out.setB hTh hw1h 5 _ _ (fun tA tn tc hb => zt5 hb _) rfl
              case rest =>
                have HA8 := hid hcut
                clear hcut hLA
                obtain ⟨w21, rfl⟩ : ∃ x : World, x = wc := ⟨_, rfl⟩
                obtain ⟨tA, tn, tc, tb, hbox, htab, htb⟩ := HA8.out.2.1
                have hhs : h < w21.heap.size := (Array.getElem?_eq_some_iff.1 hbox).1
                have HBX := hid (And.intro hbox (And.intro htab htb))
                clear hbox htab htb
                go_wp2_with fail
                refine (tab_calls w21 g o s13 m2 hm2b HA8.out.cur (by omega)).mono ?_
                rw [← Ht2.out, ← Hs14.out]
                rintro e w22 ⟨lA, ll, lc, rfl, ltab, hc, hf⟩
                have HA9 := hid (show StR L T g h w1 o w22 s14 ⟨vW, vH, t1, false, cl, LA, 0⟩ from HA8.out.step hc hf hgh hg1)
                have HLT := hid ltab
                have HLL := hid ltab.1
                have hfz := hf.size
                have hb22 : w22.heap[h]? = some (.cells (scC vW vH (.slice tA tn tc) false cl LA 0) 26 (0, 0)) := (hf.block h hhs (fun e => by have e : h = g := e; omega)).trans HBX.out.1
                have HB22 := hid hb22
                clear hc hf ltab
                go_upto_if 123 with fail
                obtain ⟨x0, x1, x2, x3, x4, x5, x6, xf⟩ := blk7 (show w22.heap[h]? = some (.cells #[.int .i64 vW, .int .i64 vH, .slice tA tn tc, .bool false, .int .i64 cl, .bool LA, .int .i64 0] 26 (0, 0)) from hb22)
                clear hb22
                go_cut [] (fun wx => StR L T g h w1 o wx s14 ⟨vW, vH, if t2 = [] then t1 else t2, !decide (t2 = []), cl, LA, 0⟩)
                case first =>
                  by_cases ht : t2 = []
                  · skip
                    have hl0 : ll = 0 := by have h3 := HLL.out; rw [ht] at h3; simp at h3; omega
                    subst hl0
                    have HQ := hid ht
                    clear ht
                    go_wp2_with fail
                    go_meet
                    rw [if_pos HQ.out, decide_eq_true HQ.out]
                    exact HA9.out
                  · skip
                    have hl0 : (0 : Int) < (ll : Int) := by have h3 := HLL.out; have h4 : t2.length ≠ 0 := fun h => ht (List.length_eq_zero_iff.1 h); omega
                    have HQ := hid ht
                    clear ht
                    go_wp2_with fail
                    go_meet
                    rw [if_neg HQ.out, decide_eq_false HQ.out]
                    have hfs : Fr (HK.One h) w22 ((w22.setCell ⟨h, 2, none⟩ (.slice lA ll lc)).setCell ⟨h, 3, none⟩ (.bool true)) := (Fr.set1 w22 h 2 _).then (Fr.set1 _ h 3 _)
                    exact ⟨HA9.out.cur.fr hfs (fun k h1 h2 e => by have e : k = h := e; omega), ⟨lA, ll, lc, w21.heap.size, zt3 (zt2 HB22.out _) _, HLT.out.fr hfs (fun k hk _ e => by have e : k = h := e; omega), hhs⟩, HA9.out.fr.trans hfs (fun k hk e => by have e : k = h := e; omega)⟩
                case rest =>
                  have HA10 := hid hcut
                  clear hcut x0 x1 x2 x3 x4 x5 x6 xf HA8 HA9 HBX HLT HB22 hhs hfz
                  obtain ⟨w23, rfl⟩ : ∃ x : World, x = wc := ⟨_, rfl⟩
                  obtain ⟨tF, htF⟩ : ∃ t, t = (if t2 = [] then t1 else t2) := ⟨_, rfl⟩
                  obtain ⟨lF, hlF⟩ : ∃ b, b = (!decide (t2 = [])) := ⟨_, rfl⟩
                  rw [← htF, ← hlF] at HA10
                  rw [← htF, ← hlF, ← HLA.out] at HE
                  clear htF hlF
                  go_wp2_with fail
                  refine (little_s w23 g o s14 1 HA10.out.cur).mono ?_
                  rw [← HvK.out, ← Hs15.out]
                  rintro e w24 ⟨rfl, hc, hf⟩
                  have HA11 := hid (HA10.out.step hc hf hgh hg1)
                  clear hc hf
                  obtain ⟨tA, tn, tc, tb, hbox, htab, htb⟩ := HA11.out.2.1
                  obtain ⟨x0, x1, x2, x3, x4, x5, x6, xf⟩ := blk7 (show w24.heap[h]? = some (.cells #[.int .i64 vW, .int .i64 vH, .slice tA tn tc, .bool lF, .int .i64 cl, .bool LA, .int .i64 0] 26 (0, 0)) from hbox)
                  clear hbox htab htb
                  go_upto_region 32 with fail
                  obtain ⟨w25, hw25⟩ : ∃ W, W = w24.setCell ⟨h, 6, none⟩ (.int .i64 vK) := ⟨_, rfl⟩
                  rw [← hw25]
                  have HA12 := hid (show StR L T g h w1 o w25 s15 ⟨vW, vH, tF, lF, cl, LA, vK⟩ from by rw [hw25]; exact HA11.out.setB hTh hw1h 6 _ _ (fun tA tn tc hb => zt6 hb _) rfl)
                  clear hw25 x0 x1 x2 x3 x4 x5 x6 xf HA11 HA10
                  obtain ⟨BK, hBK⟩ : ∃ b, b = decide (vK < 2 ∨ 8 < vK) := ⟨_, rfl⟩
                  have HBK := hid hBK
                  clear hBK
                  go_cut [137] (fun s137 wx => s137 = .bool BK ∧ wx = w25)
                  case first =>
                    obtain ⟨tA, tn, tc, tb, hbox, htab, htb⟩ := HA12.out.2.1
                    obtain ⟨x0, x1, x2, x3, x4, x5, x6, xf⟩ := blk7 (show w25.heap[h]? = some (.cells #[.int .i64 vW, .int .i64 vH, .slice tA tn tc, .bool lF, .int .i64 cl, .bool LA, .int .i64 vK] 26 (0, 0)) from hbox)
                    clear hbox htab htb
                    have hcs : (vK < 2 ∧ Hid (BK = true)) ∨ (¬ vK < 2 ∧ 8 < vK ∧ Hid (BK = true)) ∨ (¬ vK < 2 ∧ ¬ 8 < vK ∧ Hid (BK = false)) := by
                      by_cases h1 : vK < 2
                      · exact .inl ⟨h1, by show _ = _; rw [HBK.out, decide_eq_true (.inl h1)]⟩
                      · by_cases h2 : 8 < vK
                        · exact .inr (.inl ⟨h1, h2, by show _ = _; rw [HBK.out, decide_eq_true (.inr h2)]⟩)
                        · exact .inr (.inr ⟨h1, h2, by show _ = _; rw [HBK.out, decide_eq_false (by omega)]⟩)
                    rcases hcs with ⟨h1, HQ⟩ | ⟨h1, h2, HQ⟩ | ⟨h1, h2, HQ⟩
                    all_goals
                      go_wp2_with fail
                      go_meet
                      exact ⟨congrArg Value.bool HQ.out.symm, rfl⟩
                  case rest =>
                    obtain ⟨rfl, rfl⟩ := hcut
                    obtain ⟨w25, rfl⟩ : ∃ x : World, x = wc := ⟨_, rfl⟩
                    go_upto_if 137 with fail
                    go_cut [] (fun wx => StR L T g h w1 o wx s16 ⟨vW, vH, tF, lF, cl, LA, vK⟩)
                    case first =>
                      cases BK with
                      | true =>
                        have hq : vK < 2 ∨ 8 < vK := of_decide_eq_true HBK.out.symm
                        have HQ := hid (show s16 = flN s15 3 from by rw [Hs16.out, if_pos hq])
                        clear hq
                        go_wp2_with fail
                        refine (fail_s w25 g o s15 3 HA12.out.cur).mono ?_
                        rintro e wx ⟨rfl, hc, hf⟩
                        have HX := hid (HA12.out.step hc hf hgh hg1)
                        clear hc hf
                        go_wp2_with fail
                        go_meet
                        rw [HQ.out]
                        exact HX.out
                      | false =>
                        have hq : ¬ (vK < 2 ∨ 8 < vK) := of_decide_eq_false HBK.out.symm
                        have HQ := hid (show s16 = s15 from by rw [Hs16.out, if_neg hq])
                        clear hq
                        go_wp2_with fail
                        go_meet
                        rw [HQ.out]
                        exact HA12.out
                    case rest =>
                      have HA13 := hid hcut
                      clear hcut HA12
                      obtain ⟨w26, rfl⟩ : ∃ x : World, x = wc := ⟨_, rfl⟩
                      have HV := hid (HG.out w26 HA13.out.fr)
                      by_cases he : s16.e = 0
                      · skip
                        have e0 : (s16.e != 0) = false := by simpa using he
                        have HQ := hid (show scrS o = (0, ⟨vW, vH, tF, lF, cl, LA, vK⟩, s16.p) from by rw [HE.out, if_neg (by simpa using he)])
                        obtain ⟨tA, tn, tc, tb, hbox, htab, htb⟩ := HA13.out.2.1
                        have HTB := hid (And.intro hbox (And.intro htab htb))
                        obtain ⟨pp, hpp⟩ : ∃ q, q = s16.p := ⟨_, rfl⟩
                        have hpn : pp ≤ n := by rw [hpp]; have := HA13.out.cur.hi; rw [HN.out.1] at this; exact this
                        have HLF := hid (show leftS o s16.p s16.e = ((n - pp : Nat) : Int) from by unfold leftS; rw [if_pos he, hpp, HN.out.1])
                        rw [← hpp] at HQ
                        clear he hbox htab hpp
                        have hsub : (n : Int) - ((n - pp : Nat) : Int) = (pp : Int) := by omega
                        have hwpp : IntKind.i64.wrap (pp : Int) = (pp : Int) := w64 _ (by omega) (by omega)
                        have hwsub : IntKind.i64.wrap ((n : Int) - ((n - pp : Nat) : Int)) = (pp : Int) := by rw [hsub]; exact w64 _ (by omega) (by omega)
                        go_wp2_with fail
                        refine (err_calls w26 g o s16.p s16.e HA13.out.cur).mono ?_
                        rintro e wx ⟨rfl, hwx⟩
                        rw [hwx]
                        clear hwx wx
                        go_upto_region 37 with fail
                        refine wp_region_held_drew (S := (fun W => W.heap[h]? = some (.cells (scC vW vH (.slice tA tn tc) lF cl LA vK) 26 (0, 0)))) (by kernel_rfl) HTB.out.1 (fun hHeld => ?_)
                        refine takeD (i := 0) (d := some 146) (v := .agg (scC vW vH (.slice tA tn tc) lF cl LA vK)) rfl rfl (by kernel_rfl) (by kernel_rfl) (by kernel_rfl) (fun _ _ _ h => h) (by rfl) ?_ (by assumption) ?_
                        · intro w' hSw
                          obtain ⟨y0, y1, y2, y3, y4, y5, y6, yf⟩ := blk7 (show w'.heap[h]? = some (.cells #[.int .i64 vW, .int .i64 vH, .slice tA tn tc, .bool lF, .int .i64 cl, .bool LA, .int .i64 vK] 26 (0, 0)) from hSw)
                          clear hSw hHeld
                          go_simp
                          first | done | rfl
                        (try simp only [Act.put, List.setIfInBounds_toArray, List.set_cons_zero, List.set_cons_succ])
                        refine takeD (i := 1) (d := some 147) (v := .slice A n c) rfl rfl (by kernel_rfl) (by kernel_rfl) (by kernel_rfl) (fun _ _ _ h => h) (by rfl) ?_ (by assumption) ?_
                        · intro w' hSw
                          obtain ⟨y0, y1, y2, y3, y4, y5, y6, yf⟩ := blk7 (show w'.heap[h]? = some (.cells #[.int .i64 vW, .int .i64 vH, .slice tA tn tc, .bool lF, .int .i64 cl, .bool LA, .int .i64 vK] 26 (0, 0)) from hSw)
                          clear hSw hHeld
                          go_simp
                          first | done | rfl
                        (try simp only [Act.put, List.setIfInBounds_toArray, List.set_cons_zero, List.set_cons_succ])
                        refine takeD (i := 2) (d := some 148) (v := .int .i64 (n : Int)) rfl rfl (by kernel_rfl) (by kernel_rfl) (by kernel_rfl) (fun _ _ _ h => h) (by rfl) ?_ (by assumption) ?_
                        · intro w' hSw
                          obtain ⟨y0, y1, y2, y3, y4, y5, y6, yf⟩ := blk7 (show w'.heap[h]? = some (.cells #[.int .i64 vW, .int .i64 vH, .slice tA tn tc, .bool lF, .int .i64 cl, .bool LA, .int .i64 vK] 26 (0, 0)) from hSw)
                          clear hSw hHeld
                          go_simp
                          first | done | rfl
                        (try simp only [Act.put, List.setIfInBounds_toArray, List.set_cons_zero, List.set_cons_succ])
                        refine takeD (i := 3) (d := some 149) (v := .pointer (some ⟨g, 0, none⟩)) rfl rfl (by kernel_rfl) (by kernel_rfl) (by kernel_rfl) (fun _ _ _ h => h) (by rfl) ?_ (by assumption) ?_
                        · intro w' hSw
                          obtain ⟨y0, y1, y2, y3, y4, y5, y6, yf⟩ := blk7 (show w'.heap[h]? = some (.cells #[.int .i64 vW, .int .i64 vH, .slice tA tn tc, .bool lF, .int .i64 cl, .bool LA, .int .i64 vK] 26 (0, 0)) from hSw)
                          clear hSw hHeld
                          go_simp
                          first | done | rfl
                        (try simp only [Act.put, List.setIfInBounds_toArray, List.set_cons_zero, List.set_cons_succ])
                        refine oneD (i := 4) (by kernel_rfl) rfl (fun KK hK => ?_)
                        go_simp
                        go_at_call 21
                        refine (left_calls w26.drew g o s16.p s16.e (HA13.out.cur.drewN 1)).mono ?_
                        rw [HLF.out]
                        rintro e wl ⟨rfl, qn, rfl⟩
                        refine hK.out _ _ HTB.out.1 (fun hHeld => ?_)
                        clear hK KK
                        (try simp only [Act.put, List.setIfInBounds_toArray, List.set_cons_zero, List.set_cons_succ])
                        refine takeD (i := 5) (d := some 151) (v := .int .i64 (pp : Int)) rfl rfl (by kernel_rfl) (by kernel_rfl) (by kernel_rfl) (fun _ _ _ h => h) (by rfl) ?_ (by assumption) ?_
                        · intro w' hSw
                          obtain ⟨y0, y1, y2, y3, y4, y5, y6, yf⟩ := blk7 (show w'.heap[h]? = some (.cells #[.int .i64 vW, .int .i64 vH, .slice tA tn tc, .bool lF, .int .i64 cl, .bool LA, .int .i64 vK] 26 (0, 0)) from hSw)
                          clear hSw hHeld
                          go_simp
                          first | done | rfl
                        (try simp only [Act.put, List.setIfInBounds_toArray, List.set_cons_zero, List.set_cons_succ])
                        obtain ⟨w27, hw27⟩ : ∃ W, W = w26.drew.drewN qn := ⟨_, rfl⟩
                        have HV7 := hid (show w27.heap[g2]? = some (.cells #[.int .i64 0, .int .i64 0, .slice none 0 0, .bool false, .int .i64 0, .bool false, .int .i64 0] 26 (0, 0)) ∧ Fr No w w27 ∧ w27.heap = w26.heap from by rw [hw27]; exact ⟨HV.out.1, (HV.out.2.drew).drewN qn, rfl⟩)
                        rw [← hw27]
                        clear hw27
                        obtain ⟨z0, z1, z2, z3, z4, z5, z6, zf⟩ := blk7 HV7.out.1
                        have hgh2 : g2 < h := by have := HS1.out; omega
                        refine oneD (i := 6) (by kernel_rfl) rfl (fun KK hK => ?_)
                        unfold scC
                        go_simp
                        refine hK.out _ _ (((fr7 w27 g2 _ _ _ _ _ _ _).block h (by rw [HV7.out.2.2]; exact (Array.getElem?_eq_some_iff.1 HTB.out.1).1) (fun e => by have e : h = g2 := e; omega)).trans (by rw [HV7.out.2.2]; exact HTB.out.1)) (fun hHeld => ?_)
                        clear hK KK
                        (try simp only [Act.put, List.setIfInBounds_toArray, List.set_cons_zero, List.set_cons_succ])
                        refine takeD (i := 7) (d := some 3) (v := .int .i64 (pp : Int)) rfl rfl (by kernel_rfl) (by kernel_rfl) (by kernel_rfl) (fun _ _ _ h => h) (by rfl) ?_ (by assumption) ?_
                        · intro w' hSw
                          obtain ⟨y0, y1, y2, y3, y4, y5, y6, yf⟩ := blk7 (show w'.heap[h]? = some (.cells #[.int .i64 vW, .int .i64 vH, .slice tA tn tc, .bool lF, .int .i64 cl, .bool LA, .int .i64 vK] 26 (0, 0)) from hSw)
                          clear hSw hHeld
                          go_simp
                          first | done | rfl
                        (try simp only [Act.put, List.setIfInBounds_toArray, List.set_cons_zero, List.set_cons_succ])
                        refine takeD (i := 8) (d := some 4) (v := .int .i64 0) rfl rfl (by kernel_rfl) (by kernel_rfl) (by kernel_rfl) (fun _ _ _ h => h) (by rfl) ?_ (by assumption) ?_
                        · intro w' hSw
                          obtain ⟨y0, y1, y2, y3, y4, y5, y6, yf⟩ := blk7 (show w'.heap[h]? = some (.cells #[.int .i64 vW, .int .i64 vH, .slice tA tn tc, .bool lF, .int .i64 cl, .bool LA, .int .i64 vK] 26 (0, 0)) from hSw)
                          clear hSw hHeld
                          go_simp
                          first | done | rfl
                        (try simp only [Act.put, List.setIfInBounds_toArray, List.set_cons_zero, List.set_cons_succ])
                        refine wpAnyH_done (by kernel_rfl) ?_ _
                        clear hHeld
                        go_wp2_with fail
                        refine ret_cell3 rfl (g := g2) rfl rfl rfl (load_scr (set7 HV7.out.1 _ _ _ _ _ _ _)) rfl ?_
                        rw [HQ.out]
                        have hfin := fr7 w27 g2 (.int .i64 vW) (.int .i64 vH) (.slice tA tn tc) (.bool lF) (.int .i64 cl) (.bool LA) (.int .i64 vK)
                        have hfr := HV7.out.2.1.trans hfin (fun k hk e => by have e : k = g2 := e; have := HW1.out.2; omega)
                        have htt : TabN tb w27 tA tn tc tF := by
                          obtain ⟨a1, ob, a2, a3⟩ := HTB.out.2.1
                          exact ⟨a1, ob, a2.keep (by rw [HV7.out.2.2]; exact Nat.le_refl _) (fun k _ => by rw [HV7.out.2.2]), a3⟩
                        obtain ⟨a1, ob, a2, a3⟩ := htt.fr hfin (fun k hk _ e => by have e : k = g2 := e; omega)
                        exact ⟨tA, tn, tc, rfl, ⟨a1, ob, a2, fun k hk => by have := a3 k hk; have := HW1.out.2; omega⟩, hfr⟩
                      · skip
                        have e0 : (s16.e != 0) = true := by simpa using he
                        have HQ := hid (show scrS o = (s16.e, zeroScr, 0) from by rw [HE.out, if_pos he])
                        obtain ⟨z0, z1, z2, z3, z4, z5, z6, zf⟩ := blk7 HV.out.1
                        clear he
                        go_wp2_with fail
                        refine (err_calls w26 g o s16.p s16.e HA13.out.cur).mono ?_
                        rintro e wx ⟨rfl, hwx⟩
                        rw [hwx]
                        clear hwx wx
                        go_wp2_with fail
                        refine ret_cell3 rfl (g := g2) rfl rfl rfl (load_scr (set7 HV.out.1 _ _ _ _ _ _ _)) rfl ?_
                        rw [HQ.out]
                        exact ⟨none, 0, 0, rfl, TabN.nil _ _, HV.out.2.trans (fr7 w26 g2 _ _ _ _ _ _ _) (fun k hk e => by have e : k = g2 := e; have := HW1.out.2; omega)⟩
end Go.Proofs.YtamkfjbdcjkchaaDoor

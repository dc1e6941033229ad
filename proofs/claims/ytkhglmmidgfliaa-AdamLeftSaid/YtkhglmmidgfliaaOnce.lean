/- The contract of the law's once, where each place stands there just once. -/
import Derived.Test.YtkhglmmidgfliaaOnceP
import Derived.Test.YtkhglmmidgfliaaDocSm
namespace Go.Proofs.Ytkhglmmidgfliaa
open Go.RowKit Go.Proofs.HK
set_option linter.unusedVariables false
set_option linter.unusedSimpArgs false
attribute [local go_sem] max2_int min2_int max_two min_two

theorem slBool : SlT Try.prog 78 4 1 1 := SlT.of (z := .bool false) Try.underlying78 (by kernel_rfl) rfl (by decide)
def seenL (N : Nat) (ks : List Nat) : List Value := (List.range N).map fun i => .bool (decide (i ∈ ks))
theorem seenL_nil (N : Nat) : seenL N [] = List.replicate N (.bool false) := by
  refine List.ext_getElem (by simp [seenL]) (fun i h1 h2 => by simp [seenL])
theorem seenL_set (N : Nat) (ks : List Nat) (k : Nat) : (seenL N ks).set k (.bool true) = seenL N (ks ++ [k]) := by
  refine List.ext_getElem (by simp [seenL]) (fun i h1 h2 => ?_)
  simp only [seenL, List.getElem_set, List.getElem_map, List.getElem_range, List.mem_append, List.mem_singleton]
  by_cases h : k = i
  · subst h; simp
  · have h' : ¬ i = k := fun e => h e.symm
    simp [h, h']
theorem seenL_get (N : Nat) (ks : List Nat) (k : Nat) (hk : k < N) (hn : k ∉ ks) : (seenL N ks)[k]? = some (.bool false) := by simp [seenL, hk, hn]
theorem Row.setA {w : World} {ad : Addr} {n c : Nat} {ob : Option Nat} {cs : List Value} (h : Row w 1 (.slice (some ad) n c) ob n cs) (k : Nat) (hk : k < n) (a : Value) :
    (∃ old, w.cell? (ad.add k) = some old) ∧ w.frozen? (ad.add k) = false ∧ Row (w.setCell (ad.add k) a) 1 (.slice (some ad) n c) ob n (cs.set k a) ∧ Fr (Opt ob) w (w.setCell (ad.add k) a) := by
  obtain ⟨g, o, old, e1, e2, e3, e4, e5⟩ := Row.setz h k (by omega) a
  injection e1 with e1
  subst e1
  have ha : (⟨g, o, none⟩ : Addr).add k = ⟨g, o + k, none⟩ := add_lit _ _ _
  rw [ha, e2]
  rw [e2] at e5
  exact ⟨⟨_, e3⟩, e4, e5, (Fr.refl (Opt (some g)) w).setCell (p := ⟨g, o + k, none⟩) (fun _ => rfl) a⟩
theorem Row.getA {w : World} {ad : Addr} {n c : Nat} {ob : Option Nat} {cs : List Value} (h : Row w 1 (.slice (some ad) n c) ob n cs) (k : Nat) {u : Value} (hu : cs[k]? = some u) : w.cell? (ad.add k) = some u := by
  obtain ⟨A', c', e, _, hc, _⟩ := h.cells
  injection e with e1 _ _
  subst e1
  obtain ⟨ad', e', hc⟩ := hc (by have := (List.getElem?_eq_some_iff.1 hu).1; omega)
  injection e' with e'
  subst e'
  exact hc _ _ hu
/-- A place's number. -/
def keyW (W : Nat) (s : Nat × Nat) : Nat := s.2 * W + s.1
theorem keyW_lt {W H : Nat} {s : Nat × Nat} (h : s.1 < W ∧ s.2 < H) : keyW W s < W * H := by
  unfold keyW
  have : (s.2 + 1) * W ≤ H * W := Nat.mul_le_mul_right _ h.2
  rw [Nat.succ_mul, Nat.mul_comm H] at this
  omega
theorem keyW_inj {W : Nat} {s t : Nat × Nat} (hs : s.1 < W) (ht : t.1 < W) (h : keyW W s = keyW W t) : s = t := by
  unfold keyW at h
  have h1 : (s.2 * W + s.1) / W = s.2 := by rw [Nat.mul_comm, Nat.mul_add_div (by omega), Nat.div_eq_of_lt hs]; rfl
  have h2 : (t.2 * W + t.1) / W = t.2 := by rw [Nat.mul_comm, Nat.mul_add_div (by omega), Nat.div_eq_of_lt ht]; rfl
  rw [h, h2] at h1
  have : s.1 = t.1 := by rw [h1] at h; omega
  exact Prod.ext this h1.symm
/-- What has been seen behind q lines and r places of the next one. -/
def vis (its : List (Nat × List (Nat × Nat))) (q r : Nat) : List (Nat × Nat) := spots (its.take q) ++ (its.getD q (0, [])).2.take r
theorem vis_zero (its : List (Nat × List (Nat × Nat))) (q : Nat) : vis its q 0 = spots (its.take q) := by simp [vis]
theorem vis_succ {its : List (Nat × List (Nat × Nat))} {q r : Nat} {it : Nat × List (Nat × Nat)} (hq : its[q]? = some it) {s : Nat × Nat} (hr : it.2[r]? = some s) : vis its q (r + 1) = vis its q r ++ [s] := by
  obtain ⟨h1, h2⟩ := List.getElem?_eq_some_iff.1 hr
  unfold vis
  rw [show its.getD q (0, []) = it by simp [List.getD, hq], List.take_succ_eq_append_getElem h1, h2, List.append_assoc]
theorem vis_end {its : List (Nat × List (Nat × Nat))} {q : Nat} {it : Nat × List (Nat × Nat)} (hq : its[q]? = some it) : vis its q it.2.length = spots (its.take (q + 1)) := by
  obtain ⟨h1, h2⟩ := List.getElem?_eq_some_iff.1 hq
  unfold vis
  rw [show its.getD q (0, []) = it by simp [List.getD, hq], List.take_length, List.take_succ_eq_append_getElem h1, h2, spots_append]
  simp [spots]
theorem vis_split {its : List (Nat × List (Nat × Nat))} {q r : Nat} {it : Nat × List (Nat × Nat)} (hq : its[q]? = some it) {s : Nat × Nat} (hr : it.2[r]? = some s) : ∃ l, spots its = vis its q r ++ s :: l := by
  obtain ⟨h1, h2⟩ := List.getElem?_eq_some_iff.1 hq
  obtain ⟨h3, h4⟩ := List.getElem?_eq_some_iff.1 hr
  refine ⟨it.2.drop (r + 1) ++ spots (its.drop (q + 1)), ?_⟩
  have e1 : spots its = spots (its.take q) ++ (it.2 ++ spots (its.drop (q + 1))) := by
    conv => lhs; rw [← List.take_append_drop q its, List.drop_eq_getElem_cons h1, h2]
    rw [spots_append]; simp [spots]
  have e2 : it.2 = it.2.take r ++ s :: it.2.drop (r + 1) := by
    conv => lhs; rw [← List.take_append_drop r it.2, List.drop_eq_getElem_cons h3, h4]
  rw [e1]
  unfold vis
  rw [show its.getD q (0, []) = it by simp [List.getD, hq]]
  conv => lhs; rw [e2]
  simp
theorem vis_new {its : List (Nat × List (Nat × Nat))} {W H P q r : Nat} (h : OnceL its W H P) {it : Nat × List (Nat × Nat)} (hq : its[q]? = some it) {s : Nat × Nat} (hr : it.2[r]? = some s) : s.1 < W ∧ s.2 < H ∧ keyW W s ∉ (vis its q r).map (keyW W) := by
  obtain ⟨l, hl⟩ := vis_split hq hr
  have hin := h.inside s (by rw [hl]; simp)
  refine ⟨hin.1, hin.2, fun hm => ?_⟩
  obtain ⟨t, ht, e⟩ := List.mem_map.1 hm
  have hint := h.inside t (by rw [hl]; simp [ht])
  have hst := keyW_inj hint.1 hin.1 e
  subst hst
  have hnd := h.nodup
  rw [hl] at hnd
  exact (List.pairwise_append.1 hnd).2.2 t ht t (List.mem_cons_self ..) rfl
theorem vis_len {its : List (Nat × List (Nat × Nat))} {W H P q r : Nat} (h : OnceL its W H P) {it : Nat × List (Nat × Nat)} (hq : its[q]? = some it) {s : Nat × Nat} (hr : it.2[r]? = some s) : (vis its q r).length < W * H := by
  obtain ⟨l, hl⟩ := vis_split hq hr
  have := h.all
  rw [hl] at this
  simp at this
  omega
theorem rise_next {its : List (Nat × List (Nat × Nat))} {W H P q : Nat} (h : OnceL its W H P) {it : Nat × List (Nat × Nat)} (hq : its[q]? = some it) : ∀ x ∈ its.drop (q + 1), it.1 ≤ x.1 := by
  obtain ⟨h1, h2⟩ := List.getElem?_eq_some_iff.1 hq
  have hr := h.rise
  rw [← List.take_append_drop q its, List.drop_eq_getElem_cons h1, h2, List.map_append, List.map_cons] at hr
  have := (List.pairwise_cons.1 (List.pairwise_append.1 hr).2.1).1
  exact fun x hx => this x.1 (List.mem_map.2 ⟨x, hx, rfl⟩)
set_option maxRecDepth 100000 in
set_option maxHeartbeats 3200000 in
theorem once_calls (A : Option Addr) (n c W H P : Nat) (its : List (Nat × List (Nat × Nat))) (xs : List LN) (w : World) (hx : LnsIn w A xs) (hn : xs.length = n) (he : xs.map LN.it = its) (ho : OnceL its W H P) (hn4 : n ≤ 409600) (hs4 : ∀ it ∈ its, it.2.length ≤ 4096)
    (hW : W ≤ 256) (hH : H ≤ 256) (hP : P ≤ 100) : Calls Try.prog 25 #[.slice A n c, .int .i64 W, .int .i64 H, .int .i64 P] w fun e w' => e = .returned (.bool true) ∧ Fr No w w' := by
  have hl : its.length = n := by rw [← he, List.length_map, hn]
  have HH := hid (And.intro hx (And.intro hn (And.intro he (And.intro ho (And.intro hs4 hl)))))
  obtain ⟨N, hN⟩ : ∃ N, N = W * H := ⟨_, rfl⟩
  have hN2 : N ≤ 65536 := by rw [hN]; exact Nat.mul_le_mul hW hH
  have hNw : IntKind.i64.wrap ((W : Int) * (H : Int)) = (N : Int) := by rw [← Int.natCast_mul, ← hN]; exact w64 _ (by omega) (by omega)
  have HN := hid hN
  clear hx hn he ho hs4 hN hl
  go_enter Try.func25, Try.ntmps25
  go_wp2_with (at_make; refine wpList_mk slBool (z := .bool false) (by kernel_rfl) rfl rfl (.tmp 18) (.tmp 18) rfl rfl rfl (n := N) rfl rfl (by omega) (by omega) ?_; intro w1 hrow1 hfr1)
  obtain ⟨gs, hgs⟩ : ∃ g, g = w.heap.size := ⟨_, rfl⟩
  obtain ⟨ad, had⟩ : ∃ ad : Addr, ad = ⟨gs, 0, none⟩ := ⟨_, rfl⟩
  rw [← hgs, ← had] at hrow1
  rw [← hgs, ← had]
  rw [← seenL_nil] at hrow1
  have H1 := hid (And.intro hrow1 (And.intro hfr1 hgs))
  clear hrow1 hfr1 hgs had
  go_loopw [10, 11, 22] (fun m p i wr => ∃ (q mm pp : Nat), i = .int .i64 q ∧ m = .int .i64 mm ∧ p = .int .i64 pp ∧ Hid (q ≤ n ∧ mm = (spots (its.take q)).length ∧ (∀ it ∈ its.drop q, pp ≤ it.1) ∧ Row wr 1 (.slice (some ad) N N) (some gs) N (seenL N ((spots (its.take q)).map (keyW W))) ∧ Fr No w wr)) (fun _ _ i _ => n - (intOf i).toNat)
  case atStart => exact ⟨0, 0, 1, rfl, rfl, rfl, by omega, by simp [spots], fun it hit => (HH.out.2.2.2.1.pass it (by simpa using hit)).1, by simpa [spots] using H1.out.1, H1.out.2.1⟩
  case round =>
    obtain ⟨q, mm, pp, rfl, rfl, rfl, HR⟩ := hrel
    by_cases hlt : q < n
    · have hlt' : (q : Int) < (n : Int) := by omega
      have hxl : q < xs.length := by rw [HH.out.2.1]; exact hlt
      obtain ⟨bd, rfl, q0, q1⟩ := lines_at (HH.out.1.1.fr HR.out.2.2.2.2 (fun _ _ h => h)) q hxl
      obtain ⟨x, hx⟩ : ∃ x, x = xs[q] := ⟨_, rfl⟩
      have hit : its[q]? = some x.it := by rw [← HH.out.2.2.1, hx]; simp [hxl]
      have hxm : x ∈ xs := by rw [hx]; exact List.getElem_mem hxl
      have hmem := List.mem_of_getElem? hit
      have hps := HH.out.2.2.2.1.pass _ hmem
      have hfull := HH.out.2.2.2.1.full _ hmem
      have hpp := HR.out.2.2.1 x.it (by rw [List.drop_eq_getElem_cons (by rw [HH.out.2.2.2.2.2]; exact hlt), (List.getElem?_eq_some_iff.1 hit).2]; exact List.mem_cons_self ..)
      have hs4 := HH.out.2.2.2.2.1 _ hmem
      rw [← hx] at q0 q1
      obtain ⟨len, hlen⟩ : ∃ n, n = x.s.length := ⟨_, rfl⟩
      rw [← hlen] at q1
      have hl0 : 0 < len := by rw [hlen]; exact List.length_pos_iff.2 hfull
      have hl4 : len ≤ 4096 := by rw [hlen]; exact hs4
      have hle : ((len : Int) == 0) = false := by rw [beq_eq_false_iff_ne]; omega
      obtain ⟨xp, hxp⟩ : ∃ p, p = x.p := ⟨_, rfl⟩
      have hpp' : pp ≤ xp := by rw [hxp]; exact hpp
      have hpP : xp ≤ P := by rw [hxp]; exact hps.2
      rw [← hxp] at q0
      have hd1 : decide (xp < pp) = false := decide_eq_false (by omega)
      have hd2 : decide (P < xp) = false := decide_eq_false (by omega)
      obtain ⟨ad2, hA2⟩ : ∃ ad2, x.A = some ad2 := by obtain ⟨ad2, h, _⟩ := spots_at (HH.out.1.2 x hxm) 0 (by rw [← hlen]; exact hl0); exact ⟨ad2, h⟩
      rw [hA2] at q1
      have HA2 := hid hA2
      have HX := hid (And.intro hit (And.intro hxm (And.intro hlen hxp)))
      clear hx hit hxm hmem hps hfull hpp hs4 hlen hxp hpp' hpP hA2
      go_wp2_with fail
      obtain ⟨gx, hgx⟩ : ∃ g, g = wr.heap.size := ⟨_, rfl⟩
      obtain ⟨wB, hwB⟩ : ∃ wB, wB = wr.alloc (.cells #[.int .i64 xp, .slice (some ad2) len x.c] 43) := ⟨_, rfl⟩
      have hfB : Fr No wr wB := by rw [hwB]; exact (Fr.refl _ _).alloc _
      rw [← hwB]
      have HB := hid (And.intro (HR.out.2.2.2.1.fr hfB (fun _ _ h => h)) (HR.out.2.2.2.2.then hfB))
      clear hwB hfB hgx q0 q1 hle hd1 hd2
      go_loopw [10, 47] (fun m i wr2 => ∃ (r mm : Nat), i = .int .i64 r ∧ m = .int .i64 mm ∧ Hid (r ≤ len ∧ mm = (vis its q r).length ∧ Row wr2 1 (.slice (some ad) N N) (some gs) N (seenL N ((vis its q r).map (keyW W))) ∧ Fr No w wr2)) (fun _ i _ => len - (intOf i).toNat)
      case atStart => exact ⟨0, mm, rfl, rfl, by omega, by rw [vis_zero]; exact HR.out.2.1, by rw [vis_zero]; exact HB.out.1, HB.out.2⟩
      case round =>
        obtain ⟨r, m2, rfl, rfl, HS⟩ := hrel
        by_cases hlr : r < len
        · have hlr' : (r : Int) < (len : Int) := by omega
          have hrl : r < x.s.length := by rw [← HX.out.2.2.1]; exact hlr
          obtain ⟨ad3, hA3, a0, a1⟩ := spots_at ((HH.out.1.2 x HX.out.2.1).fr HS.out.2.2.2 (fun _ _ h => h)) r hrl
          rw [HA2.out] at hA3
          injection hA3 with hA3
          subst hA3
          have hrg : x.it.2[r]? = some x.s[r] := List.getElem?_eq_getElem hrl
          obtain ⟨v1, v2, v3⟩ := vis_new HH.out.2.2.2.1 HX.out.1 hrg
          have v4 := vis_len HH.out.2.2.2.1 HX.out.1 hrg
          have v5 := vis_succ HX.out.1 hrg
          obtain ⟨s, hs⟩ : ∃ s, s = x.s[r] := ⟨_, rfl⟩
          rw [← hs] at a0 a1 v1 v2 v3 v5
          obtain ⟨sx, sy⟩ := s
          simp only at a0 a1 v1 v2
          obtain ⟨ym, hym⟩ : ∃ ym, ym = sy * W := ⟨_, rfl⟩
          have hym2 : ym ≤ 65536 := by rw [hym]; exact Nat.mul_le_mul (show sy ≤ 256 by omega) hW
          have hyw : IntKind.i64.wrap ((sy : Int) * (W : Int)) = (ym : Int) := by rw [← Int.natCast_mul, ← hym]; exact w64 _ (by omega) (by omega)
          have hkey : keyW W (sx, sy) = ym + sx := by rw [hym]; rfl
          have hklt : ym + sx < N := by rw [← hkey, HN.out]; exact keyW_lt ⟨v1, v2⟩
          rw [hkey] at v3
          obtain ⟨wC, hwC⟩ : ∃ wC, wC = wr.alloc (.cells #[.int .i64 sx, .int .i64 sy] 45) := ⟨_, rfl⟩
          have hfC : Fr No wr wC := by rw [hwC]; exact (Fr.refl _ _).alloc _
          have hrowC := HS.out.2.2.1.fr hfC (fun _ _ h => h)
          have hget := Row.getA hrowC (ym + sx) (seenL_get N _ _ hklt v3)
          obtain ⟨⟨old, o1⟩, o2, o3, o4⟩ := Row.setA hrowC (ym + sx) hklt (.bool true)
          rw [seenL_set] at o3
          have hvs : (vis its q (r + 1)).map (keyW W) = (vis its q r).map (keyW W) ++ [ym + sx] := by rw [v5, List.map_append, ← hkey]; rfl
          rw [← hvs] at o3
          have hm2 : m2 < 65536 := by rw [HS.out.2.1]; rw [← HN.out] at v4; omega
          have HK := hid (And.intro o3 (And.intro (HS.out.2.2.2.then hfC) (And.intro o4 (show m2 + 1 = (vis its q (r + 1)).length by rw [v5, List.length_append, HS.out.2.1]; rfl))))
          rw [hwC] at hget o2 HK
          clear o1 o3 o4 v3 v4 v5 hkey hvs hs hrg hrl hym hwC hfC hrowC
          go_wp2_with fail
          go_roundw
          case rel => exact ⟨r + 1, m2 + 1, by go_num, by go_num, by omega, HK.out.2.2.2, HK.out.1, HK.out.2.1.trans HK.out.2.2.1 (fun k hk e => by have e : gs = k := Option.some.inj (show some gs = some k from e.symm); have := H1.out.2.2; omega)⟩
          case measure => simp [intOf] <;> omega
        · have hge : ¬ ((r : Int) < (len : Int)) := by omega
          have hre : r = len := by have := HS.out.1; omega
          have hvl : vis its q r = spots (its.take (q + 1)) := by rw [hre, HX.out.2.2.1]; exact vis_end HX.out.1
          have hnx := rise_next HH.out.2.2.2.1 HX.out.1
          have HV := hid (And.intro hvl hnx)
          clear hre hvl hnx hlr
          go_wp2_with fail
          go_roundw
          case rel => exact ⟨q + 1, m2, xp, by go_num, rfl, rfl, by omega, by rw [HS.out.2.1, HV.out.1], by rw [HX.out.2.2.2]; exact HV.out.2, by rw [← HV.out.1]; exact HS.out.2.2.1, HS.out.2.2.2⟩
          case measure => simp [intOf] <;> omega
    · have hge : ¬ ((q : Int) < (n : Int)) := by omega
      have hq : q = its.length := by have := HR.out.1; rw [HH.out.2.2.2.2.2]; omega
      have hmm : mm = N := by rw [HR.out.2.1, hq, List.take_length, HH.out.2.2.2.1.all, HN.out]
      have hf := hid HR.out.2.2.2.2
      clear hq hlt HR
      subst hmm
      have hself : ((mm : Int) == (mm : Int)) = true := by simp
      go_wp2_with fail
      go_ret
      exact ⟨rfl, hf.out⟩
end Go.Proofs.Ytkhglmmidgfliaa

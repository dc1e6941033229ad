/- TokenPlays' walk. -/
import Derived.Test.YtponiapdpecioaaTLaw
import Derived.Test.YtponiapdpecioaaTokS2
import Derived.Test.YtponiapdpecioaaReg
import Derived.Test.YtponiapdpecioaaDecT
import Derived.Test.YtponiapdpecioaaTurn
namespace Go.Proofs.Ytponiapdpecioaa
open Go.RowKit Go.WideShapes Go.Proofs.HK
set_option linter.unusedVariables false
set_option linter.unusedSimpArgs false

/-- An act that came in: its kind and its bytes. -/
abbrev ActT := UInt8 × List UInt8 × Unit
def actD : Dec Try.prog 47 ActT :=
  Dec.struct Try.underlying47 (FDec.cons _ 1 (Dec.u8 Try.underlying5) rfl (by kernel_rfl) (FDec.cons _ 1 bytesD rfl (by kernel_rfl) (FDec.nil _ _))) (by kernel_rfl)
/-- Acts that came in. -/
def Acts (w : World) (A : Option Addr) (xs : List ActT) : Prop := ∀ i (h : i < xs.length), ∃ ad Ai c, A = some ad ∧ w.cell? (ad.add (i * 2)) = some (.int .u8 (xs[i].1.toNat : Int)) ∧ w.cell? ⟨(ad.add (i * 2)).block, (ad.add (i * 2)).off + 1, none⟩ = some (.slice Ai xs[i].2.1.length c) ∧ Rd B w Ai xs[i].2.1 ∧ xs[i].2.1.length ≤ c
theorem acts_of {w : World} {A : Option Addr} {xs : List ActT} {n c : Nat} (h : SlM actD.K 2 32 w A xs n c) : Acts w A xs := by
  intro i hi
  obtain ⟨ad, es, rfl, hl, hc, hk⟩ := h.at_ i hi
  obtain ⟨e1, e2, rfl, _, rfl, e3, e4, rfl, _, hb, h6⟩ := hk
  obtain rfl : e4 = [] := h6
  obtain ⟨Ai, ci, rfl, h1, h2, h3⟩ := bytes_of hb
  refine ⟨ad, Ai, ci, rfl, ?_, ?_, h1, h2⟩
  · have := hc 0 (by omega)
    simpa [B] using this
  · have := hc 1 (by omega)
    exact cellAt (by simpa using this)
theorem Acts.fr {w w' : World} {A : Option Addr} {xs : List ActT} (h : Acts w A xs) (hf : Fr No w w') : Acts w' A xs := fun i hi => by
  obtain ⟨ad, Ai, c, rfl, h1, h2, h3, h4⟩ := h i hi
  exact ⟨ad, Ai, c, rfl, (hf.cell (lt_of_cell h1) (fun h => h)).trans h1, (hf.cell (p := ⟨(ad.add (i * 2)).block, (ad.add (i * 2)).off + 1, none⟩) (lt_of_cell h2) (fun h => h)).trans h2, h3.fr0 hf, h4⟩
/-- Both stores, side by side. -/
structure PS (w1 : World) (gs gx : Nat) (wr : World) (a a' : List UInt8) (y : Bool) (kp : List UInt8) : Prop where
  ex : ∃ T1 T2, St T1 wr gs a y kp ∧ Sr T2 wr gx a' y kp ∧ ¬ T1 gx ∧ ¬ T2 gs
  eq : y = true → a = a'
  fr : Fr No w1 wr
  ne : gs ≠ gx
  s1 : w1.heap.size ≤ gs
  s2 : w1.heap.size ≤ gx
theorem PS.fresh {w1 wr w' : World} {gs gx : Nat} {a a' kp : List UInt8} {y : Bool} {S : Nat → Prop} (h : PS w1 gs gx wr a a' y kp) (hf : Fr S wr w') (hs : ∀ k, S k → wr.heap.size ≤ k) : PS w1 gs gx w' a a' y kp := by
  obtain ⟨T1, T2, h1, h2, h3, h4⟩ := h.ex
  exact ⟨⟨T1, T2, h1.fr hf (fun k hk e => by have := h1.lt k hk; have := hs k e; omega) (fun e => by have := h1.glt; have := hs _ e; omega), h2.fr hf (fun k hk e => by have := h2.lt k hk; have := hs k e; omega) (fun e => by have := h2.glt; have := hs _ e; omega), h3, h4⟩,
    h.eq, h.fr.trans hf (fun k hk e => by have := hs k e; have := h.fr.size; omega), h.ne, h.s1, h.s2⟩
/-- A step of the one, then a step of the other, then writes elsewhere. -/
theorem PS.step {w1 wr wa wb wc : World} {gs gx : Nat} {a a' kp b b' kq : List UInt8} {y z : Bool} (h : PS w1 gs gx wr a a' y kp) {T1 T2 T1' T2' S : Nat → Prop} (k1 : St T1 wr gs a y kp) (k3 : ¬ T1 gx) (k4 : ¬ T2 gs)
    (q1 : St T1' wa gs b z kq) (q2 : ∀ q, T1' q → T1 q ∨ wr.heap.size ≤ q) (f1 : Fr (HK.One gs) wr wa)
    (q3 : Sr T2' wb gx b' z kq) (q4 : ∀ q, T2' q → T2 q ∨ wa.heap.size ≤ q) (f2 : Fr (HK.One gx) wa wb) (he : z = true → b = b') (hgx : gx < wr.heap.size)
    (f3 : Fr S wb wc) (n3 : ∀ q, S q → ¬ T1' q ∧ ¬ T2' q ∧ q ≠ gs ∧ q ≠ gx ∧ w1.heap.size ≤ q) : PS w1 gs gx wc b b' z kq := by
  have hne := h.ne
  have hg1 := k1.glt
  have hs1 := f1.size
  have n1 : ¬ T1' gx := fun h => by
    rcases q2 _ h with h | h
    · exact k3 h
    · omega
  have n2 : ¬ T2' gs := fun h => by
    rcases q4 _ h with h | h
    · exact k4 h
    · omega
  refine ⟨⟨T1', T2', (q1.fr f2 (fun k hk e => n1 (by have e : k = gx := e; rwa [e] at hk)) (fun e => hne e)).fr f3 (fun k hk e => (n3 k e).1 hk) (fun e => (n3 _ e).2.2.1 rfl), q3.fr f3 (fun k hk e => (n3 k e).2.1 hk) (fun e => (n3 _ e).2.2.2.1 rfl), n1, n2⟩, he, ?_, hne, h.s1, h.s2⟩
  exact ((h.fr.trans f1 (fun k hk e => by have e : k = gs := e; have := h.s1; omega)).trans f2 (fun k hk e => by have e : k = gx := e; have := h.s2; omega)).trans f3 (fun k hk e => by have := (n3 k e).2.2.2.2; omega)
theorem crK_eq {a a' kp : List UInt8} {y : Bool} (h : y = true → a = a') (keep : Bool) : crK a kp y keep = crK a' kp y keep := by
  cases y with
  | false => rfl
  | true => rw [h rfl]
set_option maxRecDepth 100000 in
set_option maxHeartbeats 6400000 in
theorem tokenPlays_walk (A : Option Addr) (xs : List ActT) (n c : Nat) (w : World) (s0 : SlM actD.K 2 32 w A xs n c) :
    Calls Try.prog 6 #[.slice A n c] w fun e w' => e = .returned (.bool true) ∧ Fr No w w' := by
  have HA := hid (And.intro s0.len (acts_of s0))
  clear s0
  by_cases hbig : (200 : Int) < (n : Int)
  · go_enter Try.func6, Try.ntmps6
    go_wp2_with fail
    refine (fixed25_calls _).mono ?_
    rintro e w3 ⟨rfl, hf3⟩
    go_wp2_with fail
    go_ret
    exact ⟨rfl, hf3⟩
  · go_enter Try.func6, Try.ntmps6
    go_wp2_with fail
    refine (fixed25_calls _).mono ?_
    rintro e w1 ⟨rfl, hf1⟩
    have H1 := hid hf1
    have HAA := hid (HA.out.2.fr hf1)
    clear hf1
    go_wp2_with fail
    refine (snew_calls _).mono ?_
    rintro e w2 ⟨rfl, hs2, hf2⟩
    obtain ⟨gs, hgs⟩ : ∃ g, g = w1.heap.size := ⟨_, rfl⟩
    rw [← hgs] at hs2 ⊢
    obtain ⟨gx, hgx⟩ : ∃ g, g = w2.heap.size := ⟨_, rfl⟩
    obtain ⟨w3, hw3⟩ : ∃ W, W = w2.alloc (.cells #[.slice none 0 0, .slice none 0 0, .bool false] 45) := ⟨_, rfl⟩
    have hb3 : w3.heap[gx]? = some (.cells #[.slice none 0 0, .slice none 0 0, .bool false] 45 (0, 0)) := by rw [hw3, hgx]; exact heap_new _ _
    have hf3 : Fr No w2 w3 := by rw [hw3]; exact (Fr.refl No w2).alloc _
    have HP0 := hid (show PS w1 gs gx w3 [] [] false [] from ⟨⟨No, No, hs2.fr hf3 (fun _ _ h => h) (fun h => h), ⟨⟨none, 0, 0, none, 0, 0, hb3, Hs.nil _ _, Hs.nil _ _⟩, fun _ h => h.elim, fun h => h⟩, fun h => h, fun h => h⟩, fun _ => rfl, hf2.then hf3, by have := hs2.glt; omega, by omega, by have := hf2.size; omega⟩)
    have HW3 := hid (And.intro hw3 (And.intro hgx hgs))
    clear hs2 hf2 hgs hgx hw3 hb3 hf3
    go_wp2_with fail
    rw [← HW3.out.1, ← HW3.out.2.1]
    go_loopw [21] (fun i wr => ∃ k : Nat, i = .int .i64 k ∧ Hid (k ≤ n ∧ ∃ a a' y kp, PS w1 gs gx wr a a' y kp)) (fun i _ => n - (intOf i).toNat)
    case atStart => exact ⟨0, rfl, by omega, [], [], false, [], HP0.out⟩
    case round =>
      obtain ⟨k, rfl, HQ⟩ := hrel
      by_cases hlt : k < n
      · have hlt' : (k : Int) < (n : Int) := by omega
        obtain ⟨a, a', y, kp, hps⟩ := HQ.out.2
        have HPS := hid hps
        obtain ⟨ad, Ai, ci, rfl, hc1w, hc2w, hr, hcap⟩ := HAA.out k (by rw [HA.out.1]; exact hlt)
        have hc1 := (hps.fr.cell (lt_of_cell hc1w) (fun h => h)).trans hc1w
        have hc2 := (hps.fr.cell (p := ⟨(ad.add (k * 2)).block, (ad.add (k * 2)).off + 1, none⟩) (lt_of_cell hc2w) (fun h => h)).trans hc2w
        clear hc1w hc2w
        obtain ⟨bs, hbs⟩ : ∃ l, l = (xs[k]'(by rw [HA.out.1]; exact hlt)).2.1 := ⟨_, rfl⟩
        obtain ⟨K, hK⟩ : ∃ K, K = (xs[k]'(by rw [HA.out.1]; exact hlt)).1.toNat := ⟨_, rfl⟩
        have hKl : K < 256 := by rw [hK]; exact UInt8.toNat_lt _
        obtain ⟨m, hm⟩ : ∃ m, m = bs.length := ⟨_, rfl⟩
        rw [← hK] at hc1
        rw [← hbs] at hc2 hr hcap
        rw [← hm] at hc2 hcap
        obtain ⟨ga, hga⟩ : ∃ g, g = wr.heap.size := ⟨_, rfl⟩
        obtain ⟨Y, hY⟩ : ∃ Y, Y = wr.alloc (.cells #[.int .u8 (K : Int), .slice Ai m ci] 47) := ⟨_, rfl⟩
        have hfY : Fr No wr Y := by rw [hY]; exact (Fr.refl No wr).alloc _
        have hbY : Y.heap[ga]? = some (.cells #[.int .u8 (K : Int), .slice Ai m ci] 47 (0, 0)) := by rw [hY, hga]; exact heap_new _ _
        have HY := hid (And.intro hY (And.intro hga (And.intro hfY (And.intro hbY (And.intro hm (And.intro (hr.fr0 (hps.fr.then hfY)) (And.intro (hps.fresh hfY (fun _ h => h.elim)) hr)))))))
        have t0 : Y.cell? ⟨ga, 0, none⟩ = some (.int .u8 (K : Int)) := by simp [World.cell?, hbY]
        have t1 : Y.cell? ⟨ga, 1, none⟩ = some (.slice Ai m ci) := by simp [World.cell?, hbY]
        clear hps hK hbs hm hga hY hfY hbY hr
        by_cases hm2 : (2000 : Int) < (m : Int)
        · go_wp2_with fail
          go_ret
          exact ⟨rfl, (H1.out.then HPS.out.fr).alloc _⟩
        · have hm3 : m ≤ 2000 := by omega
          obtain ⟨T1, T2, k1, k2, k3, k4⟩ := HY.out.2.2.2.2.2.2.1.ex
          have HKK := hid (And.intro k1 (And.intro k2 (And.intro k3 k4)))
          clear k1 k2 k3 k4
          have hk4 : (K : Int) % 4 = 0 ∨ (K : Int) % 4 = 1 ∨ (K : Int) % 4 = 2 ∨ (K : Int) % 4 = 3 := by omega
          rcases hk4 with hk4 | hk4 | hk4 | hk4
          · have hYs : Y.heap.size = ga + 1 := by rw [HY.out.1, HY.out.2.1, World.size_alloc]
            have HE := hid (show Row (Y.alloc (.cells #[] 5)) 1 (.slice (some ⟨ga + 1, 0, none⟩) 0 0) (some (ga + 1)) 0 [] from by have := Row.new Y 1 0 [] 5 rfl (by omega); rwa [hYs] at this)
            have HYS := hid hYs
            clear hYs
            go_wp2_with (at_builtin; rw [← HY.out.1, ← HY.out.2.1]; refine wpList_app slU8 rfl (.tmp 46) (.tmp 48) rfl rfl HE.out rfl (by rw [List.length_map, ← HY.out.2.2.2.2.1]; omega) ((Rd.cells.1 HY.out.2.2.2.2.2.1).fr (S := No) ((Fr.refl _ _).alloc _) (fun _ _ h => h)) (oneB bs) (by omega) (by omega) ?_; intro Ao co Z obo hvo hfo hobo; simp only [Nat.zero_add, List.nil_append] at hvo ⊢; have hko := some_le (m := Y.heap.size) (hobo.imp id (fun ⟨k, a, b⟩ => ⟨k, a, by simp at b; omega⟩)) (Nat.le_of_eq HYS.out); have hFZ : Fr No Y Z := ((Fr.refl No Y).alloc _).fresh hfo (fun k e => by injection e with e; have := HYS.out; omega); have hlo := fun q (e : obo = some q) => hvo.lt e; have HZ := hid (And.intro hvo (And.intro hko (And.intro hFZ hlo))); have t0z := (hFZ.cell (p := ⟨ga, 0, none⟩) (lt_of_cell t0) (fun h => h)).trans t0; have t1z := (hFZ.cell (p := ⟨ga, 1, none⟩) (lt_of_cell t1) (fun h => h)).trans t1; clear hvo hfo hobo hko hFZ hlo t0 t1)
            have hgs0 : gs < Y.heap.size := HKK.out.1.glt
            have hgx0 : gx < Y.heap.size := HKK.out.2.1.glt
            have hYZ : Y.heap.size ≤ Z.heap.size := HZ.out.2.2.1.size
            have hFZd : Fr No Y Z.drew := HZ.out.2.2.1.drew
            have HSZ := hid (HKK.out.1.fr hFZd (fun _ _ h => h) (fun h => h))
            have HRZ := hid (HKK.out.2.1.fr hFZd (fun _ _ h => h) (fun h => h))
            have HPZ := hid (HY.out.2.2.2.2.2.2.1.fresh hFZd (fun _ h => h.elim))
            have hgg : ga ≠ gs := fun e => by have := HPS.out.ex; obtain ⟨U1, U2, u1, _⟩ := this; have := u1.glt; have := HY.out.2.1; omega
            clear hFZd
            cases y with
            | true =>
              refine wp_region_held_drew (S := fun W => W.cell? ⟨ga, 0, none⟩ = some (.int .u8 (K : Int)) ∧ W.cell? ⟨ga, 1, none⟩ = some (.slice Ai m ci)) (by kernel_rfl) ⟨t0z, t1z⟩ (fun hHeld => ?_)
              refine takeD (i := 0) (d := some 50) (v := ?_) rfl rfl (by kernel_rfl) (by kernel_rfl) (by kernel_rfl) (fun _ _ _ h => h) (by rfl) ?_ (by assumption) ?_
              rotate_left
              · intro w' hSw
                (try dsimp only at hSw)
                go_simp
                try with_reducible rfl
              try simp only [Act.put, List.setIfInBounds_toArray, List.set_cons_zero, List.set_cons_succ]
              refine takeD (i := 1) (d := some 51) (v := ?_) rfl rfl (by kernel_rfl) (by kernel_rfl) (by kernel_rfl) (fun _ _ _ h => h) (by rfl) ?_ (by assumption) ?_
              rotate_left
              · intro w' hSw
                (try dsimp only at hSw)
                go_simp
                try with_reducible rfl
              try simp only [Act.put, List.setIfInBounds_toArray, List.set_cons_zero, List.set_cons_succ]
              refine takeD (i := 3) (d := some 53) (v := ?_) rfl rfl (by kernel_rfl) (by kernel_rfl) (by kernel_rfl) (fun _ _ _ h => h) (by rfl) ?_ (by assumption) ?_
              rotate_left
              · intro w' hSw
                (try dsimp only at hSw)
                go_simp
                try with_reducible rfl
              try simp only [Act.put, List.setIfInBounds_toArray, List.set_cons_zero, List.set_cons_succ]
              refine takeD (i := 4) (d := some 54) (v := ?_) rfl rfl (by kernel_rfl) (by kernel_rfl) (by kernel_rfl) (fun _ _ _ h => h) (by rfl) ?_ (by assumption) ?_
              rotate_left
              · intro w' hSw
                (try dsimp only at hSw)
                go_simp
                try with_reducible rfl
              try simp only [Act.put, List.setIfInBounds_toArray, List.set_cons_zero, List.set_cons_succ]
              refine takeD (i := 5) (d := some 55) (v := ?_) rfl rfl (by kernel_rfl) (by kernel_rfl) (by kernel_rfl) (fun _ _ _ h => h) (by rfl) ?_ (by assumption) ?_
              rotate_left
              · intro w' hSw
                (try dsimp only at hSw)
                go_simp
                try with_reducible rfl
              try simp only [Act.put, List.setIfInBounds_toArray, List.set_cons_zero, List.set_cons_succ]
              refine oneD (i := 2) (by kernel_rfl) rfl (fun K hK => ?_)
              go_simp
              go_at_call 19
              refine (sput_busy gs a kp Ao m co _ HSZ.out).mono ?_
              rintro e w5 ⟨rfl, hw5⟩
              rw [hw5]
              clear hw5 w5
              refine hK.out _ _ ⟨t0z, t1z⟩ (fun hHeld2 => ?_)
              clear hK K
              try simp only [Act.put, List.setIfInBounds_toArray, List.set_cons_zero, List.set_cons_succ]
              refine oneD (i := 6) (by kernel_rfl) rfl (fun K hK => ?_)
              go_simp
              go_at_call 20
              refine (rput_busy gx a' kp Ai m ci _ HRZ.out).mono ?_
              rintro e w5 ⟨rfl, hw5⟩
              rw [hw5]
              clear hw5 w5
              refine hK.out _ _ ⟨t0z, t1z⟩ (fun hHeld3 => ?_)
              clear hK K
              try simp only [Act.put, List.setIfInBounds_toArray, List.set_cons_zero, List.set_cons_succ]
              refine takeD (i := 7) (d := some 8) (v := ?_) rfl rfl (by kernel_rfl) (by kernel_rfl) (by kernel_rfl) (fun _ _ _ h => h) (by rfl) ?_ (by assumption) ?_
              rotate_left
              · intro w' hSw
                (try dsimp only at hSw)
                go_simp
                try with_reducible rfl
              try simp only [Act.put, List.setIfInBounds_toArray, List.set_cons_zero, List.set_cons_succ]
              refine takeD (i := 8) (d := some 9) (v := ?_) rfl rfl (by kernel_rfl) (by kernel_rfl) (by kernel_rfl) (fun _ _ _ h => h) (by rfl) ?_ (by assumption) ?_
              rotate_left
              · intro w' hSw
                (try dsimp only at hSw)
                go_simp
                try with_reducible rfl
              try simp only [Act.put, List.setIfInBounds_toArray, List.set_cons_zero, List.set_cons_succ]
              refine wpAnyH_done (by kernel_rfl) ?_ _
              clear hHeld hHeld2 hHeld3 t0z t1z
              obtain ⟨wb, hwb⟩ : ∃ W, W = Z.drew := ⟨_, rfl⟩
              have HOW := hid (show Row wb 1 (.slice Ao m co) obo m (bs.map B) by rw [hwb]; exact HZ.out.1.drew)
              have HSTEP := hid (show ∀ wc, Fr (fun q => obo = some q) wb wc → PS w1 gs gx wc a a' true kp from fun wc f3 => by
                rw [hwb] at f3
                exact HPZ.out.step HSZ.out HKK.out.2.2.1 HKK.out.2.2.2 HSZ.out (fun q h => .inl h) (Fr.refl _ _) HRZ.out (fun q h => .inl h) (Fr.refl _ _) HPZ.out.eq HRZ.out.glt f3 (fun q hq => ⟨fun h => by have := HKK.out.1.lt q h; have := HZ.out.2.1 q hq; omega, fun h => by have := HKK.out.2.1.lt q h; have := HZ.out.2.1 q hq; omega, by have := HZ.out.2.1 q hq; omega, by have := HZ.out.2.1 q hq; omega, by have := HZ.out.2.1 q hq; have := HPS.out.s1; omega⟩))
              rw [← hwb]
              clear hwb
              go_wp2_with fail
              go_loopw [59] (fun i w2 => ∃ (j : Nat) (ys : List UInt8), i = .int .i64 j ∧ Hid (j ≤ m ∧ Row w2 1 (.slice Ao m co) obo m (ys.map B) ∧ Fr (fun q => obo = some q) wb w2)) (fun i _ => m - (intOf i).toNat)
              case atStart => exact ⟨0, bs, rfl, by omega, HOW.out, Fr.refl _ _⟩
              case round =>
                obtain ⟨j, ys, rfl, HJ⟩ := hrel
                by_cases hj : j < m
                · have hj' : (j : Int) < (m : Int) := by omega
                  have hyl : ys.length = m := by have := HJ.out.2.1.1; simpa using this
                  obtain ⟨ao, hao, hcj⟩ := HJ.out.2.1.rd.1.atN j (by omega)
                  subst hao
                  have hxl := B_lt (rdB ys j)
                  obtain ⟨-, hfz, hr3, hf3⟩ := Row.setU HJ.out.2.1 j hj (.int .u8 ((((rdB ys j).toNat : Int) + 1) % 256))
                  rw [map_set_B] at hr3
                  have HR3 := hid (And.intro hr3 hf3)
                  clear hr3 hf3 hyl
                  go_wp2_with fail
                  go_roundw
                  case rel => exact ⟨j + 1, _, by go_num, by omega, HR3.out.1, HJ.out.2.2.then HR3.out.2⟩
                  case measure => simp [intOf] <;> omega
                · have hge : ¬ ((j : Int) < (m : Int)) := by omega
                  clear hj
                  have HP := hid (HSTEP.out _ HJ.out.2.2)
                  go_wp2_with fail
                  obtain ⟨T1, T2, hs, hr, hx1, hx2⟩ := HP.out.ex
                  obtain ⟨Aw, nw, cw, Ak, nk, ck, hb, hwy, hkp⟩ := hr.blk
                  obtain ⟨⟨e0, e1, e2⟩, -⟩ := blk3s hb
                  have HSS := hid (And.intro hs (And.intro hb (And.intro hwy hkp)))
                  clear hs hr hx1 hx2 hb hwy hkp
                  refine wp_region_held_drew (S := fun W => W.cell? ⟨gx, 0, none⟩ = some (.slice Ak nk ck) ∧ W.cell? ⟨gx, 1, none⟩ = some (.slice Aw nw cw) ∧ W.cell? ⟨gx, 2, none⟩ = some (.bool true)) (by kernel_rfl) ⟨e0, e1, e2⟩ (fun hHeld => ?_)
                  refine takeD (i := 0) (d := some 78) (v := ?_) rfl rfl (by kernel_rfl) (by kernel_rfl) (by kernel_rfl) (fun _ _ _ h => h) (by rfl) ?_ (by assumption) ?_
                  rotate_left
                  · intro w' hSw
                    (try dsimp only at hSw)
                    go_simp
                    try with_reducible rfl
                  try simp only [Act.put, List.setIfInBounds_toArray, List.set_cons_zero, List.set_cons_succ]
                  refine takeD (i := 2) (d := some 80) (v := ?_) rfl rfl (by kernel_rfl) (by kernel_rfl) (by kernel_rfl) (fun _ _ _ h => h) (by rfl) ?_ (by assumption) ?_
                  rotate_left
                  · intro w' hSw
                    (try dsimp only at hSw)
                    go_simp
                    try with_reducible rfl
                  try simp only [Act.put, List.setIfInBounds_toArray, List.set_cons_zero, List.set_cons_succ]
                  refine takeD (i := 3) (d := some 81) (v := ?_) rfl rfl (by kernel_rfl) (by kernel_rfl) (by kernel_rfl) (fun _ _ _ h => h) (by rfl) ?_ (by assumption) ?_
                  rotate_left
                  · intro w' hSw
                    (try dsimp only at hSw)
                    go_simp
                    try with_reducible rfl
                  try simp only [Act.put, List.setIfInBounds_toArray, List.set_cons_zero, List.set_cons_succ]
                  refine takeD (i := 4) (d := some 82) (v := ?_) rfl rfl (by kernel_rfl) (by kernel_rfl) (by kernel_rfl) (fun _ _ _ h => h) (by rfl) ?_ (by assumption) ?_
                  rotate_left
                  · intro w' hSw
                    (try dsimp only at hSw)
                    go_simp
                    try with_reducible rfl
                  try simp only [Act.put, List.setIfInBounds_toArray, List.set_cons_zero, List.set_cons_succ]
                  refine takeD (i := 5) (d := some 83) (v := ?_) rfl rfl (by kernel_rfl) (by kernel_rfl) (by kernel_rfl) (fun _ _ _ h => h) (by rfl) ?_ (by assumption) ?_
                  rotate_left
                  · intro w' hSw
                    (try dsimp only at hSw)
                    go_simp
                    try with_reducible rfl
                  try simp only [Act.put, List.setIfInBounds_toArray, List.set_cons_zero, List.set_cons_succ]
                  refine oneD (i := 1) (by kernel_rfl) rfl (fun K hK => ?_)
                  go_simp
                  go_at_call 24
                  refine (sget_calls gs _ kp true _ (HSS.out.1.fr (S := No) ((Fr.refl _ _).drew) (fun _ _ h => h) (fun h => h))).mono ?_
                  rintro e w9 ⟨v9, rfl, hnew9⟩
                  obtain ⟨A9, n9, c9, rfl, N9⟩ := hnew9.use
                  clear hnew9
                  refine hK.out _ _ (keep3 N9.out.2.2.2.1 (lt_of_cell e0) (fun h => h) ⟨e0, e1, e2⟩) (fun hHeld2 => ?_)
                  clear hK K
                  try simp only [Act.put, List.setIfInBounds_toArray, List.set_cons_zero, List.set_cons_succ]
                  refine oneD (i := 6) (by kernel_rfl) rfl (fun K hK => ?_)
                  go_simp
                  go_at_call 12
                  refine (same_calls A9 Ak kp kp n9 nk c9 ck N9.out.1 HSS.out.2.2.2.len _ N9.out.2.1 (HSS.out.2.2.2.rd.drew.fr0 N9.out.2.2.2.1)).mono ?_
                  rw [decide_eq_true (show kp = kp from rfl)]
                  rintro e w10 ⟨rfl, hw10⟩
                  rw [hw10]
                  clear hw10 w10
                  refine hK.out _ _ hHeld2 (fun hHeld3 => ?_)
                  clear hK K
                  try simp only [Act.put, List.setIfInBounds_toArray, List.set_cons_zero, List.set_cons_succ]
                  refine takeD (i := 7) (d := some 85) (v := ?_) rfl rfl (by kernel_rfl) (by kernel_rfl) (by kernel_rfl) (fun _ _ _ h => h) (by rfl) ?_ (by assumption) ?_
                  rotate_left
                  · intro w' hSw
                    (try dsimp only at hSw)
                    go_simp
                    try with_reducible rfl
                  try simp only [Act.put, List.setIfInBounds_toArray, List.set_cons_zero, List.set_cons_succ]
                  refine takeD (i := 8) (d := some 86) (v := ?_) rfl rfl (by kernel_rfl) (by kernel_rfl) (by kernel_rfl) (fun _ _ _ h => h) (by rfl) ?_ (by assumption) ?_
                  rotate_left
                  · intro w' hSw
                    (try dsimp only at hSw)
                    go_simp
                    try with_reducible rfl
                  try simp only [Act.put, List.setIfInBounds_toArray, List.set_cons_zero, List.set_cons_succ]
                  refine takeD (i := 9) (d := some 87) (v := ?_) rfl rfl (by kernel_rfl) (by kernel_rfl) (by kernel_rfl) (fun _ _ _ h => h) (by rfl) ?_ (by assumption) ?_
                  rotate_left
                  · intro w' hSw
                    (try dsimp only at hSw)
                    go_simp
                    try with_reducible rfl
                  try simp only [Act.put, List.setIfInBounds_toArray, List.set_cons_zero, List.set_cons_succ]
                  refine takeD (i := 11) (d := some 89) (v := ?_) rfl rfl (by kernel_rfl) (by kernel_rfl) (by kernel_rfl) (fun _ _ _ h => h) (by rfl) ?_ (by assumption) ?_
                  rotate_left
                  · intro w' hSw
                    (try dsimp only at hSw)
                    go_simp
                    try with_reducible rfl
                  try simp only [Act.put, List.setIfInBounds_toArray, List.set_cons_zero, List.set_cons_succ]
                  refine takeD (i := 12) (d := some 90) (v := ?_) rfl rfl (by kernel_rfl) (by kernel_rfl) (by kernel_rfl) (fun _ _ _ h => h) (by rfl) ?_ (by assumption) ?_
                  rotate_left
                  · intro w' hSw
                    (try dsimp only at hSw)
                    go_simp
                    try with_reducible rfl
                  try simp only [Act.put, List.setIfInBounds_toArray, List.set_cons_zero, List.set_cons_succ]
                  refine takeD (i := 13) (d := some 91) (v := ?_) rfl rfl (by kernel_rfl) (by kernel_rfl) (by kernel_rfl) (fun _ _ _ h => h) (by rfl) ?_ (by assumption) ?_
                  rotate_left
                  · intro w' hSw
                    (try dsimp only at hSw)
                    go_simp
                    try with_reducible rfl
                  try simp only [Act.put, List.setIfInBounds_toArray, List.set_cons_zero, List.set_cons_succ]
                  refine takeD (i := 14) (d := some 92) (v := ?_) rfl rfl (by kernel_rfl) (by kernel_rfl) (by kernel_rfl) (fun _ _ _ h => h) (by rfl) ?_ (by assumption) ?_
                  rotate_left
                  · intro w' hSw
                    (try dsimp only at hSw)
                    go_simp
                    try with_reducible rfl
                  try simp only [Act.put, List.setIfInBounds_toArray, List.set_cons_zero, List.set_cons_succ]
                  refine oneD (i := 10) (by kernel_rfl) rfl (fun K hK => ?_)
                  go_simp
                  go_at_call 25
                  refine (sbusy_calls gs _ kp true _ (HSS.out.1.fr (((Fr.refl No _).drew).then N9.out.2.2.2.1) (fun _ _ h => h) (fun h => h))).mono ?_
                  rintro e w11 ⟨rfl, hw11⟩
                  rw [hw11]
                  clear hw11 w11
                  refine hK.out _ _ hHeld2 (fun hHeld4 => ?_)
                  clear hK K
                  try simp only [Act.put, List.setIfInBounds_toArray, List.set_cons_zero, List.set_cons_succ]
                  refine takeD (i := 15) (d := some 93) (v := ?_) rfl rfl (by kernel_rfl) (by kernel_rfl) (by kernel_rfl) (fun _ _ _ h => h) (by rfl) ?_ (by assumption) ?_
                  rotate_left
                  · intro w' hSw
                    (try dsimp only at hSw)
                    go_simp
                    try with_reducible rfl
                  try simp only [Act.put, List.setIfInBounds_toArray, List.set_cons_zero, List.set_cons_succ]
                  refine takeD (i := 16) (d := some 94) (v := ?_) rfl rfl (by kernel_rfl) (by kernel_rfl) (by kernel_rfl) (fun _ _ _ h => h) (by rfl) ?_ (by assumption) ?_
                  rotate_left
                  · intro w' hSw
                    (try dsimp only at hSw)
                    go_simp
                    try with_reducible rfl
                  try simp only [Act.put, List.setIfInBounds_toArray, List.set_cons_zero, List.set_cons_succ]
                  refine wpAnyH_done (by kernel_rfl) ?_ _
                  clear hHeld hHeld2 hHeld3 hHeld4 e0 e1 e2
                  have hyy : (true != true) = false := by simp
                  have HP9 := hid (HP.out.fresh (((Fr.refl No _).drew).then N9.out.2.2.2.1) (fun _ h => h.elim))
                  go_wp2_with fail
                  go_roundw
                  case rel => exact ⟨k + 1, by go_num, by omega, _, _, _, _, HP9.out⟩
                  case measure => simp [intOf] <;> omega
            | false =>
              refine wp_region_held_drew (S := fun W => W.cell? ⟨ga, 0, none⟩ = some (.int .u8 (K : Int)) ∧ W.cell? ⟨ga, 1, none⟩ = some (.slice Ai m ci)) (by kernel_rfl) ⟨t0z, t1z⟩ (fun hHeld => ?_)
              refine takeD (i := 0) (d := some 50) (v := ?_) rfl rfl (by kernel_rfl) (by kernel_rfl) (by kernel_rfl) (fun _ _ _ h => h) (by rfl) ?_ (by assumption) ?_
              rotate_left
              · intro w' hSw
                (try dsimp only at hSw)
                go_simp
                try with_reducible rfl
              try simp only [Act.put, List.setIfInBounds_toArray, List.set_cons_zero, List.set_cons_succ]
              refine takeD (i := 1) (d := some 51) (v := ?_) rfl rfl (by kernel_rfl) (by kernel_rfl) (by kernel_rfl) (fun _ _ _ h => h) (by rfl) ?_ (by assumption) ?_
              rotate_left
              · intro w' hSw
                (try dsimp only at hSw)
                go_simp
                try with_reducible rfl
              try simp only [Act.put, List.setIfInBounds_toArray, List.set_cons_zero, List.set_cons_succ]
              refine takeD (i := 3) (d := some 53) (v := ?_) rfl rfl (by kernel_rfl) (by kernel_rfl) (by kernel_rfl) (fun _ _ _ h => h) (by rfl) ?_ (by assumption) ?_
              rotate_left
              · intro w' hSw
                (try dsimp only at hSw)
                go_simp
                try with_reducible rfl
              try simp only [Act.put, List.setIfInBounds_toArray, List.set_cons_zero, List.set_cons_succ]
              refine takeD (i := 4) (d := some 54) (v := ?_) rfl rfl (by kernel_rfl) (by kernel_rfl) (by kernel_rfl) (fun _ _ _ h => h) (by rfl) ?_ (by assumption) ?_
              rotate_left
              · intro w' hSw
                (try dsimp only at hSw)
                go_simp
                try with_reducible rfl
              try simp only [Act.put, List.setIfInBounds_toArray, List.set_cons_zero, List.set_cons_succ]
              refine takeD (i := 5) (d := some 55) (v := ?_) rfl rfl (by kernel_rfl) (by kernel_rfl) (by kernel_rfl) (fun _ _ _ h => h) (by rfl) ?_ (by assumption) ?_
              rotate_left
              · intro w' hSw
                (try dsimp only at hSw)
                go_simp
                try with_reducible rfl
              try simp only [Act.put, List.setIfInBounds_toArray, List.set_cons_zero, List.set_cons_succ]
              refine oneD (i := 2) (by kernel_rfl) rfl (fun K hK => ?_)
              go_simp
              go_at_call 19
              refine (sput_calls gs a kp bs Ao m co _ HSZ.out HY.out.2.2.2.2.1.symm HZ.out.1.drew.rd.1 (by omega)).mono ?_
              rintro e wa ⟨rfl, ⟨T1', q1, q2⟩, f1⟩
              have HQ1 := hid (And.intro q1 (And.intro q2 f1))
              have t0a := (f1.cell (p := ⟨ga, 0, none⟩) (lt_of_cell t0z) (fun e => hgg e)).trans t0z
              have t1a := (f1.cell (p := ⟨ga, 1, none⟩) (lt_of_cell t1z) (fun e => hgg e)).trans t1z
              clear q1 q2 f1
              refine hK.out _ _ ⟨t0a, t1a⟩ (fun hHeld2 => ?_)
              clear hK K
              try simp only [Act.put, List.setIfInBounds_toArray, List.set_cons_zero, List.set_cons_succ]
              refine oneD (i := 6) (by kernel_rfl) rfl (fun K hK => ?_)
              go_simp
              go_at_call 20
              have hFa : Fr No w1 wa := HPZ.out.fr.trans HQ1.out.2.2 (fun q hq e => by have e : q = gs := e; have := HPS.out.s1; omega)
              refine (rput_calls gx a' kp bs Ai m ci _ (HRZ.out.fr HQ1.out.2.2 (fun q hq e => HKK.out.2.2.2 (by have e : q = gs := e; rwa [e] at hq)) (fun e => HPS.out.ne (by have e : gx = gs := e; exact e.symm))) HY.out.2.2.2.2.1.symm (HY.out.2.2.2.2.2.2.2.fr0 hFa) (by omega)).mono ?_
              rintro e wb ⟨rfl, ⟨T2', q3, q4⟩, f2⟩
              have HQ2 := hid (And.intro q3 (And.intro q4 f2))
              have hgg2 : ga ≠ gx := fun e => by have := HPS.out.ex; obtain ⟨U1, U2, _, u1, _⟩ := this; have := u1.glt; have := HY.out.2.1; omega
              have t0b := (f2.cell (p := ⟨ga, 0, none⟩) (lt_of_cell t0a) (fun e => hgg2 e)).trans t0a
              have t1b := (f2.cell (p := ⟨ga, 1, none⟩) (lt_of_cell t1a) (fun e => hgg2 e)).trans t1a
              clear q3 q4 f2
              refine hK.out _ _ ⟨t0b, t1b⟩ (fun hHeld3 => ?_)
              clear hK K
              try simp only [Act.put, List.setIfInBounds_toArray, List.set_cons_zero, List.set_cons_succ]
              refine takeD (i := 7) (d := some 8) (v := ?_) rfl rfl (by kernel_rfl) (by kernel_rfl) (by kernel_rfl) (fun _ _ _ h => h) (by rfl) ?_ (by assumption) ?_
              rotate_left
              · intro w' hSw
                (try dsimp only at hSw)
                go_simp
                try with_reducible rfl
              try simp only [Act.put, List.setIfInBounds_toArray, List.set_cons_zero, List.set_cons_succ]
              refine takeD (i := 8) (d := some 9) (v := ?_) rfl rfl (by kernel_rfl) (by kernel_rfl) (by kernel_rfl) (fun _ _ _ h => h) (by rfl) ?_ (by assumption) ?_
              rotate_left
              · intro w' hSw
                (try dsimp only at hSw)
                go_simp
                try with_reducible rfl
              try simp only [Act.put, List.setIfInBounds_toArray, List.set_cons_zero, List.set_cons_succ]
              refine wpAnyH_done (by kernel_rfl) ?_ _
              clear hHeld hHeld2 hHeld3 t0z t1z t0a t1a t0b t1b
              have hza : Z.heap.size ≤ wa.heap.size := HQ1.out.2.2.size
              have HOW := hid (show Row wb 1 (.slice Ao m co) obo m (bs.map B) from (HZ.out.1.drew.fr HQ1.out.2.2 (fun q hq e => by have e : q = gs := e; have := HZ.out.2.1 q hq; omega)).fr HQ2.out.2.2 (fun q hq e => by have e : q = gx := e; have := HZ.out.2.1 q hq; omega))
              have HSTEP := hid (show ∀ wc, Fr (fun q => obo = some q) wb wc → PS w1 gs gx wc bs bs true kp from fun wc f3 =>
                HPZ.out.step HSZ.out HKK.out.2.2.1 HKK.out.2.2.2 HQ1.out.1 HQ1.out.2.1 HQ1.out.2.2 HQ2.out.1 HQ2.out.2.1 HQ2.out.2.2 (fun _ => rfl) HRZ.out.glt f3 (fun q hq => ⟨fun h => by
                  have h1 := HZ.out.2.1 q hq
                  have h2 := HZ.out.2.2.2 q hq
                  rcases HQ1.out.2.1 q h with h | h
                  · have := HKK.out.1.lt q h; omega
                  · have h : Z.heap.size ≤ q := h; omega, fun h => by
                  have h1 := HZ.out.2.1 q hq
                  have h2 := HZ.out.2.2.2 q hq
                  rcases HQ2.out.2.1 q h with h | h
                  · have := HKK.out.2.1.lt q h; omega
                  · omega, by have := HZ.out.2.1 q hq; omega, by have := HZ.out.2.1 q hq; omega, by have := HZ.out.2.1 q hq; have := HPS.out.s1; omega⟩))
              go_wp2_with fail
              go_loopw [59] (fun i w2 => ∃ (j : Nat) (ys : List UInt8), i = .int .i64 j ∧ Hid (j ≤ m ∧ Row w2 1 (.slice Ao m co) obo m (ys.map B) ∧ Fr (fun q => obo = some q) wb w2)) (fun i _ => m - (intOf i).toNat)
              case atStart => exact ⟨0, bs, rfl, by omega, HOW.out, Fr.refl _ _⟩
              case round =>
                obtain ⟨j, ys, rfl, HJ⟩ := hrel
                by_cases hj : j < m
                · have hj' : (j : Int) < (m : Int) := by omega
                  have hyl : ys.length = m := by have := HJ.out.2.1.1; simpa using this
                  obtain ⟨ao, hao, hcj⟩ := HJ.out.2.1.rd.1.atN j (by omega)
                  subst hao
                  have hxl := B_lt (rdB ys j)
                  obtain ⟨-, hfz, hr3, hf3⟩ := Row.setU HJ.out.2.1 j hj (.int .u8 ((((rdB ys j).toNat : Int) + 1) % 256))
                  rw [map_set_B] at hr3
                  have HR3 := hid (And.intro hr3 hf3)
                  clear hr3 hf3 hyl
                  go_wp2_with fail
                  go_roundw
                  case rel => exact ⟨j + 1, _, by go_num, by omega, HR3.out.1, HJ.out.2.2.then HR3.out.2⟩
                  case measure => simp [intOf] <;> omega
                · have hge : ¬ ((j : Int) < (m : Int)) := by omega
                  clear hj
                  have HP := hid (HSTEP.out _ HJ.out.2.2)
                  go_wp2_with fail
                  obtain ⟨T1, T2, hs, hr, hx1, hx2⟩ := HP.out.ex
                  obtain ⟨Aw, nw, cw, Ak, nk, ck, hb, hwy, hkp⟩ := hr.blk
                  obtain ⟨⟨e0, e1, e2⟩, -⟩ := blk3s hb
                  have HSS := hid (And.intro hs (And.intro hb (And.intro hwy hkp)))
                  clear hs hr hx1 hx2 hb hwy hkp
                  refine wp_region_held_drew (S := fun W => W.cell? ⟨gx, 0, none⟩ = some (.slice Ak nk ck) ∧ W.cell? ⟨gx, 1, none⟩ = some (.slice Aw nw cw) ∧ W.cell? ⟨gx, 2, none⟩ = some (.bool true)) (by kernel_rfl) ⟨e0, e1, e2⟩ (fun hHeld => ?_)
                  refine takeD (i := 0) (d := some 78) (v := ?_) rfl rfl (by kernel_rfl) (by kernel_rfl) (by kernel_rfl) (fun _ _ _ h => h) (by rfl) ?_ (by assumption) ?_
                  rotate_left
                  · intro w' hSw
                    (try dsimp only at hSw)
                    go_simp
                    try with_reducible rfl
                  try simp only [Act.put, List.setIfInBounds_toArray, List.set_cons_zero, List.set_cons_succ]
                  refine takeD (i := 2) (d := some 80) (v := ?_) rfl rfl (by kernel_rfl) (by kernel_rfl) (by kernel_rfl) (fun _ _ _ h => h) (by rfl) ?_ (by assumption) ?_
                  rotate_left
                  · intro w' hSw
                    (try dsimp only at hSw)
                    go_simp
                    try with_reducible rfl
                  try simp only [Act.put, List.setIfInBounds_toArray, List.set_cons_zero, List.set_cons_succ]
                  refine takeD (i := 3) (d := some 81) (v := ?_) rfl rfl (by kernel_rfl) (by kernel_rfl) (by kernel_rfl) (fun _ _ _ h => h) (by rfl) ?_ (by assumption) ?_
                  rotate_left
                  · intro w' hSw
                    (try dsimp only at hSw)
                    go_simp
                    try with_reducible rfl
                  try simp only [Act.put, List.setIfInBounds_toArray, List.set_cons_zero, List.set_cons_succ]
                  refine takeD (i := 4) (d := some 82) (v := ?_) rfl rfl (by kernel_rfl) (by kernel_rfl) (by kernel_rfl) (fun _ _ _ h => h) (by rfl) ?_ (by assumption) ?_
                  rotate_left
                  · intro w' hSw
                    (try dsimp only at hSw)
                    go_simp
                    try with_reducible rfl
                  try simp only [Act.put, List.setIfInBounds_toArray, List.set_cons_zero, List.set_cons_succ]
                  refine takeD (i := 5) (d := some 83) (v := ?_) rfl rfl (by kernel_rfl) (by kernel_rfl) (by kernel_rfl) (fun _ _ _ h => h) (by rfl) ?_ (by assumption) ?_
                  rotate_left
                  · intro w' hSw
                    (try dsimp only at hSw)
                    go_simp
                    try with_reducible rfl
                  try simp only [Act.put, List.setIfInBounds_toArray, List.set_cons_zero, List.set_cons_succ]
                  refine oneD (i := 1) (by kernel_rfl) rfl (fun K hK => ?_)
                  go_simp
                  go_at_call 24
                  refine (sget_calls gs _ kp true _ (HSS.out.1.fr (S := No) ((Fr.refl _ _).drew) (fun _ _ h => h) (fun h => h))).mono ?_
                  rintro e w9 ⟨v9, rfl, hnew9⟩
                  obtain ⟨A9, n9, c9, rfl, N9⟩ := hnew9.use
                  clear hnew9
                  refine hK.out _ _ (keep3 N9.out.2.2.2.1 (lt_of_cell e0) (fun h => h) ⟨e0, e1, e2⟩) (fun hHeld2 => ?_)
                  clear hK K
                  try simp only [Act.put, List.setIfInBounds_toArray, List.set_cons_zero, List.set_cons_succ]
                  refine oneD (i := 6) (by kernel_rfl) rfl (fun K hK => ?_)
                  go_simp
                  go_at_call 12
                  refine (same_calls A9 Ak kp kp n9 nk c9 ck N9.out.1 HSS.out.2.2.2.len _ N9.out.2.1 (HSS.out.2.2.2.rd.drew.fr0 N9.out.2.2.2.1)).mono ?_
                  rw [decide_eq_true (show kp = kp from rfl)]
                  rintro e w10 ⟨rfl, hw10⟩
                  rw [hw10]
                  clear hw10 w10
                  refine hK.out _ _ hHeld2 (fun hHeld3 => ?_)
                  clear hK K
                  try simp only [Act.put, List.setIfInBounds_toArray, List.set_cons_zero, List.set_cons_succ]
                  refine takeD (i := 7) (d := some 85) (v := ?_) rfl rfl (by kernel_rfl) (by kernel_rfl) (by kernel_rfl) (fun _ _ _ h => h) (by rfl) ?_ (by assumption) ?_
                  rotate_left
                  · intro w' hSw
                    (try dsimp only at hSw)
                    go_simp
                    try with_reducible rfl
                  try simp only [Act.put, List.setIfInBounds_toArray, List.set_cons_zero, List.set_cons_succ]
                  refine takeD (i := 8) (d := some 86) (v := ?_) rfl rfl (by kernel_rfl) (by kernel_rfl) (by kernel_rfl) (fun _ _ _ h => h) (by rfl) ?_ (by assumption) ?_
                  rotate_left
                  · intro w' hSw
                    (try dsimp only at hSw)
                    go_simp
                    try with_reducible rfl
                  try simp only [Act.put, List.setIfInBounds_toArray, List.set_cons_zero, List.set_cons_succ]
                  refine takeD (i := 9) (d := some 87) (v := ?_) rfl rfl (by kernel_rfl) (by kernel_rfl) (by kernel_rfl) (fun _ _ _ h => h) (by rfl) ?_ (by assumption) ?_
                  rotate_left
                  · intro w' hSw
                    (try dsimp only at hSw)
                    go_simp
                    try with_reducible rfl
                  try simp only [Act.put, List.setIfInBounds_toArray, List.set_cons_zero, List.set_cons_succ]
                  refine takeD (i := 11) (d := some 89) (v := ?_) rfl rfl (by kernel_rfl) (by kernel_rfl) (by kernel_rfl) (fun _ _ _ h => h) (by rfl) ?_ (by assumption) ?_
                  rotate_left
                  · intro w' hSw
                    (try dsimp only at hSw)
                    go_simp
                    try with_reducible rfl
                  try simp only [Act.put, List.setIfInBounds_toArray, List.set_cons_zero, List.set_cons_succ]
                  refine takeD (i := 12) (d := some 90) (v := ?_) rfl rfl (by kernel_rfl) (by kernel_rfl) (by kernel_rfl) (fun _ _ _ h => h) (by rfl) ?_ (by assumption) ?_
                  rotate_left
                  · intro w' hSw
                    (try dsimp only at hSw)
                    go_simp
                    try with_reducible rfl
                  try simp only [Act.put, List.setIfInBounds_toArray, List.set_cons_zero, List.set_cons_succ]
                  refine takeD (i := 13) (d := some 91) (v := ?_) rfl rfl (by kernel_rfl) (by kernel_rfl) (by kernel_rfl) (fun _ _ _ h => h) (by rfl) ?_ (by assumption) ?_
                  rotate_left
                  · intro w' hSw
                    (try dsimp only at hSw)
                    go_simp
                    try with_reducible rfl
                  try simp only [Act.put, List.setIfInBounds_toArray, List.set_cons_zero, List.set_cons_succ]
                  refine takeD (i := 14) (d := some 92) (v := ?_) rfl rfl (by kernel_rfl) (by kernel_rfl) (by kernel_rfl) (fun _ _ _ h => h) (by rfl) ?_ (by assumption) ?_
                  rotate_left
                  · intro w' hSw
                    (try dsimp only at hSw)
                    go_simp
                    try with_reducible rfl
                  try simp only [Act.put, List.setIfInBounds_toArray, List.set_cons_zero, List.set_cons_succ]
                  refine oneD (i := 10) (by kernel_rfl) rfl (fun K hK => ?_)
                  go_simp
                  go_at_call 25
                  refine (sbusy_calls gs _ kp true _ (HSS.out.1.fr (((Fr.refl No _).drew).then N9.out.2.2.2.1) (fun _ _ h => h) (fun h => h))).mono ?_
                  rintro e w11 ⟨rfl, hw11⟩
                  rw [hw11]
                  clear hw11 w11
                  refine hK.out _ _ hHeld2 (fun hHeld4 => ?_)
                  clear hK K
                  try simp only [Act.put, List.setIfInBounds_toArray, List.set_cons_zero, List.set_cons_succ]
                  refine takeD (i := 15) (d := some 93) (v := ?_) rfl rfl (by kernel_rfl) (by kernel_rfl) (by kernel_rfl) (fun _ _ _ h => h) (by rfl) ?_ (by assumption) ?_
                  rotate_left
                  · intro w' hSw
                    (try dsimp only at hSw)
                    go_simp
                    try with_reducible rfl
                  try simp only [Act.put, List.setIfInBounds_toArray, List.set_cons_zero, List.set_cons_succ]
                  refine takeD (i := 16) (d := some 94) (v := ?_) rfl rfl (by kernel_rfl) (by kernel_rfl) (by kernel_rfl) (fun _ _ _ h => h) (by rfl) ?_ (by assumption) ?_
                  rotate_left
                  · intro w' hSw
                    (try dsimp only at hSw)
                    go_simp
                    try with_reducible rfl
                  try simp only [Act.put, List.setIfInBounds_toArray, List.set_cons_zero, List.set_cons_succ]
                  refine wpAnyH_done (by kernel_rfl) ?_ _
                  clear hHeld hHeld2 hHeld3 hHeld4 e0 e1 e2
                  have hyy : (true != true) = false := by simp
                  have HP9 := hid (HP.out.fresh (((Fr.refl No _).drew).then N9.out.2.2.2.1) (fun _ h => h.elim))
                  go_wp2_with fail
                  go_roundw
                  case rel => exact ⟨k + 1, by go_num, by omega, _, _, _, _, HP9.out⟩
                  case measure => simp [intOf] <;> omega
          · go_wp2_with fail
            rw [← HY.out.1, ← HY.out.2.1]
            refine (ssettle_calls gs a kp y _ HKK.out.1).mono ?_
            rintro e wa ⟨rfl, q1, f1⟩
            have HQ1 := hid (And.intro (show St T1 wa gs [] false (crK a kp y true) from q1) f1)
            have hgg : ga ≠ gs := fun e => by have := HKK.out.1.glt; have := HPS.out.ex; obtain ⟨U1, U2, u1, _⟩ := this; have := u1.glt; have := HY.out.2.1; omega
            have t0a := (f1.cell (p := ⟨ga, 0, none⟩) (lt_of_cell t0) (fun e => hgg e)).trans t0
            clear q1 f1 t0 t1
            go_wp2_with fail
            refine (rcrash_calls gx a' kp y true _ (HKK.out.2.1.fr HQ1.out.2 (fun q hq e => HKK.out.2.2.2 (by have e : q = gs := e; rwa [e] at hq)) (fun e => HPS.out.ne (by have e : gx = gs := e; exact e.symm)))).mono ?_
            rintro e wb ⟨rfl, q3, f2⟩
            rw [← crK_eq HPS.out.eq] at q3
            have HP := hid (HY.out.2.2.2.2.2.2.1.step HKK.out.1 HKK.out.2.2.1 HKK.out.2.2.2 HQ1.out.1 (fun q h => .inl h) HQ1.out.2 (show Sr T2 wb gx a' false (crK a kp y true) from q3) (fun q h => .inl h) f2 (fun h => by cases h) HKK.out.2.1.glt (Fr.refl No wb) (fun _ h => h.elim))
            clear q3 f2 t0a hgg
            obtain ⟨kq, hkq⟩ : ∃ l, l = crK a kp y true := ⟨_, rfl⟩
            rw [← hkq] at HP
            clear hkq
            go_wp2_with fail
            obtain ⟨T1, T2, hs, hr, hx1, hx2⟩ := HP.out.ex
            obtain ⟨Aw, nw, cw, Ak, nk, ck, hb, hwy, hkp⟩ := hr.blk
            obtain ⟨⟨e0, e1, e2⟩, -⟩ := blk3s hb
            have HSS := hid (And.intro hs (And.intro hb (And.intro hwy hkp)))
            clear hs hr hx1 hx2 hb hwy hkp
            refine wp_region_held_drew (S := fun W => W.cell? ⟨gx, 0, none⟩ = some (.slice Ak nk ck) ∧ W.cell? ⟨gx, 1, none⟩ = some (.slice Aw nw cw) ∧ W.cell? ⟨gx, 2, none⟩ = some (.bool false)) (by kernel_rfl) ⟨e0, e1, e2⟩ (fun hHeld => ?_)
            refine takeD (i := 0) (d := some 78) (v := ?_) rfl rfl (by kernel_rfl) (by kernel_rfl) (by kernel_rfl) (fun _ _ _ h => h) (by rfl) ?_ (by assumption) ?_
            rotate_left
            · intro w' hSw
              (try dsimp only at hSw)
              go_simp
              try with_reducible rfl
            try simp only [Act.put, List.setIfInBounds_toArray, List.set_cons_zero, List.set_cons_succ]
            refine takeD (i := 2) (d := some 80) (v := ?_) rfl rfl (by kernel_rfl) (by kernel_rfl) (by kernel_rfl) (fun _ _ _ h => h) (by rfl) ?_ (by assumption) ?_
            rotate_left
            · intro w' hSw
              (try dsimp only at hSw)
              go_simp
              try with_reducible rfl
            try simp only [Act.put, List.setIfInBounds_toArray, List.set_cons_zero, List.set_cons_succ]
            refine takeD (i := 3) (d := some 81) (v := ?_) rfl rfl (by kernel_rfl) (by kernel_rfl) (by kernel_rfl) (fun _ _ _ h => h) (by rfl) ?_ (by assumption) ?_
            rotate_left
            · intro w' hSw
              (try dsimp only at hSw)
              go_simp
              try with_reducible rfl
            try simp only [Act.put, List.setIfInBounds_toArray, List.set_cons_zero, List.set_cons_succ]
            refine takeD (i := 4) (d := some 82) (v := ?_) rfl rfl (by kernel_rfl) (by kernel_rfl) (by kernel_rfl) (fun _ _ _ h => h) (by rfl) ?_ (by assumption) ?_
            rotate_left
            · intro w' hSw
              (try dsimp only at hSw)
              go_simp
              try with_reducible rfl
            try simp only [Act.put, List.setIfInBounds_toArray, List.set_cons_zero, List.set_cons_succ]
            refine takeD (i := 5) (d := some 83) (v := ?_) rfl rfl (by kernel_rfl) (by kernel_rfl) (by kernel_rfl) (fun _ _ _ h => h) (by rfl) ?_ (by assumption) ?_
            rotate_left
            · intro w' hSw
              (try dsimp only at hSw)
              go_simp
              try with_reducible rfl
            try simp only [Act.put, List.setIfInBounds_toArray, List.set_cons_zero, List.set_cons_succ]
            refine oneD (i := 1) (by kernel_rfl) rfl (fun K hK => ?_)
            go_simp
            go_at_call 24
            refine (sget_calls gs _ kq false _ (HSS.out.1.fr (S := No) ((Fr.refl _ _).drew) (fun _ _ h => h) (fun h => h))).mono ?_
            rintro e w9 ⟨v9, rfl, hnew9⟩
            obtain ⟨A9, n9, c9, rfl, N9⟩ := hnew9.use
            clear hnew9
            refine hK.out _ _ (keep3 N9.out.2.2.2.1 (lt_of_cell e0) (fun h => h) ⟨e0, e1, e2⟩) (fun hHeld2 => ?_)
            clear hK K
            try simp only [Act.put, List.setIfInBounds_toArray, List.set_cons_zero, List.set_cons_succ]
            refine oneD (i := 6) (by kernel_rfl) rfl (fun K hK => ?_)
            go_simp
            go_at_call 12
            refine (same_calls A9 Ak kq kq n9 nk c9 ck N9.out.1 HSS.out.2.2.2.len _ N9.out.2.1 (HSS.out.2.2.2.rd.drew.fr0 N9.out.2.2.2.1)).mono ?_
            rw [decide_eq_true (show kq = kq from rfl)]
            rintro e w10 ⟨rfl, hw10⟩
            rw [hw10]
            clear hw10 w10
            refine hK.out _ _ hHeld2 (fun hHeld3 => ?_)
            clear hK K
            try simp only [Act.put, List.setIfInBounds_toArray, List.set_cons_zero, List.set_cons_succ]
            refine takeD (i := 7) (d := some 85) (v := ?_) rfl rfl (by kernel_rfl) (by kernel_rfl) (by kernel_rfl) (fun _ _ _ h => h) (by rfl) ?_ (by assumption) ?_
            rotate_left
            · intro w' hSw
              (try dsimp only at hSw)
              go_simp
              try with_reducible rfl
            try simp only [Act.put, List.setIfInBounds_toArray, List.set_cons_zero, List.set_cons_succ]
            refine takeD (i := 8) (d := some 86) (v := ?_) rfl rfl (by kernel_rfl) (by kernel_rfl) (by kernel_rfl) (fun _ _ _ h => h) (by rfl) ?_ (by assumption) ?_
            rotate_left
            · intro w' hSw
              (try dsimp only at hSw)
              go_simp
              try with_reducible rfl
            try simp only [Act.put, List.setIfInBounds_toArray, List.set_cons_zero, List.set_cons_succ]
            refine takeD (i := 9) (d := some 87) (v := ?_) rfl rfl (by kernel_rfl) (by kernel_rfl) (by kernel_rfl) (fun _ _ _ h => h) (by rfl) ?_ (by assumption) ?_
            rotate_left
            · intro w' hSw
              (try dsimp only at hSw)
              go_simp
              try with_reducible rfl
            try simp only [Act.put, List.setIfInBounds_toArray, List.set_cons_zero, List.set_cons_succ]
            refine takeD (i := 11) (d := some 89) (v := ?_) rfl rfl (by kernel_rfl) (by kernel_rfl) (by kernel_rfl) (fun _ _ _ h => h) (by rfl) ?_ (by assumption) ?_
            rotate_left
            · intro w' hSw
              (try dsimp only at hSw)
              go_simp
              try with_reducible rfl
            try simp only [Act.put, List.setIfInBounds_toArray, List.set_cons_zero, List.set_cons_succ]
            refine takeD (i := 12) (d := some 90) (v := ?_) rfl rfl (by kernel_rfl) (by kernel_rfl) (by kernel_rfl) (fun _ _ _ h => h) (by rfl) ?_ (by assumption) ?_
            rotate_left
            · intro w' hSw
              (try dsimp only at hSw)
              go_simp
              try with_reducible rfl
            try simp only [Act.put, List.setIfInBounds_toArray, List.set_cons_zero, List.set_cons_succ]
            refine takeD (i := 13) (d := some 91) (v := ?_) rfl rfl (by kernel_rfl) (by kernel_rfl) (by kernel_rfl) (fun _ _ _ h => h) (by rfl) ?_ (by assumption) ?_
            rotate_left
            · intro w' hSw
              (try dsimp only at hSw)
              go_simp
              try with_reducible rfl
            try simp only [Act.put, List.setIfInBounds_toArray, List.set_cons_zero, List.set_cons_succ]
            refine takeD (i := 14) (d := some 92) (v := ?_) rfl rfl (by kernel_rfl) (by kernel_rfl) (by kernel_rfl) (fun _ _ _ h => h) (by rfl) ?_ (by assumption) ?_
            rotate_left
            · intro w' hSw
              (try dsimp only at hSw)
              go_simp
              try with_reducible rfl
            try simp only [Act.put, List.setIfInBounds_toArray, List.set_cons_zero, List.set_cons_succ]
            refine oneD (i := 10) (by kernel_rfl) rfl (fun K hK => ?_)
            go_simp
            go_at_call 25
            refine (sbusy_calls gs _ kq false _ (HSS.out.1.fr (((Fr.refl No _).drew).then N9.out.2.2.2.1) (fun _ _ h => h) (fun h => h))).mono ?_
            rintro e w11 ⟨rfl, hw11⟩
            rw [hw11]
            clear hw11 w11
            refine hK.out _ _ hHeld2 (fun hHeld4 => ?_)
            clear hK K
            try simp only [Act.put, List.setIfInBounds_toArray, List.set_cons_zero, List.set_cons_succ]
            refine takeD (i := 15) (d := some 93) (v := ?_) rfl rfl (by kernel_rfl) (by kernel_rfl) (by kernel_rfl) (fun _ _ _ h => h) (by rfl) ?_ (by assumption) ?_
            rotate_left
            · intro w' hSw
              (try dsimp only at hSw)
              go_simp
              try with_reducible rfl
            try simp only [Act.put, List.setIfInBounds_toArray, List.set_cons_zero, List.set_cons_succ]
            refine takeD (i := 16) (d := some 94) (v := ?_) rfl rfl (by kernel_rfl) (by kernel_rfl) (by kernel_rfl) (fun _ _ _ h => h) (by rfl) ?_ (by assumption) ?_
            rotate_left
            · intro w' hSw
              (try dsimp only at hSw)
              go_simp
              try with_reducible rfl
            try simp only [Act.put, List.setIfInBounds_toArray, List.set_cons_zero, List.set_cons_succ]
            refine wpAnyH_done (by kernel_rfl) ?_ _
            clear hHeld hHeld2 hHeld3 hHeld4 e0 e1 e2
            have hyy : (false != false) = false := by simp
            have HP9 := hid (HP.out.fresh (((Fr.refl No _).drew).then N9.out.2.2.2.1) (fun _ h => h.elim))
            go_wp2_with fail
            go_roundw
            case rel => exact ⟨k + 1, by go_num, by omega, _, _, _, _, HP9.out⟩
            case measure => simp [intOf] <;> omega
          · go_wp2_with fail
            rw [← HY.out.1, ← HY.out.2.1]
            refine (scrash_calls gs a kp y true _ HKK.out.1).mono ?_
            rintro e wa ⟨rfl, q1, f1⟩
            have HQ1 := hid (And.intro (show St T1 wa gs [] false (crK a kp y true) from q1) f1)
            have hgg : ga ≠ gs := fun e => by have := HKK.out.1.glt; have := HPS.out.ex; obtain ⟨U1, U2, u1, _⟩ := this; have := u1.glt; have := HY.out.2.1; omega
            have t0a := (f1.cell (p := ⟨ga, 0, none⟩) (lt_of_cell t0) (fun e => hgg e)).trans t0
            clear q1 f1 t0 t1
            go_wp2_with fail
            refine (rcrash_calls gx a' kp y true _ (HKK.out.2.1.fr HQ1.out.2 (fun q hq e => HKK.out.2.2.2 (by have e : q = gs := e; rwa [e] at hq)) (fun e => HPS.out.ne (by have e : gx = gs := e; exact e.symm)))).mono ?_
            rintro e wb ⟨rfl, q3, f2⟩
            rw [← crK_eq HPS.out.eq] at q3
            have HP := hid (HY.out.2.2.2.2.2.2.1.step HKK.out.1 HKK.out.2.2.1 HKK.out.2.2.2 HQ1.out.1 (fun q h => .inl h) HQ1.out.2 (show Sr T2 wb gx a' false (crK a kp y true) from q3) (fun q h => .inl h) f2 (fun h => by cases h) HKK.out.2.1.glt (Fr.refl No wb) (fun _ h => h.elim))
            clear q3 f2 t0a hgg
            obtain ⟨kq, hkq⟩ : ∃ l, l = crK a kp y true := ⟨_, rfl⟩
            rw [← hkq] at HP
            clear hkq
            go_wp2_with fail
            obtain ⟨T1, T2, hs, hr, hx1, hx2⟩ := HP.out.ex
            obtain ⟨Aw, nw, cw, Ak, nk, ck, hb, hwy, hkp⟩ := hr.blk
            obtain ⟨⟨e0, e1, e2⟩, -⟩ := blk3s hb
            have HSS := hid (And.intro hs (And.intro hb (And.intro hwy hkp)))
            clear hs hr hx1 hx2 hb hwy hkp
            refine wp_region_held_drew (S := fun W => W.cell? ⟨gx, 0, none⟩ = some (.slice Ak nk ck) ∧ W.cell? ⟨gx, 1, none⟩ = some (.slice Aw nw cw) ∧ W.cell? ⟨gx, 2, none⟩ = some (.bool false)) (by kernel_rfl) ⟨e0, e1, e2⟩ (fun hHeld => ?_)
            refine takeD (i := 0) (d := some 78) (v := ?_) rfl rfl (by kernel_rfl) (by kernel_rfl) (by kernel_rfl) (fun _ _ _ h => h) (by rfl) ?_ (by assumption) ?_
            rotate_left
            · intro w' hSw
              (try dsimp only at hSw)
              go_simp
              try with_reducible rfl
            try simp only [Act.put, List.setIfInBounds_toArray, List.set_cons_zero, List.set_cons_succ]
            refine takeD (i := 2) (d := some 80) (v := ?_) rfl rfl (by kernel_rfl) (by kernel_rfl) (by kernel_rfl) (fun _ _ _ h => h) (by rfl) ?_ (by assumption) ?_
            rotate_left
            · intro w' hSw
              (try dsimp only at hSw)
              go_simp
              try with_reducible rfl
            try simp only [Act.put, List.setIfInBounds_toArray, List.set_cons_zero, List.set_cons_succ]
            refine takeD (i := 3) (d := some 81) (v := ?_) rfl rfl (by kernel_rfl) (by kernel_rfl) (by kernel_rfl) (fun _ _ _ h => h) (by rfl) ?_ (by assumption) ?_
            rotate_left
            · intro w' hSw
              (try dsimp only at hSw)
              go_simp
              try with_reducible rfl
            try simp only [Act.put, List.setIfInBounds_toArray, List.set_cons_zero, List.set_cons_succ]
            refine takeD (i := 4) (d := some 82) (v := ?_) rfl rfl (by kernel_rfl) (by kernel_rfl) (by kernel_rfl) (fun _ _ _ h => h) (by rfl) ?_ (by assumption) ?_
            rotate_left
            · intro w' hSw
              (try dsimp only at hSw)
              go_simp
              try with_reducible rfl
            try simp only [Act.put, List.setIfInBounds_toArray, List.set_cons_zero, List.set_cons_succ]
            refine takeD (i := 5) (d := some 83) (v := ?_) rfl rfl (by kernel_rfl) (by kernel_rfl) (by kernel_rfl) (fun _ _ _ h => h) (by rfl) ?_ (by assumption) ?_
            rotate_left
            · intro w' hSw
              (try dsimp only at hSw)
              go_simp
              try with_reducible rfl
            try simp only [Act.put, List.setIfInBounds_toArray, List.set_cons_zero, List.set_cons_succ]
            refine oneD (i := 1) (by kernel_rfl) rfl (fun K hK => ?_)
            go_simp
            go_at_call 24
            refine (sget_calls gs _ kq false _ (HSS.out.1.fr (S := No) ((Fr.refl _ _).drew) (fun _ _ h => h) (fun h => h))).mono ?_
            rintro e w9 ⟨v9, rfl, hnew9⟩
            obtain ⟨A9, n9, c9, rfl, N9⟩ := hnew9.use
            clear hnew9
            refine hK.out _ _ (keep3 N9.out.2.2.2.1 (lt_of_cell e0) (fun h => h) ⟨e0, e1, e2⟩) (fun hHeld2 => ?_)
            clear hK K
            try simp only [Act.put, List.setIfInBounds_toArray, List.set_cons_zero, List.set_cons_succ]
            refine oneD (i := 6) (by kernel_rfl) rfl (fun K hK => ?_)
            go_simp
            go_at_call 12
            refine (same_calls A9 Ak kq kq n9 nk c9 ck N9.out.1 HSS.out.2.2.2.len _ N9.out.2.1 (HSS.out.2.2.2.rd.drew.fr0 N9.out.2.2.2.1)).mono ?_
            rw [decide_eq_true (show kq = kq from rfl)]
            rintro e w10 ⟨rfl, hw10⟩
            rw [hw10]
            clear hw10 w10
            refine hK.out _ _ hHeld2 (fun hHeld3 => ?_)
            clear hK K
            try simp only [Act.put, List.setIfInBounds_toArray, List.set_cons_zero, List.set_cons_succ]
            refine takeD (i := 7) (d := some 85) (v := ?_) rfl rfl (by kernel_rfl) (by kernel_rfl) (by kernel_rfl) (fun _ _ _ h => h) (by rfl) ?_ (by assumption) ?_
            rotate_left
            · intro w' hSw
              (try dsimp only at hSw)
              go_simp
              try with_reducible rfl
            try simp only [Act.put, List.setIfInBounds_toArray, List.set_cons_zero, List.set_cons_succ]
            refine takeD (i := 8) (d := some 86) (v := ?_) rfl rfl (by kernel_rfl) (by kernel_rfl) (by kernel_rfl) (fun _ _ _ h => h) (by rfl) ?_ (by assumption) ?_
            rotate_left
            · intro w' hSw
              (try dsimp only at hSw)
              go_simp
              try with_reducible rfl
            try simp only [Act.put, List.setIfInBounds_toArray, List.set_cons_zero, List.set_cons_succ]
            refine takeD (i := 9) (d := some 87) (v := ?_) rfl rfl (by kernel_rfl) (by kernel_rfl) (by kernel_rfl) (fun _ _ _ h => h) (by rfl) ?_ (by assumption) ?_
            rotate_left
            · intro w' hSw
              (try dsimp only at hSw)
              go_simp
              try with_reducible rfl
            try simp only [Act.put, List.setIfInBounds_toArray, List.set_cons_zero, List.set_cons_succ]
            refine takeD (i := 11) (d := some 89) (v := ?_) rfl rfl (by kernel_rfl) (by kernel_rfl) (by kernel_rfl) (fun _ _ _ h => h) (by rfl) ?_ (by assumption) ?_
            rotate_left
            · intro w' hSw
              (try dsimp only at hSw)
              go_simp
              try with_reducible rfl
            try simp only [Act.put, List.setIfInBounds_toArray, List.set_cons_zero, List.set_cons_succ]
            refine takeD (i := 12) (d := some 90) (v := ?_) rfl rfl (by kernel_rfl) (by kernel_rfl) (by kernel_rfl) (fun _ _ _ h => h) (by rfl) ?_ (by assumption) ?_
            rotate_left
            · intro w' hSw
              (try dsimp only at hSw)
              go_simp
              try with_reducible rfl
            try simp only [Act.put, List.setIfInBounds_toArray, List.set_cons_zero, List.set_cons_succ]
            refine takeD (i := 13) (d := some 91) (v := ?_) rfl rfl (by kernel_rfl) (by kernel_rfl) (by kernel_rfl) (fun _ _ _ h => h) (by rfl) ?_ (by assumption) ?_
            rotate_left
            · intro w' hSw
              (try dsimp only at hSw)
              go_simp
              try with_reducible rfl
            try simp only [Act.put, List.setIfInBounds_toArray, List.set_cons_zero, List.set_cons_succ]
            refine takeD (i := 14) (d := some 92) (v := ?_) rfl rfl (by kernel_rfl) (by kernel_rfl) (by kernel_rfl) (fun _ _ _ h => h) (by rfl) ?_ (by assumption) ?_
            rotate_left
            · intro w' hSw
              (try dsimp only at hSw)
              go_simp
              try with_reducible rfl
            try simp only [Act.put, List.setIfInBounds_toArray, List.set_cons_zero, List.set_cons_succ]
            refine oneD (i := 10) (by kernel_rfl) rfl (fun K hK => ?_)
            go_simp
            go_at_call 25
            refine (sbusy_calls gs _ kq false _ (HSS.out.1.fr (((Fr.refl No _).drew).then N9.out.2.2.2.1) (fun _ _ h => h) (fun h => h))).mono ?_
            rintro e w11 ⟨rfl, hw11⟩
            rw [hw11]
            clear hw11 w11
            refine hK.out _ _ hHeld2 (fun hHeld4 => ?_)
            clear hK K
            try simp only [Act.put, List.setIfInBounds_toArray, List.set_cons_zero, List.set_cons_succ]
            refine takeD (i := 15) (d := some 93) (v := ?_) rfl rfl (by kernel_rfl) (by kernel_rfl) (by kernel_rfl) (fun _ _ _ h => h) (by rfl) ?_ (by assumption) ?_
            rotate_left
            · intro w' hSw
              (try dsimp only at hSw)
              go_simp
              try with_reducible rfl
            try simp only [Act.put, List.setIfInBounds_toArray, List.set_cons_zero, List.set_cons_succ]
            refine takeD (i := 16) (d := some 94) (v := ?_) rfl rfl (by kernel_rfl) (by kernel_rfl) (by kernel_rfl) (fun _ _ _ h => h) (by rfl) ?_ (by assumption) ?_
            rotate_left
            · intro w' hSw
              (try dsimp only at hSw)
              go_simp
              try with_reducible rfl
            try simp only [Act.put, List.setIfInBounds_toArray, List.set_cons_zero, List.set_cons_succ]
            refine wpAnyH_done (by kernel_rfl) ?_ _
            clear hHeld hHeld2 hHeld3 hHeld4 e0 e1 e2
            have hyy : (false != false) = false := by simp
            have HP9 := hid (HP.out.fresh (((Fr.refl No _).drew).then N9.out.2.2.2.1) (fun _ h => h.elim))
            go_wp2_with fail
            go_roundw
            case rel => exact ⟨k + 1, by go_num, by omega, _, _, _, _, HP9.out⟩
            case measure => simp [intOf] <;> omega
          · go_wp2_with fail
            rw [← HY.out.1, ← HY.out.2.1]
            refine (scrash_calls gs a kp y false _ HKK.out.1).mono ?_
            rintro e wa ⟨rfl, q1, f1⟩
            have HQ1 := hid (And.intro (show St T1 wa gs [] false (crK a kp y false) from q1) f1)
            have hgg : ga ≠ gs := fun e => by have := HKK.out.1.glt; have := HPS.out.ex; obtain ⟨U1, U2, u1, _⟩ := this; have := u1.glt; have := HY.out.2.1; omega
            have t0a := (f1.cell (p := ⟨ga, 0, none⟩) (lt_of_cell t0) (fun e => hgg e)).trans t0
            clear q1 f1 t0 t1
            go_wp2_with fail
            refine (rcrash_calls gx a' kp y false _ (HKK.out.2.1.fr HQ1.out.2 (fun q hq e => HKK.out.2.2.2 (by have e : q = gs := e; rwa [e] at hq)) (fun e => HPS.out.ne (by have e : gx = gs := e; exact e.symm)))).mono ?_
            rintro e wb ⟨rfl, q3, f2⟩
            rw [← crK_eq HPS.out.eq] at q3
            have HP := hid (HY.out.2.2.2.2.2.2.1.step HKK.out.1 HKK.out.2.2.1 HKK.out.2.2.2 HQ1.out.1 (fun q h => .inl h) HQ1.out.2 (show Sr T2 wb gx a' false (crK a kp y false) from q3) (fun q h => .inl h) f2 (fun h => by cases h) HKK.out.2.1.glt (Fr.refl No wb) (fun _ h => h.elim))
            clear q3 f2 t0a hgg
            obtain ⟨kq, hkq⟩ : ∃ l, l = crK a kp y false := ⟨_, rfl⟩
            rw [← hkq] at HP
            clear hkq
            go_wp2_with fail
            obtain ⟨T1, T2, hs, hr, hx1, hx2⟩ := HP.out.ex
            obtain ⟨Aw, nw, cw, Ak, nk, ck, hb, hwy, hkp⟩ := hr.blk
            obtain ⟨⟨e0, e1, e2⟩, -⟩ := blk3s hb
            have HSS := hid (And.intro hs (And.intro hb (And.intro hwy hkp)))
            clear hs hr hx1 hx2 hb hwy hkp
            refine wp_region_held_drew (S := fun W => W.cell? ⟨gx, 0, none⟩ = some (.slice Ak nk ck) ∧ W.cell? ⟨gx, 1, none⟩ = some (.slice Aw nw cw) ∧ W.cell? ⟨gx, 2, none⟩ = some (.bool false)) (by kernel_rfl) ⟨e0, e1, e2⟩ (fun hHeld => ?_)
            refine takeD (i := 0) (d := some 78) (v := ?_) rfl rfl (by kernel_rfl) (by kernel_rfl) (by kernel_rfl) (fun _ _ _ h => h) (by rfl) ?_ (by assumption) ?_
            rotate_left
            · intro w' hSw
              (try dsimp only at hSw)
              go_simp
              try with_reducible rfl
            try simp only [Act.put, List.setIfInBounds_toArray, List.set_cons_zero, List.set_cons_succ]
            refine takeD (i := 2) (d := some 80) (v := ?_) rfl rfl (by kernel_rfl) (by kernel_rfl) (by kernel_rfl) (fun _ _ _ h => h) (by rfl) ?_ (by assumption) ?_
            rotate_left
            · intro w' hSw
              (try dsimp only at hSw)
              go_simp
              try with_reducible rfl
            try simp only [Act.put, List.setIfInBounds_toArray, List.set_cons_zero, List.set_cons_succ]
            refine takeD (i := 3) (d := some 81) (v := ?_) rfl rfl (by kernel_rfl) (by kernel_rfl) (by kernel_rfl) (fun _ _ _ h => h) (by rfl) ?_ (by assumption) ?_
            rotate_left
            · intro w' hSw
              (try dsimp only at hSw)
              go_simp
              try with_reducible rfl
            try simp only [Act.put, List.setIfInBounds_toArray, List.set_cons_zero, List.set_cons_succ]
            refine takeD (i := 4) (d := some 82) (v := ?_) rfl rfl (by kernel_rfl) (by kernel_rfl) (by kernel_rfl) (fun _ _ _ h => h) (by rfl) ?_ (by assumption) ?_
            rotate_left
            · intro w' hSw
              (try dsimp only at hSw)
              go_simp
              try with_reducible rfl
            try simp only [Act.put, List.setIfInBounds_toArray, List.set_cons_zero, List.set_cons_succ]
            refine takeD (i := 5) (d := some 83) (v := ?_) rfl rfl (by kernel_rfl) (by kernel_rfl) (by kernel_rfl) (fun _ _ _ h => h) (by rfl) ?_ (by assumption) ?_
            rotate_left
            · intro w' hSw
              (try dsimp only at hSw)
              go_simp
              try with_reducible rfl
            try simp only [Act.put, List.setIfInBounds_toArray, List.set_cons_zero, List.set_cons_succ]
            refine oneD (i := 1) (by kernel_rfl) rfl (fun K hK => ?_)
            go_simp
            go_at_call 24
            refine (sget_calls gs _ kq false _ (HSS.out.1.fr (S := No) ((Fr.refl _ _).drew) (fun _ _ h => h) (fun h => h))).mono ?_
            rintro e w9 ⟨v9, rfl, hnew9⟩
            obtain ⟨A9, n9, c9, rfl, N9⟩ := hnew9.use
            clear hnew9
            refine hK.out _ _ (keep3 N9.out.2.2.2.1 (lt_of_cell e0) (fun h => h) ⟨e0, e1, e2⟩) (fun hHeld2 => ?_)
            clear hK K
            try simp only [Act.put, List.setIfInBounds_toArray, List.set_cons_zero, List.set_cons_succ]
            refine oneD (i := 6) (by kernel_rfl) rfl (fun K hK => ?_)
            go_simp
            go_at_call 12
            refine (same_calls A9 Ak kq kq n9 nk c9 ck N9.out.1 HSS.out.2.2.2.len _ N9.out.2.1 (HSS.out.2.2.2.rd.drew.fr0 N9.out.2.2.2.1)).mono ?_
            rw [decide_eq_true (show kq = kq from rfl)]
            rintro e w10 ⟨rfl, hw10⟩
            rw [hw10]
            clear hw10 w10
            refine hK.out _ _ hHeld2 (fun hHeld3 => ?_)
            clear hK K
            try simp only [Act.put, List.setIfInBounds_toArray, List.set_cons_zero, List.set_cons_succ]
            refine takeD (i := 7) (d := some 85) (v := ?_) rfl rfl (by kernel_rfl) (by kernel_rfl) (by kernel_rfl) (fun _ _ _ h => h) (by rfl) ?_ (by assumption) ?_
            rotate_left
            · intro w' hSw
              (try dsimp only at hSw)
              go_simp
              try with_reducible rfl
            try simp only [Act.put, List.setIfInBounds_toArray, List.set_cons_zero, List.set_cons_succ]
            refine takeD (i := 8) (d := some 86) (v := ?_) rfl rfl (by kernel_rfl) (by kernel_rfl) (by kernel_rfl) (fun _ _ _ h => h) (by rfl) ?_ (by assumption) ?_
            rotate_left
            · intro w' hSw
              (try dsimp only at hSw)
              go_simp
              try with_reducible rfl
            try simp only [Act.put, List.setIfInBounds_toArray, List.set_cons_zero, List.set_cons_succ]
            refine takeD (i := 9) (d := some 87) (v := ?_) rfl rfl (by kernel_rfl) (by kernel_rfl) (by kernel_rfl) (fun _ _ _ h => h) (by rfl) ?_ (by assumption) ?_
            rotate_left
            · intro w' hSw
              (try dsimp only at hSw)
              go_simp
              try with_reducible rfl
            try simp only [Act.put, List.setIfInBounds_toArray, List.set_cons_zero, List.set_cons_succ]
            refine takeD (i := 11) (d := some 89) (v := ?_) rfl rfl (by kernel_rfl) (by kernel_rfl) (by kernel_rfl) (fun _ _ _ h => h) (by rfl) ?_ (by assumption) ?_
            rotate_left
            · intro w' hSw
              (try dsimp only at hSw)
              go_simp
              try with_reducible rfl
            try simp only [Act.put, List.setIfInBounds_toArray, List.set_cons_zero, List.set_cons_succ]
            refine takeD (i := 12) (d := some 90) (v := ?_) rfl rfl (by kernel_rfl) (by kernel_rfl) (by kernel_rfl) (fun _ _ _ h => h) (by rfl) ?_ (by assumption) ?_
            rotate_left
            · intro w' hSw
              (try dsimp only at hSw)
              go_simp
              try with_reducible rfl
            try simp only [Act.put, List.setIfInBounds_toArray, List.set_cons_zero, List.set_cons_succ]
            refine takeD (i := 13) (d := some 91) (v := ?_) rfl rfl (by kernel_rfl) (by kernel_rfl) (by kernel_rfl) (fun _ _ _ h => h) (by rfl) ?_ (by assumption) ?_
            rotate_left
            · intro w' hSw
              (try dsimp only at hSw)
              go_simp
              try with_reducible rfl
            try simp only [Act.put, List.setIfInBounds_toArray, List.set_cons_zero, List.set_cons_succ]
            refine takeD (i := 14) (d := some 92) (v := ?_) rfl rfl (by kernel_rfl) (by kernel_rfl) (by kernel_rfl) (fun _ _ _ h => h) (by rfl) ?_ (by assumption) ?_
            rotate_left
            · intro w' hSw
              (try dsimp only at hSw)
              go_simp
              try with_reducible rfl
            try simp only [Act.put, List.setIfInBounds_toArray, List.set_cons_zero, List.set_cons_succ]
            refine oneD (i := 10) (by kernel_rfl) rfl (fun K hK => ?_)
            go_simp
            go_at_call 25
            refine (sbusy_calls gs _ kq false _ (HSS.out.1.fr (((Fr.refl No _).drew).then N9.out.2.2.2.1) (fun _ _ h => h) (fun h => h))).mono ?_
            rintro e w11 ⟨rfl, hw11⟩
            rw [hw11]
            clear hw11 w11
            refine hK.out _ _ hHeld2 (fun hHeld4 => ?_)
            clear hK K
            try simp only [Act.put, List.setIfInBounds_toArray, List.set_cons_zero, List.set_cons_succ]
            refine takeD (i := 15) (d := some 93) (v := ?_) rfl rfl (by kernel_rfl) (by kernel_rfl) (by kernel_rfl) (fun _ _ _ h => h) (by rfl) ?_ (by assumption) ?_
            rotate_left
            · intro w' hSw
              (try dsimp only at hSw)
              go_simp
              try with_reducible rfl
            try simp only [Act.put, List.setIfInBounds_toArray, List.set_cons_zero, List.set_cons_succ]
            refine takeD (i := 16) (d := some 94) (v := ?_) rfl rfl (by kernel_rfl) (by kernel_rfl) (by kernel_rfl) (fun _ _ _ h => h) (by rfl) ?_ (by assumption) ?_
            rotate_left
            · intro w' hSw
              (try dsimp only at hSw)
              go_simp
              try with_reducible rfl
            try simp only [Act.put, List.setIfInBounds_toArray, List.set_cons_zero, List.set_cons_succ]
            refine wpAnyH_done (by kernel_rfl) ?_ _
            clear hHeld hHeld2 hHeld3 hHeld4 e0 e1 e2
            have hyy : (false != false) = false := by simp
            have HP9 := hid (HP.out.fresh (((Fr.refl No _).drew).then N9.out.2.2.2.1) (fun _ h => h.elim))
            go_wp2_with fail
            go_roundw
            case rel => exact ⟨k + 1, by go_num, by omega, _, _, _, _, HP9.out⟩
            case measure => simp [intOf] <;> omega
      · obtain rfl : k = n := by have := HQ.out.1; omega
        obtain ⟨a, a', y, kp, hps⟩ := HQ.out.2
        have HPS := hid hps
        have hge : ¬ ((k : Int) < (k : Int)) := by omega
        clear hlt hps
        go_wp2_with fail
        go_ret
        exact ⟨rfl, H1.out.then HPS.out.fr⟩
end Go.Proofs.Ytponiapdpecioaa

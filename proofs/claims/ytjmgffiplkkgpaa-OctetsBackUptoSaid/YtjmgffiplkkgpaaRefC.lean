/- The reference's cursor: what each call computes. -/
import Derived.Test.YtjmgffiplkkgpaaRef2
namespace Go.Proofs.Ytjmgffiplkkgpaa
open Go.RowKit Go.Proofs.HK
set_option linter.unusedVariables false
set_option linter.unusedSimpArgs false
attribute [local go_sem] max2_int min2_int max_two min_two

structure RCur (L U : Nat) (w : World) (g : Nat) (bs : List UInt8) (er : Int) : Prop where
  blk : ∃ A n c, bs.length = n ∧ w.heap[g]? = some (.cells #[.slice A n c, .int .i64 er] 40 (0, 0)) ∧ Rd B w A bs ∧ (∀ ad, A = some ad → ad.block ≠ g ∧ L ≤ ad.block ∧ ad.block < U) ∧ n ≤ c
  gl : L ≤ g
  gu : g < U
  len : bs.length ≤ 140737488355328
theorem RCur.cells {L U : Nat} {w : World} {g : Nat} {bs : List UInt8} {er : Int} (h : RCur L U w g bs er) : ∃ A n c, bs.length = n ∧ w.cell? ⟨g, 0, none⟩ = some (.slice A n c) ∧ w.cell? ⟨g, 1, none⟩ = some (.int .i64 er) ∧
    w.frozen? ⟨g, 0, none⟩ = false ∧ w.frozen? ⟨g, 1, none⟩ = false ∧ Rd B w A bs ∧ (∀ ad, A = some ad → ad.block ≠ g) ∧ n ≤ c := by
  obtain ⟨A, n, c, hn, hb, h1, h2, h3⟩ := h.blk
  exact ⟨A, n, c, hn, by simp [World.cell?, hb], by simp [World.cell?, hb], by simp [World.frozen?, hb], by simp [World.frozen?, hb], h1, fun ad e => (h2 ad e).1, h3⟩
theorem RCur.lt {L U : Nat} {w : World} {g : Nat} {bs : List UInt8} {er : Int} (h : RCur L U w g bs er) : g < w.heap.size := by
  obtain ⟨A, n, c, hn, hb, _⟩ := h.blk
  exact (Array.getElem?_eq_some_iff.1 hb).1
theorem RCur.fr {L U : Nat} {S : Nat → Prop} {w w' : World} {g : Nat} {bs : List UInt8} {er : Int} (h : RCur L U w g bs er) (hf : Fr S w w') (hs : ∀ k, L ≤ k → k < U → ¬ S k) : RCur L U w' g bs er := by
  obtain ⟨A, n, c, hn, hb, h1, h2, h3⟩ := h.blk
  exact ⟨⟨A, n, c, hn, (hf.block g h.lt (hs _ h.gl h.gu)).trans hb, h1.keep (fun ad e hl => hf.block _ hl (hs _ (h2 ad e).2.1 (h2 ad e).2.2)), h2, h3⟩, h.gl, h.gu, h.len⟩

def rfB (bs : List UInt8) (er x : Int) : List UInt8 := if er = 0 ∧ x ≠ 0 then [] else bs
def rfE (er x : Int) : Int := if er = 0 ∧ x ≠ 0 then x else er
theorem rfail_calls {L U : Nat} (w : World) (g : Nat) (bs : List UInt8) (er x : Int) (h : RCur L U w g bs er) :
    Calls Try.prog 33 #[.pointer (some ⟨g, 0, none⟩), .int .i64 x] w fun e w' => e = .returned (.tuple #[]) ∧ RCur L U w' g (rfB bs er x) (rfE er x) ∧ Fr (One g) w w' := by
  have HC := hid h
  obtain ⟨A, n, c, hn, h0, h1, f0, f1, _⟩ := h.cells
  clear h hn
  by_cases he : er = 0
  · by_cases hx : x = 0
    · have HB : Hid (rfB bs er x = bs) := if_neg (fun h => h.2 hx)
      have HE : Hid (rfE er x = er) := if_neg (fun h => h.2 hx)
      have b1 : (er == 0) = true := by simpa using he
      have b2 : (x != 0) = false := by simpa using hx
      clear he hx
      go_enter Try.func33, Try.ntmps33
      go_wp2
      go_end0
      exact ⟨rfl, by rw [HB.out, HE.out]; exact HC.out, Fr.refl _ _⟩
    · have HB : Hid (rfB bs er x = []) := if_pos ⟨he, hx⟩
      have HE : Hid (rfE er x = x) := if_pos ⟨he, hx⟩
      have b1 : (er == 0) = true := by simpa using he
      have b2 : (x != 0) = true := by simpa using hx
      clear he hx
      go_enter Try.func33, Try.ntmps33
      go_wp2
      go_end0
      refine ⟨rfl, ?_, (Fr.set1 _ _ _ _).then (Fr.set1 _ _ _ _)⟩
      rw [HB.out, HE.out]
      obtain ⟨A, n, c, hn, hb, _⟩ := HC.out.blk
      exact ⟨⟨none, 0, 0, rfl, by rw [heap_set _ _ _ _ _ _ (heap_set _ _ _ _ _ _ hb)]; rfl, Rd.nil, fun _ h => (by cases h), Nat.le_refl _⟩, HC.out.gl, HC.out.gu, by simp⟩
  · have HB : Hid (rfB bs er x = bs) := if_neg (fun h => he h.1)
    have HE : Hid (rfE er x = er) := if_neg (fun h => he h.1)
    have b1 : (er == 0) = false := by simpa using he
    clear he
    go_enter Try.func33, Try.ntmps33
    go_wp2
    go_end0
    exact ⟨rfl, by rw [HB.out, HE.out]; exact HC.out, Fr.refl _ _⟩

def ryE (bs : List UInt8) (er n : Int) : Int := if er = 0 then (if n < 0 then 1 else if (bs.length : Int) < n then 2 else 0) else er
def ryB (bs : List UInt8) (er n : Int) : List UInt8 := if er = 0 then (if ryE bs er n = 0 then bs.drop n.toNat else []) else bs
def ryR (bs : List UInt8) (er n : Int) : List UInt8 := if er = 0 ∧ ryE bs er n = 0 then bs.take n.toNat else []
theorem rbytes_calls {L U : Nat} (w : World) (g : Nat) (bs : List UInt8) (er n : Int) (h : RCur L U w g bs er) :
    Calls Try.prog 31 #[.pointer (some ⟨g, 0, none⟩), .int .i64 n] w fun e w' =>
      ∃ v, e = .returned v ∧ NewR B w w' v (ryR bs er n) ∧ RCur L U w' g (ryB bs er n) (ryE bs er n) ∧ Fr (One g) w w' := by
  have HC := hid h
  have hl := h.len
  obtain ⟨A, n0, c, hn0, h0, h1, f0, f1, hr, hne, hlc⟩ := h.cells
  have HR := hid hr
  subst hn0
  clear h hr
  by_cases he : er = 0
  · have hb : (er != 0) = false := by simpa using he
    by_cases hn : n < 0
    · have E3 : Hid (ryE bs er n = 1) := by unfold ryE; rw [if_pos he, if_pos hn]; exact rfl
      have E2 : Hid (ryB bs er n = []) := by unfold ryB; rw [if_pos he, E3.out, if_neg (by omega)]; exact rfl
      have E1 : Hid (ryR bs er n = []) := by unfold ryR; rw [E3.out, if_neg (by omega)]; exact rfl
      have E4 : Hid (rfB bs er 1 = []) := if_pos ⟨he, by omega⟩
      have E5 : Hid (rfE er 1 = 1) := if_pos ⟨he, by omega⟩
      clear he
      go_enter Try.func31, Try.ntmps31
      go_wp2_with (go_at_call 33; refine (rfail_calls _ _ _ _ _ HC.out).mono ?_; rintro e w1 ⟨rfl, hc1, hf1⟩)
      go_ret
      rw [E4.out, E5.out] at hc1
      rw [E1.out, E2.out, E3.out]
      exact ⟨_, rfl, NewR.nil, hc1, hf1⟩
    · by_cases hgt : (bs.length : Int) < n
      · have E3 : Hid (ryE bs er n = 2) := by unfold ryE; rw [if_pos he, if_neg hn, if_pos hgt]; exact rfl
        have E2 : Hid (ryB bs er n = []) := by unfold ryB; rw [if_pos he, E3.out, if_neg (by omega)]; exact rfl
        have E1 : Hid (ryR bs er n = []) := by unfold ryR; rw [E3.out, if_neg (by omega)]; exact rfl
        have E4 : Hid (rfB bs er 2 = []) := if_pos ⟨he, by omega⟩
        have E5 : Hid (rfE er 2 = 2) := if_pos ⟨he, by omega⟩
        clear he
        go_enter Try.func31, Try.ntmps31
        go_wp2_with (go_at_call 33; refine (rfail_calls _ _ _ _ _ HC.out).mono ?_; rintro e w1 ⟨rfl, hc1, hf1⟩)
        go_ret
        rw [E4.out, E5.out] at hc1
        rw [E1.out, E2.out, E3.out]
        exact ⟨_, rfl, NewR.nil, hc1, hf1⟩
      · have E3 : Hid (ryE bs er n = er) := by unfold ryE; rw [if_pos he, if_neg hn, if_neg hgt]; exact he.symm
        have E2 : Hid (ryB bs er n = bs.drop n.toNat) := by unfold ryB; rw [if_pos he, E3.out, if_pos he]; exact rfl
        have E1 : Hid (ryR bs er n = bs.take n.toNat) := by unfold ryR; rw [E3.out, if_pos ⟨he, he⟩]; exact rfl
        clear he
        obtain ⟨m, rfl⟩ := Int.eq_ofNat_of_zero_le (show 0 ≤ n by omega)
        simp only [Int.toNat_natCast] at *
        have hs1 := cut_h slU8 A bs.length c (m : Int) m rfl (by omega)
        have hs2 := cut_l slU8 A bs.length c (m : Int) m rfl (by omega)
        have hyl : ((bs.take m).map B).length = m * 1 := by rw [List.length_map, List.length_take]; omega
        have hglt := HC.out.lt
        have CC := Rd.cells.1 (HR.out.take m)
        go_enter Try.func31, Try.ntmps31
        go_wp2_with (at_builtin; refine wpList_app slU8 rfl (.tmp 24) (.tmp 30) rfl rfl (Row.new w 1 0 [] _ rfl (by omega)) rfl hyl (CC.fr (S := No) ((Fr.refl _ _).alloc _) (fun _ _ h => h)) (oneB _) (by omega) (by omega) ?_; intro A1 c1 w1 ob1 hv1 hf1 hob1; simp only [Nat.zero_add, List.nil_append] at hv1 ⊢; have hF : Fr No w w1 := ((Fr.refl No w).alloc _).fresh hf1 (fun k e => by injection e with e; omega); have g0 := (hF.cellg g 0 hglt (fun h => h)).trans h0; have gf0 := (hF.frozen (p := ⟨g, 0, none⟩) hglt (fun h => h)).trans f0)
        go_ret
        have hlen : (bs.take m).length = m := by simpa using hyl
        rw [E1.out, E2.out, E3.out]
        simp only [World.size_alloc] at hob1
        have hgn : ∀ k, ob1 = some k → k ≠ g := fun k hk e => by
          rcases hob1 with h | ⟨j, h, hj⟩ <;> rw [h] at hk <;> injection hk with hk <;> omega
        refine ⟨_, rfl, NewR.mk' rfl hlen (hv1.fr (Fr.set1 _ _ _ _) (fun k hk e => hgn k hk e)) (fun k hk => some_le (m := w.heap.size) (hob1.imp (fun h => h) (fun ⟨k, a, b⟩ => ⟨k, a, by omega⟩)) (by omega) k hk), ?_, hF.any.then (Fr.set1 _ _ _ _)⟩
        have hc1 := HC.out.fr hF (fun _ _ _ h => h)
        have hlw := hc1.lt
        obtain ⟨A', n', c', hn', hb', hr', hne', hlc'⟩ := hc1.blk
        have hA' : A' = A := by
          have q0 : w1.cell? ⟨g, 0, none⟩ = some (.slice A' n' c') := by simp [World.cell?, hb']
          rw [g0] at q0
          injection q0 with q0
          injection q0 with q0 _ _
          exact q0.symm
        rw [hA'] at hne'
        have hh : w1.heap[g]? = some (.cells #[.slice A bs.length c, .int .i64 er] 40 (0, 0)) := by
          have hc0 := hc1.cells
          rw [hb']
          have q0 : w1.cell? ⟨g, 0, none⟩ = some (.slice A' n' c') := by simp [World.cell?, hb']
          rw [g0] at q0
          injection q0 with q0
          rw [q0]
        refine ⟨⟨cutA A c m 1, bs.length - m, c - m, by rw [List.length_drop], by rw [heap_set _ _ _ _ _ _ hh]; rfl, ?_, fun ad e => ?_, by omega⟩, HC.out.gl, HC.out.gu, by rw [List.length_drop]; omega⟩
        · exact ((HR.out.fr0 hF).cutA m c hlc (by omega)).fr (Fr.set1 _ _ _ _) (fun ad e => by
            obtain ⟨a, ha, hb⟩ := cutA_blk e
            intro e2
            exact hne a ha (by rw [← hb]; exact e2))
        · obtain ⟨a, ha, hb⟩ := cutA_blk e
          rw [hb]; exact hne' a ha
  · have E3 : Hid (ryE bs er n = er) := by unfold ryE; rw [if_neg he]; exact rfl
    have E2 : Hid (ryB bs er n = bs) := by unfold ryB; rw [if_neg he]; exact rfl
    have E1 : Hid (ryR bs er n = []) := by unfold ryR; rw [if_neg (fun h => he h.1)]; exact rfl
    have hb : (er != 0) = true := by simpa using he
    clear he
    go_enter Try.func31, Try.ntmps31
    go_wp2
    go_ret
    rw [E1.out, E2.out, E3.out]
    exact ⟨_, rfl, NewR.nil, HC.out, Fr.refl _ _⟩

def rbE (er n : Int) : Int := if n < 1 ∨ 4 < n then rfE er 1 else er
def rbB (bs : List UInt8) (er n : Int) : List UInt8 := if n < 1 ∨ 4 < n then rfB bs er 1 else bs
theorem ryR_len (bs : List UInt8) (er n : Int) : (ryR (rbB bs er n) (rbE er n) n).length ≤ 4 := by
  unfold ryR
  split
  · rename_i h
    by_cases hn : n < 1 ∨ 4 < n
    · have h1 := h.1
      unfold rbE rfE at h1
      rw [if_pos hn] at h1
      split at h1
      · omega
      · rename_i h2
        exact absurd ⟨h1, by omega⟩ h2
    · rw [List.length_take]
      omega
  · simp
theorem rbig_calls {L U : Nat} (w : World) (g : Nat) (bs : List UInt8) (er n : Int) (h : RCur L U w g bs er) :
    Calls Try.prog 26 #[.pointer (some ⟨g, 0, none⟩), .int .i64 n] w fun e w' =>
      e = .returned (.int .i64 (be (ryR (rbB bs er n) (rbE er n) n) : Nat)) ∧ RCur L U w' g (ryB (rbB bs er n) (rbE er n) n) (ryE (rbB bs er n) (rbE er n) n) ∧ Fr (One g) w w' := by
  have HC := hid h
  clear h
  have HL := hid (ryR_len bs er n)
  have rest : ∀ W, RCur L U W g (rbB bs er n) (rbE er n) → Fr (One g) w W → Calls Try.prog 31 #[.pointer (some ⟨g, 0, none⟩), .int .i64 n] W fun e w' =>
      ∃ A n1 c, e = .returned (.slice A n1 c) ∧ (ryR (rbB bs er n) (rbE er n) n).length = n1 ∧ Rd B w' A (ryR (rbB bs er n) (rbE er n) n) ∧ RCur L U w' g (ryB (rbB bs er n) (rbE er n) n) (ryE (rbB bs er n) (rbE er n) n) ∧ Fr (One g) w w' := by
    intro W hc hf
    refine (rbytes_calls W g _ _ n hc).mono ?_
    rintro e w' ⟨v, rfl, ⟨A, n1, c, ob, rfl, h2, h3, h4⟩, h5, h6⟩
    exact ⟨A, n1, c, rfl, h2, h3.rd.1, h5, hf.then h6⟩
  have HREST := hid rest
  clear rest
  by_cases h1 : n < 1
  · have E1 : Hid (rbE er n = rfE er 1) := if_pos (.inl h1)
    have E2 : Hid (rbB bs er n = rfB bs er 1) := if_pos (.inl h1)
    go_enter Try.func26, Try.ntmps26
    go_wp2_with (go_at_call 33; refine (rfail_calls _ _ _ _ _ HC.out).mono ?_; rintro e w1 ⟨rfl, hc1, hf1⟩)
    rw [← E1.out, ← E2.out] at hc1
    refine (HREST.out _ hc1 hf1).mono ?_
    clear hc1 hf1
    rintro e w2 ⟨A, n1, c, rfl, hn1, hr, hc2, hf2⟩
    have H2 := hid (And.intro hr (And.intro hc2 (And.intro hf2 hn1)))
    clear hr hc2 hf2 hn1
    go_wp2_with (go_at_call 58; refine (refNumber_calls _ _ _ _ H2.out.2.2.2 _ H2.out.1 (by have := HL.out; omega)).mono ?_; rintro e w3 ⟨rfl, rfl⟩)
    go_ret
    exact ⟨rfl, H2.out.2.1, H2.out.2.2.1⟩
  by_cases h2 : 4 < n
  · have E1 : Hid (rbE er n = rfE er 1) := if_pos (.inr h2)
    have E2 : Hid (rbB bs er n = rfB bs er 1) := if_pos (.inr h2)
    go_enter Try.func26, Try.ntmps26
    go_wp2_with (go_at_call 33; refine (rfail_calls _ _ _ _ _ HC.out).mono ?_; rintro e w1 ⟨rfl, hc1, hf1⟩)
    rw [← E1.out, ← E2.out] at hc1
    refine (HREST.out _ hc1 hf1).mono ?_
    clear hc1 hf1
    rintro e w2 ⟨A, n1, c, rfl, hn1, hr, hc2, hf2⟩
    have H2 := hid (And.intro hr (And.intro hc2 (And.intro hf2 hn1)))
    clear hr hc2 hf2 hn1
    go_wp2_with (go_at_call 58; refine (refNumber_calls _ _ _ _ H2.out.2.2.2 _ H2.out.1 (by have := HL.out; omega)).mono ?_; rintro e w3 ⟨rfl, rfl⟩)
    go_ret
    exact ⟨rfl, H2.out.2.1, H2.out.2.2.1⟩
  · have E1 : Hid (rbE er n = er) := if_neg (by omega)
    have E2 : Hid (rbB bs er n = bs) := if_neg (by omega)
    have hc1 := HC.out
    rw [← E1.out, ← E2.out] at hc1
    have HC1 := hid hc1
    clear hc1
    go_enter Try.func26, Try.ntmps26
    go_wp2_with fail
    refine (HREST.out _ HC1.out (Fr.refl _ _)).mono ?_
    rintro e w2 ⟨A, n1, c, rfl, hn1, hr, hc2, hf2⟩
    have H2 := hid (And.intro hr (And.intro hc2 (And.intro hf2 hn1)))
    clear hr hc2 hf2 hn1
    go_wp2_with (go_at_call 58; refine (refNumber_calls _ _ _ _ H2.out.2.2.2 _ H2.out.1 (by have := HL.out; omega)).mono ?_; rintro e w3 ⟨rfl, rfl⟩)
    go_ret
    exact ⟨rfl, H2.out.2.1, H2.out.2.2.1⟩

theorem rlittle_calls {L U : Nat} (w : World) (g : Nat) (bs : List UInt8) (er n : Int) (h : RCur L U w g bs er) :
    Calls Try.prog 28 #[.pointer (some ⟨g, 0, none⟩), .int .i64 n] w fun e w' =>
      e = .returned (.int .i64 (le (ryR (rbB bs er n) (rbE er n) n) : Nat)) ∧ RCur L U w' g (ryB (rbB bs er n) (rbE er n) n) (ryE (rbB bs er n) (rbE er n) n) ∧ Fr (One g) w w' := by
  have HC := hid h
  clear h
  have HL := hid (ryR_len bs er n)
  have rest : ∀ W, RCur L U W g (rbB bs er n) (rbE er n) → Fr (One g) w W → Calls Try.prog 31 #[.pointer (some ⟨g, 0, none⟩), .int .i64 n] W fun e w' =>
      ∃ A n1 c, e = .returned (.slice A n1 c) ∧ (ryR (rbB bs er n) (rbE er n) n).length = n1 ∧ Rd B w' A (ryR (rbB bs er n) (rbE er n) n) ∧ RCur L U w' g (ryB (rbB bs er n) (rbE er n) n) (ryE (rbB bs er n) (rbE er n) n) ∧ Fr (One g) w w' := by
    intro W hc hf
    refine (rbytes_calls W g _ _ n hc).mono ?_
    rintro e w' ⟨v, rfl, ⟨A, n1, c, ob, rfl, h2, h3, h4⟩, h5, h6⟩
    exact ⟨A, n1, c, rfl, h2, h3.rd.1, h5, hf.then h6⟩
  have HREST := hid rest
  clear rest
  by_cases h1 : n < 1
  · have E1 : Hid (rbE er n = rfE er 1) := if_pos (.inl h1)
    have E2 : Hid (rbB bs er n = rfB bs er 1) := if_pos (.inl h1)
    go_enter Try.func28, Try.ntmps28
    go_wp2_with (go_at_call 33; refine (rfail_calls _ _ _ _ _ HC.out).mono ?_; rintro e w1 ⟨rfl, hc1, hf1⟩)
    rw [← E1.out, ← E2.out] at hc1
    refine (HREST.out _ hc1 hf1).mono ?_
    clear hc1 hf1
    rintro e w2 ⟨A, n1, c, rfl, hn1, hr, hc2, hf2⟩
    have H2 := hid (And.intro hr (And.intro hc2 (And.intro hf2 hn1)))
    clear hr hc2 hf2 hn1
    go_wp2_with fail
    refine (refTurned_calls _ _ _ _ H2.out.2.2.2 _ H2.out.1 (by have := HL.out; omega)).mono ?_
    rintro e w1 ⟨x, rfl, hnew⟩
    obtain ⟨A1, n2, c1, ob1, rfl, hn2, hrow1, hob1, hfr1⟩ := hnew.open
    clear hnew
    have H3 := hid (And.intro hrow1.rd.1 (And.intro hfr1 hn2))
    clear hrow1 hob1 hfr1 hn2
    go_wp2_with fail
    refine (refNumber_calls _ _ _ _ H3.out.2.2 _ H3.out.1 (by have := HL.out; rw [List.length_reverse]; omega)).mono ?_
    rintro e w3 ⟨rfl, rfl⟩
    go_wp2
    go_ret
    exact ⟨ri (by rw [le_eq_be]), H2.out.2.1.fr H3.out.2.1 (fun _ _ _ h => h), H2.out.2.2.1.then H3.out.2.1.any⟩
  by_cases h2 : 4 < n
  · have E1 : Hid (rbE er n = rfE er 1) := if_pos (.inr h2)
    have E2 : Hid (rbB bs er n = rfB bs er 1) := if_pos (.inr h2)
    go_enter Try.func28, Try.ntmps28
    go_wp2_with (go_at_call 33; refine (rfail_calls _ _ _ _ _ HC.out).mono ?_; rintro e w1 ⟨rfl, hc1, hf1⟩)
    rw [← E1.out, ← E2.out] at hc1
    refine (HREST.out _ hc1 hf1).mono ?_
    clear hc1 hf1
    rintro e w2 ⟨A, n1, c, rfl, hn1, hr, hc2, hf2⟩
    have H2 := hid (And.intro hr (And.intro hc2 (And.intro hf2 hn1)))
    clear hr hc2 hf2 hn1
    go_wp2_with fail
    refine (refTurned_calls _ _ _ _ H2.out.2.2.2 _ H2.out.1 (by have := HL.out; omega)).mono ?_
    rintro e w1 ⟨x, rfl, hnew⟩
    obtain ⟨A1, n2, c1, ob1, rfl, hn2, hrow1, hob1, hfr1⟩ := hnew.open
    clear hnew
    have H3 := hid (And.intro hrow1.rd.1 (And.intro hfr1 hn2))
    clear hrow1 hob1 hfr1 hn2
    go_wp2_with fail
    refine (refNumber_calls _ _ _ _ H3.out.2.2 _ H3.out.1 (by have := HL.out; rw [List.length_reverse]; omega)).mono ?_
    rintro e w3 ⟨rfl, rfl⟩
    go_wp2
    go_ret
    exact ⟨ri (by rw [le_eq_be]), H2.out.2.1.fr H3.out.2.1 (fun _ _ _ h => h), H2.out.2.2.1.then H3.out.2.1.any⟩
  · have E1 : Hid (rbE er n = er) := if_neg (by omega)
    have E2 : Hid (rbB bs er n = bs) := if_neg (by omega)
    have hc1 := HC.out
    rw [← E1.out, ← E2.out] at hc1
    have HC1 := hid hc1
    clear hc1
    go_enter Try.func28, Try.ntmps28
    go_wp2_with fail
    refine (HREST.out _ HC1.out (Fr.refl _ _)).mono ?_
    rintro e w2 ⟨A, n1, c, rfl, hn1, hr, hc2, hf2⟩
    have H2 := hid (And.intro hr (And.intro hc2 (And.intro hf2 hn1)))
    clear hr hc2 hf2 hn1
    go_wp2_with fail
    refine (refTurned_calls _ _ _ _ H2.out.2.2.2 _ H2.out.1 (by have := HL.out; omega)).mono ?_
    rintro e w1 ⟨x, rfl, hnew⟩
    obtain ⟨A1, n2, c1, ob1, rfl, hn2, hrow1, hob1, hfr1⟩ := hnew.open
    clear hnew
    have H3 := hid (And.intro hrow1.rd.1 (And.intro hfr1 hn2))
    clear hrow1 hob1 hfr1 hn2
    go_wp2_with fail
    refine (refNumber_calls _ _ _ _ H3.out.2.2 _ H3.out.1 (by have := HL.out; rw [List.length_reverse]; omega)).mono ?_
    rintro e w3 ⟨rfl, rfl⟩
    go_wp2
    go_ret
    exact ⟨ri (by rw [le_eq_be]), H2.out.2.1.fr H3.out.2.1 (fun _ _ _ h => h), H2.out.2.2.1.then H3.out.2.1.any⟩
end Go.Proofs.Ytjmgffiplkkgpaa

/- The contracts of layer 2, octets: what each call computes, and what becomes of the cursor. -/
import Derived.Test.YtamkfjbdcjkchaaDoorProg
import Derived.Test.YtamkfjbdcjkchaaDoorMem
namespace Go.Proofs.YtamkfjbdcjkchaaDoor
open Go.RowKit Go.Proofs.HK
set_option linter.unusedVariables false
set_option linter.unusedSimpArgs false

theorem slU8 : SlT Tryd.prog 22 5 1 1 := SlT.of (z := .int .u8 0) Tryd.underlying22 (by kernel_rfl) rfl (by decide)

theorem fits_calls (A : Option Addr) (len c : Nat) (at_ n : Int) (w : World) (hl : len ≤ 1000000000000000) :
    Calls Tryd.prog 42 #[.slice A len c, .int .i64 at_, .int .i64 n] w fun e w' => e = .returned (.int .i64 (fitsS len at_ n)) ∧ w' = w := by
  by_cases h1 : n < 1
  · go_enter Tryd.func42, Tryd.ntmps42
    go_wp2
    go_ret
    exact ⟨by simp [fitsS, h1], rfl⟩
  by_cases h2 : 4 < n
  · go_enter Tryd.func42, Tryd.ntmps42
    go_wp2
    go_ret
    exact ⟨by simp [fitsS, h2], rfl⟩
  by_cases h3 : at_ < 0
  · go_enter Tryd.func42, Tryd.ntmps42
    go_wp2
    go_ret
    exact ⟨by simp [fitsS, h3], rfl⟩
  by_cases h4 : (len : Int) - n < at_
  all_goals
    go_enter Tryd.func42, Tryd.ntmps42
    go_wp2
    go_ret
    exact ⟨ri (by unfold fitsS; repeat' split
                  all_goals omega), rfl⟩

theorem little_calls (A : Option Addr) (bs : List UInt8) (n0 c : Nat) (hn0 : bs.length = n0) (at_ n : Int) (w : World) (hr : Rd B w A bs) (hl : bs.length ≤ 1000000000000000) :
    Calls Tryd.prog 31 #[.slice A n0 c, .int .i64 at_, .int .i64 n] w fun e w' => e = .returned (.tuple #[.int .i64 (littleS bs at_ n), .int .i64 (fitsS bs.length at_ n)]) ∧ w' = w := by
  subst hn0
  have HR := hid hr
  clear hr
  by_cases h0 : fitsS bs.length at_ n = 0
  · obtain ⟨p1, p2, p3, p4⟩ := fitsS_0 h0
    have HF : Hid (littleS bs at_ n = _) := if_pos h0
    have H0 := hid h0
    clear h0
    obtain ⟨a, rfl⟩ := Int.eq_ofNat_of_zero_le p3
    obtain ⟨m, rfl⟩ := Int.eq_ofNat_of_zero_le (show 0 ≤ n by omega)
    go_enter Tryd.func31, Tryd.ntmps31
    go_wp2_with (go_at_call 42; refine (fits_calls _ _ _ _ _ _ hl).mono ?_; rw [H0.out]; rintro e w' ⟨rfl, rfl⟩)
    go_loop [9, 10] (fun v i => ∃ k : Nat, k ≤ m ∧ i = .int .i64 k ∧ v = .int .i64 (le ((bs.drop a).take k) : Nat)) (fun _ i => m - (intOf i).toNat)
    case atStart => exact ⟨0, by omega, rfl, rfl⟩
    case round =>
      obtain ⟨k, hk, rfl, rfl⟩ := hrel
      by_cases hlt : k < m
      · obtain ⟨ad, rfl, hc⟩ := HR.out.atN (a + k) (by omega)
        have hr := B_lt (rdB bs (a + k))
        have hlen : ((bs.drop a).take k).length = k := by rw [List.length_take, List.length_drop]; omega
        have hb : ((le ((bs.drop a).take k) : Nat) : Int) < 16777216 := by
          have h1 := le_lt ((bs.drop a).take k)
          have h3 : 256 ^ ((bs.drop a).take k).length ≤ 256 ^ 3 := Nat.pow_le_pow_right (by omega) (by omega)
          omega
        have hst : le ((bs.drop a).take (k + 1)) = le ((bs.drop a).take k) + (rdB bs (a + k)).toNat * 256 ^ k := by
          rw [take_snocB _ _ (by rw [List.length_drop]; omega), le_snoc, rdB_drop, hlen]
        have hor := le_or (le ((bs.drop a).take k)) (rdB bs (a + k)).toNat k (by omega) (by have := le_lt ((bs.drop a).take k); rwa [hlen] at this) (by omega)
        rw [← hst] at hor
        have HO := hid hor
        clear hor hst hlen
        go_wp2
        go_round
        case rel => exact ⟨k + 1, by omega, by go_num, by rw [← HO.out]⟩
        case measure => simp [intOf]; omega
      · obtain rfl : k = m := by omega
        go_wp2
        go_ret2
        exact ⟨ri2 HF.out.symm H0.out.symm, rfl⟩
  · have hne : (fitsS bs.length at_ n == 0) = false := by simpa using h0
    have HF : Hid (littleS bs at_ n = 0) := if_neg h0
    clear h0
    go_enter Tryd.func31, Tryd.ntmps31
    go_wp2_with (go_at_call 42; refine (fits_calls _ _ _ _ _ _ hl).mono ?_; rintro e w' ⟨rfl, rfl⟩)
    refine wp_loop_once ?_
    go_wp2
    go_ret2
    exact ⟨ri2 HF.out.symm rfl, rfl⟩

/-! ### The cursor -/
/-- A cursor at g over the bytes bs, at the place p, with the error er. -/
structure Cur (L U : Nat) (w : World) (g : Nat) (bs : List UInt8) (p : Nat) (er : Int) : Prop where
  blk : ∃ A c, w.heap[g]? = some (.cells #[.slice A bs.length c, .int .i64 p, .int .i64 er] 64 (0, 0)) ∧ Rd B w A bs ∧ (∀ ad, A = some ad → ad.block ≠ g ∧ L ≤ ad.block ∧ ad.block < U) ∧ bs.length ≤ c
  gl : L ≤ g
  gu : g < U
  len : bs.length ≤ 140737488355328
  hi : p ≤ bs.length

theorem new_calls (A : Option Addr) (bs : List UInt8) (n0 c : Nat) (hn0 : bs.length = n0) (w : World) (hr : Rd B w A bs) (hl : bs.length ≤ 140737488355328) :
    Calls Tryd.prog 13 #[.slice A n0 c] w fun e w' => ∃ g, e = .returned (.pointer (some ⟨g, 0, none⟩)) ∧ Cur w.heap.size w'.heap.size w' g bs 0 0 ∧ Fr No w w' := by
  subst hn0
  have HR := hid hr
  clear hr
  go_enter Tryd.func13, Tryd.ntmps13
  go_wp2_with (at_builtin; refine wpList_app slU8 rfl (.tmp 3) (.tmp 4) rfl rfl (Row.new w 1 0 [] _ rfl (by omega)) rfl (by simp) ((Rd.cells.1 HR.out).fr (S := No) ((Fr.refl _ _).alloc _) (fun _ _ h => h)) (oneB bs) (by omega) (by omega) ?_; intro A1 c1 w1 ob1 hv1 hf1 hob1; simp only [Nat.zero_add, List.nil_append] at hv1 ⊢)
  go_ret
  simp only [World.size_alloc] at hob1
  have hk := some_le (m := w.heap.size) (hob1.imp id (fun ⟨k, a, b⟩ => ⟨k, a, by omega⟩)) (Nat.le_refl _)
  have hs := hf1.size
  simp only [World.size_alloc] at hs
  obtain ⟨r1, r2, r3, _⟩ := hv1.rd
  have hlt := fun k h => hv1.lt (k := k) h
  exact ⟨_, rfl, ⟨⟨A1, c1, heap_new _ _, r1.alloc _, fun ad e => by have := hlt _ (r3 ad e); have := hk _ (r3 ad e); simp; omega, r2⟩, by omega, by simp, by omega, by omega⟩,
    ((((Fr.refl No w).alloc _).fresh hf1 (fun k e => by injection e with e; omega)).alloc _)⟩

/-- The cells of the cursor's block. -/
theorem Cur.cells {L U : Nat} {w : World} {g : Nat} {bs : List UInt8} {p : Nat} {er : Int} (h : Cur L U w g bs p er) : ∃ A c, w.cell? ⟨g, 0, none⟩ = some (.slice A bs.length c) ∧ w.cell? ⟨g, 1, none⟩ = some (.int .i64 p) ∧ w.cell? ⟨g, 2, none⟩ = some (.int .i64 er) ∧
    w.frozen? ⟨g, 1, none⟩ = false ∧ w.frozen? ⟨g, 2, none⟩ = false ∧ Rd B w A bs ∧ (∀ ad, A = some ad → ad.block ≠ g) ∧ bs.length ≤ c := by
  obtain ⟨A, c, hb, h1, h2, h3⟩ := h.blk
  exact ⟨A, c, by simp [World.cell?, hb], by simp [World.cell?, hb], by simp [World.cell?, hb], by simp [World.frozen?, hb], by simp [World.frozen?, hb], h1, fun ad e => (h2 ad e).1, h3⟩
theorem Cur.lt {L U : Nat} {w : World} {g : Nat} {bs : List UInt8} {p : Nat} {er : Int} (h : Cur L U w g bs p er) : g < w.heap.size := by
  obtain ⟨A, c, hb, _⟩ := h.blk
  exact (Array.getElem?_eq_some_iff.1 hb).1
theorem Cur.fr {L U : Nat} {S : Nat → Prop} {w w' : World} {g : Nat} {bs : List UInt8} {p : Nat} {er : Int} (h : Cur L U w g bs p er) (hf : Fr S w w') (hs : ∀ k, L ≤ k → k < U → ¬ S k) : Cur L U w' g bs p er := by
  obtain ⟨A, c, hb, h1, h2, h3⟩ := h.blk
  exact ⟨⟨A, c, (hf.block g h.lt (hs _ h.gl h.gu)).trans hb, h1.keep (fun ad e hl => hf.block _ hl (hs _ (h2 ad e).2.1 (h2 ad e).2.2)), h2, h3⟩, h.gl, h.gu, h.len, h.hi⟩
theorem Cur.mono {L U L' U' : Nat} {w : World} {g : Nat} {bs : List UInt8} {p : Nat} {er : Int} (h : Cur L U w g bs p er) (h1 : L' ≤ L) (h2 : U ≤ U') : Cur L' U' w g bs p er := by
  obtain ⟨A, c, hb, k1, k2, k3⟩ := h.blk
  exact ⟨⟨A, c, hb, k1, fun ad e => ⟨(k2 ad e).1, Nat.le_trans h1 (k2 ad e).2.1, Nat.lt_of_lt_of_le (k2 ad e).2.2 h2⟩, k3⟩, Nat.le_trans h1 h.gl, Nat.lt_of_lt_of_le h.gu h2, h.len, h.hi⟩
theorem Cur.drewN {L U : Nat} {w : World} {g : Nat} {bs : List UInt8} {p : Nat} {er : Int} (h : Cur L U w g bs p er) (k : Nat) : Cur L U (w.drewN k) g bs p er :=
  h.fr (S := No) ((Fr.refl _ _).drewN k) (fun _ _ _ h => h)
theorem Cur.put {L U : Nat} {w : World} {g : Nat} {bs : List UInt8} {p p' : Nat} {er er' : Int} (h : Cur L U w g bs p er) (hp : p' ≤ bs.length) {w' : World} (hf : Fr (One g) w w')
    (hb : ∀ A c, w.heap[g]? = some (.cells #[.slice A bs.length c, .int .i64 p, .int .i64 er] 64 (0, 0)) → w'.heap[g]? = some (.cells #[.slice A bs.length c, .int .i64 p', .int .i64 er'] 64 (0, 0))) : Cur L U w' g bs p' er' := by
  obtain ⟨A, c, h0, h1, h2, h3⟩ := h.blk
  exact ⟨⟨A, c, hb A c h0, h1.fr hf (fun ad e => (h2 ad e).1), h2, h3⟩, h.gl, h.gu, h.len, hp⟩
theorem err_nil (w : World) : Calls Tryd.prog 16 #[.pointer none] w fun e w' => e = .returned (.int .i64 1) ∧ w' = w := by
  go_enter Tryd.func16, Tryd.ntmps16
  go_wp2
  go_ret
  exact ⟨rfl, rfl⟩
theorem err_calls {L U : Nat} (w : World) (g : Nat) (bs : List UInt8) (p : Nat) (er : Int) (h : Cur L U w g bs p er) :
    Calls Tryd.prog 16 #[.pointer (some ⟨g, 0, none⟩)] w fun e w' => e = .returned (.int .i64 er) ∧ w' = w := by
  obtain ⟨A, c, h0, h1, h2, _⟩ := h.cells
  clear h
  go_enter Tryd.func16, Tryd.ntmps16
  go_wp2
  go_ret
  exact ⟨rfl, rfl⟩
theorem fail_nil (w : World) (x : Int) : Calls Tryd.prog 18 #[.pointer none, .int .i64 x] w fun e w' => e = .returned (.tuple #[]) ∧ w' = w := by
  go_enter Tryd.func18, Tryd.ntmps18
  go_wp2_with (go_at_call 16; refine (err_nil _).mono ?_; rintro e w' ⟨rfl, rfl⟩)
  go_end0
  exact ⟨rfl, rfl⟩
def failS (er x : Int) : Int := if er = 0 then x else er
theorem fail_calls {L U : Nat} (w : World) (g : Nat) (bs : List UInt8) (p : Nat) (er x : Int) (h : Cur L U w g bs p er) :
    Calls Tryd.prog 18 #[.pointer (some ⟨g, 0, none⟩), .int .i64 x] w fun e w' => e = .returned (.tuple #[]) ∧ Cur L U w' g bs p (failS er x) ∧ Fr (One g) w w' := by
  have HC := hid h
  obtain ⟨A, c, h0, h1, h2, f1, f2, _⟩ := h.cells
  clear h
  by_cases he : er = 0
  · have HE : Hid (failS er x = x) := if_pos he
    have hb : (er == 0) = true := by simpa using he
    clear he
    go_enter Tryd.func18, Tryd.ntmps18
    go_wp2_with (go_at_call 16; refine (err_calls _ _ _ _ _ HC.out).mono ?_; rintro e w' ⟨rfl, rfl⟩)
    go_end0
    refine ⟨rfl, ?_, Fr.set1 _ _ _ _⟩
    rw [HE.out]
    exact HC.out.put HC.out.hi (Fr.set1 _ _ _ _) (fun A c hb => by rw [heap_set _ _ _ _ _ _ hb]; rfl)
  · have HE : Hid (failS er x = er) := if_neg he
    have hb : (er == 0) = false := by simpa using he
    clear he
    go_enter Tryd.func18, Tryd.ntmps18
    go_wp2_with (go_at_call 16; refine (err_calls _ _ _ _ _ HC.out).mono ?_; rintro e w' ⟨rfl, rfl⟩)
    go_end0
    exact ⟨rfl, by rw [HE.out]; exact HC.out, Fr.refl _ _⟩
theorem left_nil (w : World) : Calls Tryd.prog 21 #[.pointer none] w fun e w' => e = .returned (.int .i64 0) ∧ w' = w := by
  go_enter Tryd.func21, Tryd.ntmps21
  go_wp2_with (go_at_call 16; refine (err_nil _).mono ?_; rintro e w' ⟨rfl, rfl⟩)
  go_ret
  exact ⟨rfl, rfl⟩
def leftS (bs : List UInt8) (p : Nat) (er : Int) : Int := if er = 0 then ((bs.length - p : Nat) : Int) else 0
theorem left_calls {L U : Nat} (w : World) (g : Nat) (bs : List UInt8) (p : Nat) (er : Int) (h : Cur L U w g bs p er) :
    Calls Tryd.prog 21 #[.pointer (some ⟨g, 0, none⟩)] w fun e w' => e = .returned (.int .i64 (leftS bs p er)) ∧ ∃ n, w' = w.drewN n := by
  have HC := hid h
  have hl := h.len
  have hp := h.hi
  obtain ⟨A, c, h0, h1, h2, f1, f2, _⟩ := h.cells
  clear h
  by_cases he : er = 0
  · have HE : Hid (leftS bs p er = ((bs.length - p : Nat) : Int)) := if_pos he
    have hb : (er != 0) = false := by simpa using he
    clear he
    go_enter Tryd.func21, Tryd.ntmps21
    go_wp2_with (go_at_call 16; refine (err_calls _ _ _ _ _ HC.out).mono ?_; rintro e w' ⟨rfl, rfl⟩)
    go_quiet (fail)
    go_wp2
    go_ret
    exact ⟨ri (by rw [HE.out]; omega), _, rfl⟩
  · have HE : Hid (leftS bs p er = 0) := if_neg he
    have hb : (er != 0) = true := by simpa using he
    clear he
    go_enter Tryd.func21, Tryd.ntmps21
    go_wp2_with (go_at_call 16; refine (err_calls _ _ _ _ _ HC.out).mono ?_; rintro e w' ⟨rfl, rfl⟩)
    go_ret
    exact ⟨ri HE.out.symm, 0, rfl⟩
def numB (bs : List UInt8) (p : Nat) (er n : Int) : Int := if er = 0 then (if fitsS bs.length p n = 0 then bigS bs p n else 0) else 0
def numL (bs : List UInt8) (p : Nat) (er n : Int) : Int := if er = 0 then (if fitsS bs.length p n = 0 then littleS bs p n else 0) else 0
def numP (bs : List UInt8) (p : Nat) (er n : Int) : Nat := if er = 0 ∧ fitsS bs.length p n = 0 then p + n.toNat else p
def numE (bs : List UInt8) (p : Nat) (er n : Int) : Int := if er = 0 then fitsS bs.length p n else er

theorem number_little_nil (w : World) (n : Int) : Calls Tryd.prog 30 #[.pointer none, .int .i64 n, .func (.func 31) #[] #[]] w fun e w' => e = .returned (.int .i64 0) ∧ w' = w := by
  go_enter Tryd.func30, Tryd.ntmps30
  go_wp2_with (go_at_call 16; refine (err_nil _).mono ?_; rintro e w' ⟨rfl, rfl⟩)
  go_ret
  exact ⟨rfl, rfl⟩
theorem number_little {L U : Nat} (w : World) (g : Nat) (bs : List UInt8) (p : Nat) (er n : Int) (h : Cur L U w g bs p er) :
    Calls Tryd.prog 30 #[.pointer (some ⟨g, 0, none⟩), .int .i64 n, .func (.func 31) #[] #[]] w fun e w' =>
      e = .returned (.int .i64 (numL bs p er n)) ∧ Cur L U w' g bs (numP bs p er n) (numE bs p er n) ∧ Fr (One g) w w' := by
  have HC := hid h
  have hl := h.len
  have hp := h.hi
  obtain ⟨A, c, h0, h1, h2, f1, f2, hr, _⟩ := h.cells
  have HR := hid hr
  clear h hr
  by_cases he : er = 0
  · have hb : (er != 0) = false := by simpa using he
    by_cases hf : fitsS bs.length p n = 0
    · obtain ⟨p1, p2, p3, p4⟩ := fitsS_0 hf
      have E1 : Hid (numL bs p er n = littleS bs p n) := by unfold numL; rw [if_pos he, if_pos hf]; exact rfl
      have E2 : Hid (numP bs p er n = p + n.toNat) := by unfold numP; rw [if_pos ⟨he, hf⟩]; exact rfl
      have E3 : Hid (numE bs p er n = er) := by unfold numE; rw [if_pos he, hf, he]; exact rfl
      have hfb : (fitsS bs.length p n != 0) = false := by simpa using hf
      have HE := hid he
      clear he hf
      go_enter Tryd.func30, Tryd.ntmps30
      go_wp2_with (go_at_call 16; refine (err_calls _ _ _ _ _ HC.out).mono ?_; rintro e w' ⟨rfl, rfl⟩)
      go_quiet ((go_at_call 31; exact Calls.quiet_of_same (little_calls _ _ _ _ rfl _ _ _ HR.out (by omega))))
      go_wp2
      go_ret
      refine ⟨ri E1.out.symm, ?_, (((Fr.refl _ _).drewN _).then (Fr.set1 _ _ _ _))⟩
      rw [E2.out, E3.out]
      refine HC.out.put (by omega) (((Fr.refl _ _).drewN _).then (Fr.set1 _ _ _ _)) (fun A c hb => ?_)
      rw [heap_set (w'.drewN _) _ _ _ _ _ hb, show ((p + n.toNat : Nat) : Int) = (p : Int) + n by omega]
      rfl
    · have E1 : Hid (numL bs p er n = 0) := by unfold numL; rw [if_pos he, if_neg hf]; exact rfl
      have E2 : Hid (numP bs p er n = p) := by unfold numP; rw [if_neg (fun h => hf h.2)]; exact rfl
      have E3 : Hid (numE bs p er n = failS er (fitsS bs.length p n)) := by unfold numE failS; rw [if_pos he]; exact rfl
      have hfb : (fitsS bs.length p n != 0) = true := by simpa using hf
      clear he hf
      go_enter Tryd.func30, Tryd.ntmps30
      go_wp2_with (go_at_call 16; refine (err_calls _ _ _ _ _ HC.out).mono ?_; rintro e w' ⟨rfl, rfl⟩)
      go_quiet ((go_at_call 31; exact Calls.quiet_of_same (little_calls _ _ _ _ rfl _ _ _ HR.out (by omega))))
      go_wp2_with (go_at_call 18; refine (fail_calls _ _ _ _ _ _ (HC.out.drewN _)).mono ?_; rintro e w1 ⟨rfl, hc1, hf1⟩)
      go_ret
      refine ⟨ri E1.out.symm, ?_, (((Fr.refl _ _).drewN _).then hf1)⟩
      rw [E2.out, E3.out]
      exact hc1
  · have E1 : Hid (numL bs p er n = 0) := by unfold numL; rw [if_neg he]; exact rfl
    have E2 : Hid (numP bs p er n = p) := by unfold numP; rw [if_neg (fun h => he h.1)]; exact rfl
    have E3 : Hid (numE bs p er n = er) := by unfold numE; rw [if_neg he]; exact rfl
    have hb : (er != 0) = true := by simpa using he
    clear he
    go_enter Tryd.func30, Tryd.ntmps30
    go_wp2_with (go_at_call 16; refine (err_calls _ _ _ _ _ HC.out).mono ?_; rintro e w' ⟨rfl, rfl⟩)
    go_ret
    exact ⟨ri E1.out.symm, by rw [E2.out, E3.out]; exact HC.out, Fr.refl _ _⟩

theorem clittle_nil (w : World) (n : Int) : Calls Tryd.prog 15 #[.pointer none, .int .i64 n] w fun e w' => e = .returned (.int .i64 0) ∧ w' = w := by
  go_enter Tryd.func15, Tryd.ntmps15
  go_wp2_with (go_at_call 30; refine (number_little_nil _ _).mono ?_; rintro e w' ⟨rfl, rfl⟩)
  go_ret
  exact ⟨rfl, rfl⟩
theorem clittle_calls {L U : Nat} (w : World) (g : Nat) (bs : List UInt8) (p : Nat) (er n : Int) (h : Cur L U w g bs p er) :
    Calls Tryd.prog 15 #[.pointer (some ⟨g, 0, none⟩), .int .i64 n] w fun e w' =>
      e = .returned (.int .i64 (numL bs p er n)) ∧ Cur L U w' g bs (numP bs p er n) (numE bs p er n) ∧ Fr (One g) w w' := by
  have HC := hid h
  clear h
  go_enter Tryd.func15, Tryd.ntmps15
  go_wp2_with (go_at_call 30; refine (number_little _ _ _ _ _ _ HC.out).mono ?_; rintro e w1 ⟨rfl, hc1, hf1⟩)
  go_ret
  exact ⟨rfl, hc1, hf1⟩

def byE (bs : List UInt8) (p : Nat) (er n : Int) : Int := if er = 0 then (if n < 0 then 1 else if ((bs.length - p : Nat) : Int) < n then 2 else 0) else er
def byP (bs : List UInt8) (p : Nat) (er n : Int) : Nat := if er = 0 ∧ byE bs p er n = 0 then p + n.toNat else p
def byB (bs : List UInt8) (p : Nat) (er n : Int) : List UInt8 := if er = 0 ∧ byE bs p er n = 0 then (bs.drop p).take n.toNat else []
theorem cbytes_nil (w : World) (n : Int) : Calls Tryd.prog 14 #[.pointer none, .int .i64 n] w fun e w' => e = .returned (.slice none 0 0) ∧ w' = w := by
  go_enter Tryd.func14, Tryd.ntmps14
  go_wp2_with (go_at_call 16; refine (err_nil _).mono ?_; rintro e w' ⟨rfl, rfl⟩)
  go_ret
  exact ⟨rfl, rfl⟩
theorem cbytes_calls {L U : Nat} (w : World) (g : Nat) (bs : List UInt8) (p : Nat) (er n : Int) (h : Cur L U w g bs p er) :
    Calls Tryd.prog 14 #[.pointer (some ⟨g, 0, none⟩), .int .i64 n] w fun e w' =>
      ∃ v, e = .returned v ∧ NewR B w w' v (byB bs p er n) ∧ Cur L U w' g bs (byP bs p er n) (byE bs p er n) ∧ Fr (One g) w w' := by
  have HC := hid h
  have hl := h.len
  have hp := h.hi
  obtain ⟨A, c, h0, h1, h2, f1, f2, hr, hne, hlc⟩ := h.cells
  have HR := hid hr
  clear h hr
  by_cases he : er = 0
  · have hb : (er != 0) = false := by simpa using he
    by_cases hn : n < 0
    · have E3 : Hid (byE bs p er n = failS er 1) := by unfold byE failS; rw [if_pos he, if_pos hn, if_pos he]; exact rfl
      have hne0 : ¬ byE bs p er n = 0 := by rw [E3.out]; unfold failS; rw [if_pos he]; omega
      have E2 : Hid (byP bs p er n = p) := by unfold byP; rw [if_neg (fun h => hne0 h.2)]; exact rfl
      have E1 : Hid (byB bs p er n = []) := by unfold byB; rw [if_neg (fun h => hne0 h.2)]; exact rfl
      clear he hne0
      go_enter Tryd.func14, Tryd.ntmps14
      go_wp2_with (first | (go_at_call 16; refine (err_calls _ _ _ _ _ HC.out).mono ?_; rintro e w' ⟨rfl, rfl⟩) | (go_at_call 18; refine (fail_calls _ _ _ _ _ _ HC.out).mono ?_; rintro e w1 ⟨rfl, hc1, hf1⟩))
      go_ret
      rw [E1.out, E2.out, E3.out]
      exact ⟨_, rfl, NewR.nil, hc1, hf1⟩
    · by_cases hgt : (bs.length : Int) - p < n
      · have E3 : Hid (byE bs p er n = failS er 2) := by unfold byE failS; rw [if_pos he, if_neg hn, if_pos (by omega), if_pos he]; exact rfl
        have hne0 : ¬ byE bs p er n = 0 := by rw [E3.out]; unfold failS; rw [if_pos he]; omega
        have E2 : Hid (byP bs p er n = p) := by unfold byP; rw [if_neg (fun h => hne0 h.2)]; exact rfl
        have E1 : Hid (byB bs p er n = []) := by unfold byB; rw [if_neg (fun h => hne0 h.2)]; exact rfl
        clear he hne0
        go_enter Tryd.func14, Tryd.ntmps14
        go_wp2_with (go_at_call 16; refine (err_calls _ _ _ _ _ HC.out).mono ?_; rintro e w' ⟨rfl, rfl⟩)
        go_quiet (fail)
        go_wp2_with (go_at_call 18; refine (fail_calls _ _ _ _ _ _ (HC.out.drewN _)).mono ?_; rintro e w1 ⟨rfl, hc1, hf1⟩)
        go_ret
        rw [E1.out, E2.out, E3.out]
        exact ⟨_, rfl, NewR.nil, hc1, (((Fr.refl _ _).drewN _).then hf1)⟩
      · have E3 : Hid (byE bs p er n = er) := by unfold byE; rw [if_pos he, if_neg hn, if_neg (by omega)]; exact he.symm
        have E2 : Hid (byP bs p er n = p + n.toNat) := by unfold byP; rw [E3.out, if_pos ⟨he, he⟩]; exact rfl
        have E1 : Hid (byB bs p er n = (bs.drop p).take n.toNat) := by unfold byB; rw [E3.out, if_pos ⟨he, he⟩]; exact rfl
        clear he
        go_enter Tryd.func14, Tryd.ntmps14
        go_wp2_with (go_at_call 16; refine (err_calls _ _ _ _ _ HC.out).mono ?_; rintro e w' ⟨rfl, rfl⟩)
        go_quiet (fail)
        go_wp2
        have hc2 : Cur L U ((w'.drewN nq).setCell ⟨g, 1, none⟩ (.int .i64 ((p : Int) + n))) g bs (p + n.toNat) er :=
          HC.out.put (by omega) (((Fr.refl _ _).drewN _).then (Fr.set1 _ _ _ _)) (fun A c hb => by
            rw [heap_set (w'.drewN _) _ _ _ _ _ hb, show ((p + n.toNat : Nat) : Int) = (p : Int) + n by omega]; rfl)
        have hf2 : Fr (One g) w' ((w'.drewN nq).setCell ⟨g, 1, none⟩ (.int .i64 ((p : Int) + n))) := (((Fr.refl _ _).drewN _).then (Fr.set1 _ _ _ _))
        clear h0 h1 h2 f1 f2 HC HR
        generalize ((w'.drewN nq).setCell ⟨g, 1, none⟩ (.int .i64 ((p : Int) + n))) = W at hc2 hf2 ⊢
        have HC := hid hc2
        have HF := hid hf2
        obtain ⟨A, c, h0, h1, h2, f1, f2, hr, hne, hlc⟩ := hc2.cells
        have HR := hid hr
        clear hc2 hf2 hr f1 f2 h2
        obtain ⟨m, rfl⟩ := Int.eq_ofNat_of_zero_le hn
        simp only [Int.toNat_natCast] at *
        have hw : IntKind.i64.wrap ((p : Int) + (m : Int) - (m : Int)) = (p : Int) := by rw [w64 _ (by omega) (by omega)]; omega
        have hw' : IntKind.i64.wrap (p : Int) = (p : Int) := w64 _ (by omega) (by omega)
        have b1 : (0 : Int) ≤ (p : Int) := by omega
        have b2 : (p : Int) ≤ (p : Int) + (m : Int) := by omega
        have b3 : (p : Int) + (m : Int) ≤ (c : Int) := by omega
        simp only [Int.natCast_add] at h1
        have hglt := HC.out.lt
        have CC := Rd.cells.1 ((HR.out.cutA p c hlc (by omega)).take m)
        have hyl : (((bs.drop p).take m).map B).length = m * 1 := by rw [List.length_map, List.length_take, List.length_drop]; omega
        have hsl := cut_lh slU8 A bs.length c (p : Int) ((p : Int) + (m : Int)) p m rfl rfl (by omega)
        go_region_held3 (fun w' => w'.cell? ⟨g, 0, none⟩ = some (.slice A bs.length c) ∧ w'.cell? ⟨g, 1, none⟩ = some (.int .i64 ((p : Int) + (m : Int))))
          (first | go_keep | (refine ⟨(hf1.cellg g 0 (by simp; omega) (notOpt (by omega))).trans ?_, (hf1.cellg g 1 (by simp; omega) (notOpt (by omega))).trans ?_⟩ <;> go_keep))
          ((refine step_app slU8 rfl (.tmp 37) (.tmp 52) rfl rfl (Row.new W 1 0 [] _ rfl (by omega)).drew rfl hyl (CC.fr (S := No) (((Fr.refl _ _).alloc _).drew) (fun _ _ h => h)) (oneB _) (by omega) (by omega) ?_; intro A1 c1 w1 ob1 hv1 hf1 hob1))
        simp only [Nat.zero_add, List.nil_append] at hv1
        go_wp2
        go_ret
        rw [E1.out, E2.out, E3.out]
        have hlen : ((bs.drop p).take m).length = m := by simpa using hyl
        simp only [World.size_drew, World.size_alloc] at hob1
        have hF : Fr No W w1 := (((Fr.refl No W).alloc _).drew).fresh hf1 (fun k e => by injection e with e; omega)
        refine ⟨_, rfl, NewR.mk' (by simp) hlen hv1 (fun k hk => ?_), HC.out.fr hF (fun _ _ _ h => h), HF.out.then hF.any⟩
        have := HF.out.size
        exact some_le (m := w'.heap.size) (hob1.imp (fun h => h) (fun ⟨k, a, b⟩ => ⟨k, a, by omega⟩)) (by omega) k hk
  · have E3 : Hid (byE bs p er n = er) := by unfold byE; rw [if_neg he]; exact rfl
    have E2 : Hid (byP bs p er n = p) := by unfold byP; rw [if_neg (fun h => he h.1)]; exact rfl
    have E1 : Hid (byB bs p er n = []) := by unfold byB; rw [if_neg (fun h => he h.1)]; exact rfl
    have hb : (er != 0) = true := by simpa using he
    clear he
    go_enter Tryd.func14, Tryd.ntmps14
    go_wp2_with (go_at_call 16; refine (err_calls _ _ _ _ _ HC.out).mono ?_; rintro e w' ⟨rfl, rfl⟩)
    go_ret
    rw [E1.out, E2.out, E3.out]
    exact ⟨_, rfl, NewR.nil, HC.out, Fr.refl _ _⟩
end Go.Proofs.YtamkfjbdcjkchaaDoor

/- The contract of screen.table: a table of colours, if marks say that there is one. -/
import Derived.Test.YtamkfjbdcjkchaaDoorOut
import Derived.Test.YtamkfjbdcjkchaaDoorTints
import Derived.Test.YtamkfjbdcjkchaaDoorChunk
import Derived.Test.YtamkfjbdcjkchaaDoorRegIn
import Derived.Deep.DeepCutAuto
namespace Go.Proofs.YtamkfjbdcjkchaaDoor
open Go.RowKit Go.Proofs.HK
set_option linter.unusedVariables false
set_option linter.unusedSimpArgs false
attribute [local go_sem] max2_int min2_int max_two min_two
attribute [local go_sem] Oper.semAt_some
/-- How far a reader is, and why it failed. -/
structure LS where
  p : Nat
  e : Int
/-- The bytes of a table, and how far it is read. -/
def tbB (o : List UInt8) (s : LS) (m : Nat) : List UInt8 := if m < 128 then [] else byB o s.p s.e (6 * 2 ^ (m % 8))
def tbX (o : List UInt8) (s : LS) (m : Nat) : LS := if m < 128 then s else ⟨byP o s.p s.e (6 * 2 ^ (m % 8)), byE o s.p s.e (6 * 2 ^ (m % 8))⟩
/-- A new table of n colours, of the bytes ts. -/
def TabN (b : Nat) (W : World) (A : Option Addr) (n c : Nat) (ts : List UInt8) : Prop := ts.length = 3 * n ∧ ∃ ob, Row W 3 (.slice A n c) ob n (ts.map B) ∧ ∀ k, ob = some k → b ≤ k
theorem TabN.fr {b : Nat} {W W' : World} {A : Option Addr} {n c : Nat} {ts : List UInt8} {S : Nat → Prop} (h : TabN b W A n c ts) (hf : Fr S W W') (hs : ∀ k, b ≤ k → k < W.heap.size → ¬ S k) : TabN b W' A n c ts := by
  obtain ⟨h0, ob, h1, h2⟩ := h
  exact ⟨h0, ob, h1.fr hf (fun k e => hs k (h2 k e) (h1.lt e)), h2⟩
theorem TabN.cells {b : Nat} {W : World} {A : Option Addr} {n c : Nat} {ts : List UInt8} (h : TabN b W A n c ts) : Cells W A (ts.map B) := by
  obtain ⟨h0, ob, h1, h2⟩ := h
  obtain ⟨A', c', e, _, hc, _⟩ := h1.cells
  injection e with e1 e2 e3
  subst e1
  exact hc
theorem TabN.nil (b : Nat) (W : World) : TabN b W none 0 0 [] := ⟨rfl, none, Row.nil _ _, fun _ h => by cases h⟩
theorem wrap64_idS {x : Int} (h0 : 0 < x) (h1 : x < 9223372036854775808) : wrap64 x = x := by unfold wrap64; omega
theorem cell_new1 (w : World) (cs : Array Value) (t : TypeId) (i : Nat) (v : Value) (h : cs[i]? = some v) : (w.alloc (.cells cs t)).cell? ⟨w.heap.size, i, none⟩ = some v := by
  obtain ⟨W, hW⟩ : ∃ W, W = w.alloc (.cells cs t) := ⟨_, rfl⟩
  have hb : W.heap[w.heap.size]? = some (.cells cs t (0, 0)) := by rw [hW]; exact heap_new _ _
  rw [← hW]
  simp [World.cell?, hb, h]
theorem and128 : ∀ m : Fin 256, bits .and .i64 ((m.val : Nat) : Int) 128 = ((m.val / 128 * 128 : Nat) : Int) := by decide +kernel
theorem and7 : ∀ m : Fin 256, bits .and .i64 ((m.val : Nat) : Int) 7 = ((m.val % 8 : Nat) : Int) := by decide +kernel
theorem byB_six (o : List UInt8) (s : LS) (k : Nat) (hk : k ≤ 7) : ∃ q, (byB o s.p s.e (6 * 2 ^ k)).length = 3 * q ∧ q ≤ 256 := by
  unfold byB
  split
  · rename_i h
    have hle : (6 * 2 ^ k : Int) ≤ ((o.length - s.p : Nat) : Int) := by
      have h2 := h.2
      unfold byE at h2
      rw [if_pos h.1] at h2
      by_cases h3 : (6 * 2 ^ k : Int) < 0
      · rw [if_pos h3] at h2; cases h2
      · rw [if_neg h3] at h2
        by_cases h4 : ((o.length - s.p : Nat) : Int) < 6 * 2 ^ k
        · rw [if_pos h4] at h2; cases h2
        · omega
    have hp : ((6 * 2 ^ k : Nat) : Int) = 6 * 2 ^ k := by push_cast; rfl
    rw [← hp] at hle ⊢
    have h27 : 2 ^ k ≤ 2 ^ 7 := Nat.pow_le_pow_right (by omega) hk
    refine ⟨2 * 2 ^ k, ?_, by omega⟩
    rw [List.length_take, List.length_drop, Int.toNat_natCast]
    omega
  · exact ⟨0, by simp, by omega⟩
set_option maxRecDepth 100000 in
set_option maxHeartbeats 3200000 in
theorem tab_calls {L T : Nat} (w : World) (g : Nat) (o : List UInt8) (s : LS) (m : Nat) (hm : m < 256) (h : Cur L T w g o s.p s.e) (hT : T ≤ w.heap.size) :
    Calls Tryd.prog 19 #[.pointer (some ⟨g, 0, none⟩), .int .i64 (m : Int)] w fun e w' => ∃ A n c, e = .returned (.slice A n c) ∧ TabN w.heap.size w' A n c (tbB o s m) ∧ Cur L T w' g o (tbX o s m).p (tbX o s m).e ∧ Fr (HK.One g) w w' := by
  have ha := and128 ⟨m, hm⟩
  have ha7 := and7 ⟨m, hm⟩
  simp only at ha ha7
  have HC := hid h
  have hgT := h.gu
  clear h
  by_cases h128 : m < 128
  · have hz : m / 128 * 128 = 0 := by omega
    rw [hz] at ha
    have ha' : bits .and .i64 (m : Int) 128 = 0 := ha
    have HS := hid (show tbB o s m = [] ∧ tbX o s m = s from ⟨by unfold tbB; rw [if_pos h128], by unfold tbX; rw [if_pos h128]⟩)
    clear ha hz ha7
    go_enter Tryd.func19, Tryd.ntmps19
    go_wp2_with fail
    go_ret
    rw [HS.out.1, HS.out.2]
    exact ⟨none, 0, 0, rfl, TabN.nil _ _, HC.out, Fr.refl _ _⟩
  · have hz : m / 128 * 128 = 128 := by omega
    rw [hz] at ha
    have ha' : bits .and .i64 (m : Int) 128 = 128 := ha
    obtain ⟨k7, hk7⟩ : ∃ k, k = m % 8 := ⟨_, rfl⟩
    have hk7b : k7 ≤ 7 := by omega
    rw [← hk7] at ha7
    have hwk : IntKind.u64.wrap (k7 : Int) = (k7 : Int) := by rw [IntKind.wrap_u64]; omega
    obtain ⟨six, hsix⟩ : ∃ x : Int, x = 6 * 2 ^ k7 := ⟨_, rfl⟩
    have hsh : wrap64 (6 * 2 ^ k7) = six := by
      rw [hsix]
      have h27 : (2 : Int) ^ k7 ≤ 2 ^ 7 := by
        have := Nat.pow_le_pow_right (n := 2) (by omega) hk7b
        exact_mod_cast this
      have h0 : (0 : Int) < 2 ^ k7 := Int.pow_pos (by decide)
      exact wrap64_idS (by omega) (by omega)
    have HS := hid (show tbB o s m = byB o s.p s.e six ∧ tbX o s m = ⟨byP o s.p s.e six, byE o s.p s.e six⟩ from ⟨by unfold tbB; rw [if_neg h128, ← hk7, ← hsix], by unfold tbX; rw [if_neg h128, ← hk7, ← hsix]⟩)
    obtain ⟨q, hbl, hq256⟩ := byB_six o s k7 hk7b
    rw [← hsix] at hbl
    obtain ⟨bs, hbs⟩ : ∃ b, b = byB o s.p s.e six := ⟨_, rfl⟩
    rw [← hbs] at hbl HS
    have HQ := hid hbl
    have HBS := hid hbs
    clear ha hz hk7 hsix hbl hbs h128
    refine (callsIn_wide (n := 4)).1 (callsIn_of_wp_marks Tryd.func19 rfl trivial (wpIn_wide.2 ?_) rfl)
    simp only [Tryd.ntmps19, List.size_toArray, List.length_cons, List.length_nil, Nat.reduceAdd, Nat.reduceSub, Array.replicate_succ, Array.replicate_zero, List.push_toArray, List.append_toArray, List.nil_append, List.cons_append]
    obtain ⟨g8, hg8⟩ : ∃ g8, g8 = w.heap.size := ⟨_, rfl⟩
    obtain ⟨w1, hw1⟩ : ∃ W, W = w.alloc (.cells #[.slice none 0 0] 24) := ⟨_, rfl⟩
    have hs1 : w1.heap.size = g8 + 1 := by rw [hw1, World.size_alloc, hg8]
    have hb1 : w1.heap[g8]? = some (.cells #[.slice none 0 0] 24 (0, 0)) := by rw [hw1, hg8]; exact heap_new _ _
    have hf1 : Fr No w w1 := by rw [hw1]; exact (Fr.refl _ _).alloc _
    have H1 := hid (And.intro hb1 hf1)
    have HG8 := hid hg8
    have HW1 := hid hw1
    clear hg8 hw1 hb1 hf1
    go_upto_region 4 with fail
    rw [← HW1.out, ← HG8.out]
    go_wp2_with fail
    refine (cbytes_calls w1 g o s.p s.e six (HC.out.fr H1.out.2 (fun _ _ _ h => h))).mono ?_
    rw [← HBS.out]
    rintro e w2 ⟨v2, rfl, ⟨A, n, c, ob2, rfl, hn2, hr2, ho2⟩, hcur2, hf2⟩
    have hgg8 : g < g8 := by have := HG8.out; omega
    have HR := hid (show bs.length = n ∧ Rd B w2 A bs ∧ n ≤ c ∧ (∀ ad, A = some ad → ad.block ≠ g8) from ⟨hn2, hr2.rd.1, hr2.rd.2.1, fun ad e h => by have := ho2 _ (hr2.rd.2.2.1 ad e); omega⟩)
    have HCU := hid (And.intro hcur2 hf2)
    have hs2 : g8 + 1 ≤ w2.heap.size := by have := hf2.size; omega
    have hb2 : w2.heap[g8]? = some (.cells #[.slice none 0 0] 24 (0, 0)) := (hf2.block g8 (by omega) (fun e => by have e : g8 = g := e; omega)).trans H1.out.1
    have hnq : n = 3 * q := by rw [← HR.out.1, HQ.out]
    have hNq : ∀ k, k < q ↔ k * 3 < n := fun k => by omega
    have HN := hid hNq
    have hn768 : n ≤ 140737488355328 := by omega
    have HNQ := hid hnq
    clear hn2 hr2 ho2 hcur2 hf2 hnq hNq
    go_wp2_with fail
    refine (chunk_calls A n c 3 w2 (by decide)).mono ?_
    rintro e wl ⟨rfl, hwl⟩
    obtain ⟨gc, hgc⟩ : ∃ gc, gc = w2.heap.size := ⟨_, rfl⟩
    rw [← hgc]
    have hsl : wl.heap.size = gc + 2 := by rw [hwl, World.size_alloc, World.size_alloc, hgc]
    have hfl : Fr No w2 wl := by rw [hwl]; exact ((Fr.refl _ _).alloc _).alloc _
    have hcL : wl.cell? ⟨gc, 0, none⟩ = some (.slice A n c) := by
      rw [hwl, ((Fr.refl No (w2.alloc _)).alloc _).cellg gc 0 (by rw [World.size_alloc]; omega) (fun h => h), hgc]; exact cell_new1 _ _ _ 0 _ rfl
    have hcM : wl.cell? ⟨gc + 1, 0, none⟩ = some (.int .i64 ((3 : Nat) : Int)) := by
      have := cell_new1 (w2.alloc (.cells #[.slice A n c] 22)) #[.int .i64 ((3 : Nat) : Int)] 3 0 _ rfl
      rw [World.size_alloc, ← hgc] at this
      rw [hwl]; exact this
    have hg8c : g8 < gc := by omega
    have hI0 : ∀ W, Fr No wl W → ∃ (A1 : Option Addr) (c1 : Nat) (ob1 : Option Nat), W.cell? ⟨g8, 0, none⟩ = some (.slice A1 0 c1) ∧ W.frozen? ⟨g8, 0, none⟩ = false ∧ Row W 3 (.slice A1 0 c1) ob1 0 ((bs.take (3 * 0)).map B) ∧ (∀ j, ob1 = some j → gc + 4 ≤ j) ∧ Fr (HK.One g8) w2 W := fun W hf => by
      have hF := hfl.then hf
      refine ⟨none, 0, none, ?_, ?_, Row.nil _ _, (fun _ h => by cases h), hF.any⟩
      · rw [hF.cellg g8 0 (by omega) (fun h => h)]; simp [World.cell?, hb2]
      · rw [hF.frozen (p := ⟨g8, 0, none⟩) (by show g8 < _; omega) (fun h => h)]; simp [World.frozen?, hb2]
    have HI0 := hid hI0
    have HGC := hid hgc
    clear hI0 hwl hfl hgc hb2
    go_wp2_with fail
    refine wpIn_wide.1 (wpIn_rangeFunc_mem (F := Fence.wide) (n := 4) rfl (by omega) (gf := 43) (lb := #[.pointer (some ⟨gc, 0, none⟩), .pointer (some ⟨gc + 1, 0, none⟩)]) rfl trivial (enters_of Tryd.func43 (by kernel_rfl) rfl)
        (chunk_seq (4 - 1) (by decide) A n c 3 q gc wl (by decide) HR.out.2.2.1 HN.out hn768 (by decide) hcL hcM) (Nat.le_refl _) (KeepLU.refl _ _ _) (by omega)
        (fun k W => ∃ (A1 : Option Addr) (c1 : Nat) (ob1 : Option Nat), W.cell? ⟨g8, 0, none⟩ = some (.slice A1 k c1) ∧ W.frozen? ⟨g8, 0, none⟩ = false ∧ Row W 3 (.slice A1 k c1) ob1 k ((bs.take (3 * k)).map B) ∧ (∀ j, ob1 = some j → gc + 4 ≤ j) ∧ Fr (HK.One g8) w2 W)
        (fun _ _ _ => False) ?hI (fun _ _ _ _ h _ => h) HI0.out ?hOk ?round ?done (fun _ _ _ _ h _ => h.elim))
    case hI =>
        rintro k X Y ⟨A1, c1, ob1, h1, h2, h3, h4, h5⟩ hf
        rw [hsl] at hf
        have hl8 : g8 < X.heap.size := lt_of_cell (a := ⟨g8, 0, none⟩) h1
        have hne : ¬ One (gc + 2 + 1) g8 := fun e => by have e : g8 = gc + 2 + 1 := e; omega
        exact ⟨A1, c1, ob1, (hf.cellg g8 0 hl8 hne).trans h1, (hf.frozen (p := ⟨g8, 0, none⟩) hl8 hne).trans h2, h3.fr hf (fun j hj e => by have e : j = gc + 2 + 1 := e; have := h4 j hj; omega), h4, h5.trans hf (fun j hj e => by have e : j = gc + 2 + 1 := e; have := HGC.out; omega)⟩
    case hOk =>
        rintro k args W hk hok
        obtain rfl : args = _ := hok
        exact ⟨rfl, fun _ _ => rfl⟩
    case round =>
        rintro k args W W2 hk ⟨A1, c1, ob1, h1, h2, h3, h4, h5⟩ hsz hok
        obtain rfl : args = _ := hok
        have hgcs := HGC.out
        rw [show min 3 (n - k * 3) = 3 by have := HNQ.out; omega]
        obtain ⟨ad, hA, q0, q1, q2⟩ := cells3 (Rd.cells.1 (HR.out.2.1.fr h5 (fun ad e h => HR.out.2.2.2 ad e h))) k (by rw [HR.out.1]; have := HNQ.out; omega)
        subst hA
        have hst := congrArg (List.map B) (take3 bs k (by rw [HR.out.1]; have := HNQ.out; omega))
        rw [List.map_append] at hst
        obtain ⟨x0, hx0⟩ : ∃ x : Int, x = ((rdB bs (3 * k)).toNat : Int) := ⟨_, rfl⟩
        obtain ⟨x1, hx1⟩ : ∃ x : Int, x = ((rdB bs (3 * k + 1)).toNat : Int) := ⟨_, rfl⟩
        obtain ⟨x2, hx2⟩ : ∃ x : Int, x = ((rdB bs (3 * k + 2)).toNat : Int) := ⟨_, rfl⟩
        have hys : [rdB bs (3 * k), rdB bs (3 * k + 1), rdB bs (3 * k + 2)].map B = [.int .u8 x0, .int .u8 x1, .int .u8 x2] := by rw [hx0, hx1, hx2]; rfl
        rw [hys] at hst
        rw [← hx0] at q0
        rw [← hx1] at q1
        rw [← hx2] at q2
        have HST := hid (And.intro hst (And.intro h4 (And.intro h5 h3)))
        have hl8 : g8 < W2.heap.size := by omega
        have hmx : Tryd.prog.follows .mixedOrders = true := by kernel_rfl
        have hkq : k + 1 ≤ 256 := by omega
        clear hst hys hx0 hx1 hx2 h4 h5 h3 hcL hcM ha' ha7 hwk hsh
        gi_wp2
        refine ⟨trivial, ?_⟩
        gi_wp2
        refine wpIn_region_round (S := fun w' => w'.cell? (ad.add (k * 3)) = some (.int .u8 x0) ∧ w'.cell? ⟨(ad.add (k * 3)).block, (ad.add (k * 3)).off + 1, none⟩ = some (.int .u8 x1) ∧ w'.cell? ⟨(ad.add (k * 3)).block, (ad.add (k * 3)).off + 2, none⟩ = some (.int .u8 x2)) (by kernel_rfl) (by kernel_rfl) ⟨q0, q1, q2⟩ (fun hHeld => ?_)
        refine take_round (i := 1) (v := ?_) rfl (by kernel_rfl) (by kernel_rfl) (by kernel_rfl) (by rfl) (fun w' hSw => ?_) hHeld ?_
        rotate_left
        · obtain ⟨p0, p1, p2⟩ := hSw
          go_simp
          try with_reducible rfl
        (try simp only [Act.put, List.setIfInBounds_toArray, List.set_cons_zero, List.set_cons_succ])
        refine take_round (i := 2) (v := ?_) rfl (by kernel_rfl) (by kernel_rfl) (by kernel_rfl) (by rfl) (fun w' hSw => ?_) hHeld ?_
        rotate_left
        · obtain ⟨p0, p1, p2⟩ := hSw
          go_simp
          try with_reducible rfl
        (try simp only [Act.put, List.setIfInBounds_toArray, List.set_cons_zero, List.set_cons_succ])
        refine take_round (i := 4) (v := ?_) rfl (by kernel_rfl) (by kernel_rfl) (by kernel_rfl) (by rfl) (fun w' hSw => ?_) hHeld ?_
        rotate_left
        · obtain ⟨p0, p1, p2⟩ := hSw
          go_simp
          try with_reducible rfl
        (try simp only [Act.put, List.setIfInBounds_toArray, List.set_cons_zero, List.set_cons_succ])
        refine take_round (i := 5) (v := ?_) rfl (by kernel_rfl) (by kernel_rfl) (by kernel_rfl) (by rfl) (fun w' hSw => ?_) hHeld ?_
        rotate_left
        · obtain ⟨p0, p1, p2⟩ := hSw
          go_simp
          try with_reducible rfl
        (try simp only [Act.put, List.setIfInBounds_toArray, List.set_cons_zero, List.set_cons_succ])
        refine take_round (i := 7) (v := ?_) rfl (by kernel_rfl) (by kernel_rfl) (by kernel_rfl) (by rfl) (fun w' hSw => ?_) hHeld ?_
        rotate_left
        · obtain ⟨p0, p1, p2⟩ := hSw
          go_simp
          try with_reducible rfl
        (try simp only [Act.put, List.setIfInBounds_toArray, List.set_cons_zero, List.set_cons_succ])
        refine take_round (i := 8) (v := ?_) rfl (by kernel_rfl) (by kernel_rfl) (by kernel_rfl) (by rfl) (fun w' hSw => ?_) hHeld ?_
        rotate_left
        · obtain ⟨p0, p1, p2⟩ := hSw
          go_simp
          try with_reducible rfl
        (try simp only [Act.put, List.setIfInBounds_toArray, List.set_cons_zero, List.set_cons_succ])
        refine take_round (i := 3) (v := ?_) rfl (by kernel_rfl) (by kernel_rfl) (by kernel_rfl) (by rfl) (fun w' hSw => ?_) hHeld ?_
        rotate_left
        · obtain ⟨p0, p1, p2⟩ := hSw
          go_simp
          try with_reducible rfl
        (try simp only [Act.put, List.setIfInBounds_toArray, List.set_cons_zero, List.set_cons_succ])
        refine take_round (i := 6) (v := ?_) rfl (by kernel_rfl) (by kernel_rfl) (by kernel_rfl) (by rfl) (fun w' hSw => ?_) hHeld ?_
        rotate_left
        · obtain ⟨p0, p1, p2⟩ := hSw
          go_simp
          try with_reducible rfl
        (try simp only [Act.put, List.setIfInBounds_toArray, List.set_cons_zero, List.set_cons_succ])
        refine take_round (i := 9) (v := ?_) rfl (by kernel_rfl) (by kernel_rfl) (by kernel_rfl) (by rfl) (fun w' hSw => ?_) hHeld ?_
        rotate_left
        · obtain ⟨p0, p1, p2⟩ := hSw
          go_simp
          try with_reducible rfl
        (try simp only [Act.put, List.setIfInBounds_toArray, List.set_cons_zero, List.set_cons_succ])
        refine take_round (i := 10) (v := ?_) rfl (by kernel_rfl) (by kernel_rfl) (by kernel_rfl) (by rfl) (fun w' hSw => ?_) hHeld ?_
        rotate_left
        · obtain ⟨p0, p1, p2⟩ := hSw
          go_simp
          try with_reducible rfl
        (try simp only [Act.put, List.setIfInBounds_toArray, List.set_cons_zero, List.set_cons_succ])
        have hbl : (ad.add (k * 3)).block < w2.heap.size := by rw [add_block]; exact HR.out.2.1.lt (by rw [HR.out.1]; have := HNQ.out; omega)
        have hbs : w2.heap.size ≤ W2.heap.size := HST.out.2.2.1.size
        have hbo : ¬ Opt ob1 (ad.add (k * 3)).block := fun e => by have := HST.out.2.1 _ e.symm; omega
        have hb8 : ¬ One g8 (ad.add (k * 3)).block := fun e => by have e : (ad.add (k * 3)).block = g8 := e; rw [add_block] at e; exact HR.out.2.2.2 ad rfl e
        have HB := hid (And.intro hbl (And.intro hbs (And.intro hbo (And.intro hb8 hHeld))))
        clear hbl hbs hbo hb8
        refine wpAnyH_ready (rs := [0, 11]) (by kernel_rfl) (by simp) (AllReadyH.cons rfl (fun K hK => ?_) (AllReadyH.cons rfl (fun K hK => ?_) AllReadyH.nil))
        · go_simp
          refine hK.out _ _ HB.out.2.2.2.2 (fun hHeld => ?_)
          (try simp only [Act.put, List.setIfInBounds_toArray, List.set_cons_zero, List.set_cons_succ])
          refine one_round (i := 11) (by kernel_rfl) rfl (fun K hK => ?_)
          go_simp
          refine hK.out _ _ (keepB (S := No) (((Fr.refl No W2).alloc _).drew) (Nat.lt_of_lt_of_le HB.out.1 HB.out.2.1) (fun h => h) HB.out.2.2.2.2) (fun hHeld => ?_)
          (try simp only [Act.put, List.setIfInBounds_toArray, List.set_cons_zero, List.set_cons_succ])
          refine one_round (i := 12) (by kernel_rfl) rfl (fun K hK => ?_)
          refine step_app slT3 rfl (.tmp 18) (.tmp 29) rfl rfl ((HST.out.2.2.2.fr (S := No) ((Fr.refl _ _).alloc _) (fun _ _ h => h)).drew) rfl (m := 1) (c := 1) (ys := [.int .u8 x0, .int .u8 x1, .int .u8 x2]) rfl (cells_new _ _ _) (by simp [Value.oneCell']) (by omega) (by omega) ?_
          intro A5 c5 w5 ob5 hrow5 hfr5 hob5
          have hs5 := hfr5.size
          rw [World.size_drew, World.size_alloc] at hs5 hob5
          have hg8n : ¬ Opt ob1 g8 := fun e => by have := HST.out.2.1 g8 e.symm; omega
          have hAl : Fr No W2 ((W2.alloc (.cells #[.int .u8 x0, .int .u8 x1, .int .u8 x2] 58)).drew) := ((Fr.refl No W2).alloc _).drew
          have hsA := hAl.size
          have e8 := (hfr5.cellg g8 0 (Nat.lt_of_lt_of_le hl8 hsA) hg8n).trans ((hAl.cellg g8 0 hl8 (fun h => h)).trans h1)
          have f8 := (hfr5.frozen (p := ⟨g8, 0, none⟩) (Nat.lt_of_lt_of_le hl8 hsA) hg8n).trans ((hAl.frozen (p := ⟨g8, 0, none⟩) hl8 (fun h => h)).trans h2)
          have hS5 := keepB hfr5 (Nat.lt_of_lt_of_le HB.out.1 (Nat.le_trans HB.out.2.1 hsA)) HB.out.2.2.1 (keepB (S := No) hAl (Nat.lt_of_lt_of_le HB.out.1 HB.out.2.1) (fun h => h) HB.out.2.2.2.2)
          refine hK.out _ _ hS5 (fun hHeld => ?_)
          (try simp only [Act.put, List.setIfInBounds_toArray, List.set_cons_zero, List.set_cons_succ])
          refine one_round (i := 13) (by kernel_rfl) rfl (fun K hK => ?_)
          go_simp
          refine hK.out _ _ (keepB (Fr.set1 _ _ _ _) (Nat.lt_of_lt_of_le HB.out.1 (by have := HB.out.2.1; omega)) HB.out.2.2.2.1 hS5) (fun hHeld => ?_)
          refine wpAnyH_done (by kernel_rfl) ⟨rfl, ?_⟩ _
          gi_wp2
          have hZ : Fr (fun b => b = g8 ∨ ob1 = some b) W2 (w5.setCell ⟨g8, 0, none⟩ (.slice A5 (k + 1) c5)) :=
            ((hAl.mono (fun _ _ h => h.elim)).trans (hfr5.mono (S' := fun b => b = g8 ∨ ob1 = some b) (fun j _ e => .inr (Eq.symm e))) (fun _ _ h => h)).trans (Fr.set1 _ _ _ _) (fun j _ (e : j = g8) => .inl e)
          have hob5' : ∀ j, ob5 = some j → gc + 4 ≤ j := fun j hj => by
            rcases hob5 with h | ⟨i, h, hi⟩
            · exact HST.out.2.1 j (by rw [← h]; exact hj)
            · rw [h] at hj; injection hj with hj; have := HB.out.2.1; omega
          have hdis : ∀ b, gc ≤ b → b < gc + 4 → ¬ (b = g8 ∨ ob1 = some b) := fun b b1 b2 e => by
            rcases e with e | e
            · omega
            · have := HST.out.2.1 b e; omega
          rw [← HST.out.1] at hrow5
          refine ⟨fun b hb => hZ.block b (by omega) (hdis b (by omega) (by omega)), hZ.size, KeepLU.of_fr hZ (by omega) (fun b b1 b2 => hdis b (by omega) (by omega)), A5, c5, ob5, World.cell?_setCell_same' _ _ _ (by rw [e8]; rfl), by rw [World.frozen?_setCell]; exact f8, hrow5.fr (Fr.set1 _ _ _ _) (fun j hj e => by have e : j = g8 := e; have := hob5' j hj; omega), hob5', ?_⟩
          exact HST.out.2.2.1.trans hZ (fun j hj e => by
            rcases e with e | e
            · exact e
            · have := HST.out.2.1 j e; omega)
        · go_simp
          refine hK.out _ _ (keepB (S := No) (((Fr.refl No W2).alloc _).drew) (Nat.lt_of_lt_of_le HB.out.1 HB.out.2.1) (fun h => h) HB.out.2.2.2.2) (fun hHeld => ?_)
          (try simp only [Act.put, List.setIfInBounds_toArray, List.set_cons_zero, List.set_cons_succ])
          have e80 : ∀ o, (W2.alloc o).cell? ⟨g8, 0, none⟩ = some (.slice A1 k c1) := fun o => (((Fr.refl No W2).alloc o).cellg g8 0 hl8 (fun h => h)).trans h1
          refine one_round (i := 0) (by kernel_rfl) rfl (fun K hK => ?_)
          go_simp
          refine hK.out _ _ (keepB (S := No) (((Fr.refl No W2).alloc _).drew) (Nat.lt_of_lt_of_le HB.out.1 HB.out.2.1) (fun h => h) HB.out.2.2.2.2) (fun hHeld => ?_)
          (try simp only [Act.put, List.setIfInBounds_toArray, List.set_cons_zero, List.set_cons_succ])
          clear e80
          refine one_round (i := 12) (by kernel_rfl) rfl (fun K hK => ?_)
          refine step_app slT3 rfl (.tmp 18) (.tmp 29) rfl rfl ((HST.out.2.2.2.fr (S := No) ((Fr.refl _ _).alloc _) (fun _ _ h => h)).drew) rfl (m := 1) (c := 1) (ys := [.int .u8 x0, .int .u8 x1, .int .u8 x2]) rfl (cells_new _ _ _) (by simp [Value.oneCell']) (by omega) (by omega) ?_
          intro A5 c5 w5 ob5 hrow5 hfr5 hob5
          have hs5 := hfr5.size
          rw [World.size_drew, World.size_alloc] at hs5 hob5
          have hg8n : ¬ Opt ob1 g8 := fun e => by have := HST.out.2.1 g8 e.symm; omega
          have hAl : Fr No W2 ((W2.alloc (.cells #[.int .u8 x0, .int .u8 x1, .int .u8 x2] 58)).drew) := ((Fr.refl No W2).alloc _).drew
          have hsA := hAl.size
          have e8 := (hfr5.cellg g8 0 (Nat.lt_of_lt_of_le hl8 hsA) hg8n).trans ((hAl.cellg g8 0 hl8 (fun h => h)).trans h1)
          have f8 := (hfr5.frozen (p := ⟨g8, 0, none⟩) (Nat.lt_of_lt_of_le hl8 hsA) hg8n).trans ((hAl.frozen (p := ⟨g8, 0, none⟩) hl8 (fun h => h)).trans h2)
          have hS5 := keepB hfr5 (Nat.lt_of_lt_of_le HB.out.1 (Nat.le_trans HB.out.2.1 hsA)) HB.out.2.2.1 (keepB (S := No) hAl (Nat.lt_of_lt_of_le HB.out.1 HB.out.2.1) (fun h => h) HB.out.2.2.2.2)
          refine hK.out _ _ hS5 (fun hHeld => ?_)
          (try simp only [Act.put, List.setIfInBounds_toArray, List.set_cons_zero, List.set_cons_succ])
          refine one_round (i := 13) (by kernel_rfl) rfl (fun K hK => ?_)
          go_simp
          refine hK.out _ _ (keepB (Fr.set1 _ _ _ _) (Nat.lt_of_lt_of_le HB.out.1 (by have := HB.out.2.1; omega)) HB.out.2.2.2.1 hS5) (fun hHeld => ?_)
          refine wpAnyH_done (by kernel_rfl) ⟨rfl, ?_⟩ _
          gi_wp2
          have hZ : Fr (fun b => b = g8 ∨ ob1 = some b) W2 (w5.setCell ⟨g8, 0, none⟩ (.slice A5 (k + 1) c5)) :=
            ((hAl.mono (fun _ _ h => h.elim)).trans (hfr5.mono (S' := fun b => b = g8 ∨ ob1 = some b) (fun j _ e => .inr (Eq.symm e))) (fun _ _ h => h)).trans (Fr.set1 _ _ _ _) (fun j _ (e : j = g8) => .inl e)
          have hob5' : ∀ j, ob5 = some j → gc + 4 ≤ j := fun j hj => by
            rcases hob5 with h | ⟨i, h, hi⟩
            · exact HST.out.2.1 j (by rw [← h]; exact hj)
            · rw [h] at hj; injection hj with hj; have := HB.out.2.1; omega
          have hdis : ∀ b, gc ≤ b → b < gc + 4 → ¬ (b = g8 ∨ ob1 = some b) := fun b b1 b2 e => by
            rcases e with e | e
            · omega
            · have := HST.out.2.1 b e; omega
          rw [← HST.out.1] at hrow5
          refine ⟨fun b hb => hZ.block b (by omega) (hdis b (by omega) (by omega)), hZ.size, KeepLU.of_fr hZ (by omega) (fun b b1 b2 => hdis b (by omega) (by omega)), A5, c5, ob5, World.cell?_setCell_same' _ _ _ (by rw [e8]; rfl), by rw [World.frozen?_setCell]; exact f8, hrow5.fr (Fr.set1 _ _ _ _) (fun j hj e => by have e : j = g8 := e; have := hob5' j hj; omega), hob5', ?_⟩
          exact HST.out.2.2.1.trans hZ (fun j hj e => by
            rcases e with e | e
            · exact e
            · have := HST.out.2.1 j e; omega)
    case done =>
        rintro W ⟨A1, c1, ob1, h1, h2, h3, h4, h5⟩ hD
        rw [hsl] at hD
        have HZ := hid (And.intro h3 (And.intro h4 h5))
        have h1' : W.cell? ⟨g8, 0, none⟩ = some (.slice A1 q c1) := h1
        clear h3 h4 h5 h2
        go_wp2_with fail
        refine ⟨by simp, .inl ⟨_, _, rfl, run_takeDeferred (by rw [hsl]; exact hD), ?_⟩⟩
        refine ⟨_, results_tmp rfl _ _ _, ?_⟩
        have hP : ∀ o, Fr (One (wl.heap.size)) W (W.putObj wl.heap.size o) := fun o => Fr.putObj _ _ _
        have h3 := HZ.out.1
        rw [List.take_of_length_le (by rw [HQ.out]; exact Nat.le_refl _)] at h3
        rw [HS.out.1, HS.out.2]
        have hgs := HGC.out
        have hG8 := HG8.out
        have hgL : g < w.heap.size := by omega
        have hF : ∀ ob, Fr (HK.One g) w (W.putObj wl.heap.size ob) := fun ob => (((H1.out.2.any).then HCU.out.2).trans HZ.out.2.2 (fun j hj e => by have e : j = g8 := e; omega)).trans (hP ob) (fun j hj (e : j = wl.heap.size) => by omega)
        refine ⟨A1, q, c1, rfl, ⟨HQ.out, ob1, h3.fr (hP _) (fun j hj (e : j = wl.heap.size) => by have := HZ.out.2.1 j hj; omega), fun j hj => by have := HZ.out.2.1 j hj; omega⟩, (HCU.out.1.fr HZ.out.2.2 (fun q1 h1 h2 e => by have e : q1 = g8 := e; omega)).fr (hP _) (fun q1 h1 h2 (e : q1 = wl.heap.size) => by omega), hF _⟩
end Go.Proofs.YtamkfjbdcjkchaaDoor

/- The contract of head.ReadClear. -/
import Derived.Test.YtkhglmmidgfliaaInts
namespace Go.Proofs.Ytkhglmmidgfliaa
open Go.RowKit Go.Proofs.HK
set_option linter.unusedVariables false
set_option linter.unusedSimpArgs false
attribute [local go_sem] max2_int min2_int max_two min_two

/-- The first k pairs of bytes, as numbers. -/
def prs (bs : List UInt8) (k : Nat) : List Int := (List.range k).map fun i => ((be ((bs.drop (2 * i)).take 2) : Nat) : Int)
theorem prs_succ (bs : List UInt8) (k : Nat) : prs bs (k + 1) = prs bs k ++ [((be ((bs.drop (2 * k)).take 2) : Nat) : Int)] := by simp [prs, List.range_succ]
theorem prs_length (bs : List UInt8) (k : Nat) : (prs bs k).length = k := by simp [prs]
theorem prs_nonneg (bs : List UInt8) (k : Nat) : ∀ v ∈ prs bs k, 0 ≤ v := by
  intro v hv
  obtain ⟨i, _, rfl⟩ := List.mem_map.1 hv
  exact Int.natCast_nonneg _
def alB (bs : List UInt8) : List Int := bs.map fun b => (b.toNat : Int)
theorem alB_length (bs : List UInt8) : (alB bs).length = bs.length := by simp [alB]
theorem alB_take (bs : List UInt8) (k : Nat) (h : k < bs.length) : alB (bs.take (k + 1)) = alB (bs.take k) ++ [((bs[k]).toNat : Int)] := by
  unfold alB; rw [List.take_succ_eq_append_getElem h, List.map_append]; rfl

/-- What covers nothing, or less, as it is read. -/
def rc3 (C T : Int) (n : Nat) : Prop := C = 3 ∧ 0 < n ∧ (n : Int) ≤ T
def rc2 (C D : Int) (bs : List UInt8) : Prop := (C = 0 ∨ C = 2) ∧ (bs.length : Int) = 2 * samS C ∧ ∀ v ∈ prs bs (bs.length / 2), v < 2 ^ D.toNat
instance (C T : Int) (n : Nat) : Decidable (rc3 C T n) := by unfold rc3; exact inferInstance
instance (C D : Int) (bs : List UInt8) : Decidable (rc2 C D bs) := by unfold rc2; exact inferInstance
def rcA (W H C D T : Int) (bs : List UInt8) : List Int := if mayS W H C D = true ∧ rc3 C T bs.length then alB bs else []
def rcC (W H C D : Int) (bs : List UInt8) : List Int := if mayS W H C D = true ∧ rc2 C D bs then prs bs (bs.length / 2) else []
def rcE (W H C D T : Int) (bs : List UInt8) : Int := if mayS W H C D = true then (if rc3 C T bs.length ∨ rc2 C D bs then 0 else 12) else 11
theorem may_facts {W H C D : Int} (h : mayS W H C D = true) : (C = 0 ∨ C = 2 ∨ C = 3 ∨ C = 4 ∨ C = 6) ∧ 1 ≤ D ∧ D ≤ 16 := by
  unfold mayS at h
  have h := (of_decide_eq_true h).2.2.2.2.2
  unfold depL at h
  split at h
  · simp only [List.mem_cons, List.not_mem_nil, or_false] at h; omega
  split at h
  · simp only [List.mem_cons, List.not_mem_nil, or_false] at h; omega
  split at h
  · simp only [List.mem_cons, List.not_mem_nil, or_false] at h; omega
  split at h
  · simp only [List.mem_cons, List.not_mem_nil, or_false] at h; omega
  split at h
  · simp only [List.mem_cons, List.not_mem_nil, or_false] at h; omega
  · simp at h
theorem rc_no {W H C D T : Int} {bs : List UInt8} (h : mayS W H C D = false) : rcA W H C D T bs = [] ∧ rcC W H C D bs = [] ∧ rcE W H C D T bs = 11 := by
  unfold rcA rcC rcE; simp [h]
theorem rc_alpha {W H C D T : Int} {bs : List UInt8} (h : mayS W H C D = true) (h3 : rc3 C T bs.length) : rcA W H C D T bs = alB bs ∧ rcC W H C D bs = [] ∧ rcE W H C D T bs = 0 := by
  have : ¬ rc2 C D bs := fun h' => by have := h3.1; have := h'.1; omega
  unfold rcA rcC rcE; simp [h, h3, this]
theorem rc_clear {W H C D T : Int} {bs : List UInt8} (h : mayS W H C D = true) (h2 : rc2 C D bs) : rcA W H C D T bs = [] ∧ rcC W H C D bs = prs bs (bs.length / 2) ∧ rcE W H C D T bs = 0 := by
  have : ¬ rc3 C T bs.length := fun h' => by have := h'.1; have := h2.1; omega
  unfold rcA rcC rcE; simp [h, h2, this]
theorem rc_bad {W H C D T : Int} {bs : List UInt8} (h : mayS W H C D = true) (h3 : ¬ rc3 C T bs.length) (h2 : ¬ rc2 C D bs) : rcA W H C D T bs = [] ∧ rcC W H C D bs = [] ∧ rcE W H C D T bs = 12 := by
  unfold rcA rcC rcE; simp [h, h2, h3]
def slLn : Value → Nat | .slice _ n _ => n | _ => 0
theorem prs_all (bs : List UInt8) (m : Nat) (h0 : 0 < m) (d : Nat) : (∀ v ∈ prs bs m, v < 2 ^ d) ↔ ¬ (mxL (prs bs m) / 2 ^ d > 0) := by
  obtain ⟨h1, h2⟩ := mxL_spec (prs bs m) (by rw [prs_length]; exact h0)
  have hp : (0 : Int) < 2 ^ d := Int.pow_pos (by decide)
  have hq : mxL (prs bs m) / 2 ^ d > 0 ↔ 2 ^ d ≤ mxL (prs bs m) := by
    have := Int.le_ediv_iff_mul_le (a := 1) (b := mxL (prs bs m)) hp
    rw [Int.one_mul] at this
    constructor <;> intro h <;> omega
  constructor
  · intro h h'
    have := h _ h1
    have := hq.1 h'
    omega
  · intro h v hv
    have := h2 v hv
    by_cases hlt : v < 2 ^ d
    · exact hlt
    · exact absurd (hq.2 (by omega)) h
/-- What a call leaves behind. -/
def RcPost (W H C D T : Int) (bs : List UInt8) (w : World) (e : Ending) (w' : World) : Prop :=
  ∃ v1 v2, e = .returned (.tuple #[v1, v2, .int .i64 (rcE W H C D T bs)]) ∧ New II w w' v1 (rcA W H C D T bs) ∧ New II w w' v2 (rcC W H C D bs)
theorem RcPost.bad {W H C D T : Int} {bs : List UInt8} {w w' : World} {e : Ending} {er : Int} (h : rcA W H C D T bs = [] ∧ rcC W H C D bs = [] ∧ rcE W H C D T bs = er) (he : e = .returned (.tuple #[.slice none 0 0, .slice none 0 0, .int .i64 er])) (hf : Fr No w w') : RcPost W H C D T bs w e w' := by
  unfold RcPost
  rw [h.1, h.2.1, h.2.2]
  exact ⟨_, _, he, ⟨NewR.nil, hf⟩, ⟨NewR.nil, hf⟩⟩

set_option maxRecDepth 100000 in
set_option maxHeartbeats 3200000 in
theorem readClear_calls (W H C D : Int) (L : Bool) (T : Int) (A : Option Addr) (bs : List UInt8) (n c : Nat) (hn : bs.length = n) (w : World) (hr : Rd B w A bs) (hl : n ≤ 17592186043904) :
    Calls Try.prog 35 #[headV W H C D L, .int .i64 T, .slice A n c] w (RcPost W H C D T bs w) := by
  have HR := hid (And.intro hn hr)
  clear hn hr
  cases hm : mayS W H C D with
  | false =>
    have HS := hid (rc_no (T := T) (bs := bs) hm)
    unfold headV
    go_enter Try.func35, Try.ntmps35
    go_wp2_with (go_at_call 28; refine (may_calls W H C D L _).mono ?_; rw [hm]; rintro e w1 ⟨rfl, hf1⟩)
    go_ret3
    exact RcPost.bad HS.out rfl (((Fr.refl No w).alloc _).then hf1)
  | true =>
    obtain ⟨hC, hD1, hD2⟩ := may_facts hm
    have HM := hid hm
    unfold headV
    go_enter Try.func35, Try.ntmps35
    go_wp2_with fail
    refine (may_calls W H C D L _).mono ?_
    rw [hm]
    rintro e w1 ⟨rfl, hf1⟩
    obtain ⟨g, hgg⟩ : ∃ g, g = w.heap.size := ⟨_, rfl⟩
    obtain ⟨c0, c1, c2, c3, c4, _⟩ := blk5 ((hf1.block w.heap.size (by rw [World.size_alloc]; omega) (fun h => h)).trans (heap_new _ _))
    rw [← hgg] at c0 c1 c2 c3 c4 ⊢
    have hg1 : g < w1.heap.size := lt_of_cell c0
    have HF := hid (And.intro (((Fr.refl No w).alloc _).then hf1) hgg)
    clear hf1 hgg c0 c1 c4 hm
    by_cases h3 : C = 3
    · subst h3
      by_cases hT : 0 < n ∧ (n : Int) ≤ T
      · have HS := hid (rc_alpha (W := W) (H := H) (T := T) (bs := bs) HM.out ⟨rfl, by rw [HR.out.1]; exact hT.1, by rw [HR.out.1]; exact hT.2⟩)
        obtain ⟨hT1, hT2⟩ := hT
        have hT3 : (n : Int) > 0 := by omega
        clear hC
        go_wp2_with fail
        go_loopw [6, 33] (fun v i wr => ∃ (k : Nat) (A1 : Option Addr) (c1 : Nat) (ob1 : Option Nat), k ≤ n ∧ i = .int .i64 k ∧ v = .slice A1 k c1 ∧
            Row wr 1 (.slice A1 k c1) ob1 k ((alB (bs.take k)).map II) ∧ (∀ q, ob1 = some q → w1.heap.size ≤ q) ∧ Fr No w1 wr)
          (fun _ i _ => n - (intOf i).toNat)
        case atStart => exact ⟨0, none, 0, none, by omega, rfl, rfl, Row.nil _ _, fun _ h => (by cases h), (Fr.refl _ _)⟩
        case round =>
          obtain ⟨k, A1, c1, ob1, hk, rfl, rfl, h1, h2, h3⟩ := hrel
          have HREL := hid (And.intro h1 (And.intro h2 h3))
          clear h1 h2 h3
          by_cases hlt : k < n
          · have hlt' : k < bs.length := by rw [HR.out.1]; exact hlt
            obtain ⟨ad, rfl, hcell⟩ : ∃ ad, A = some ad ∧ wr.cell? (ad.add k) = some (.int .u8 ((bs[k]).toNat : Int)) := by
              obtain ⟨ad, e, hc⟩ := ((HR.out.2.fr0 HF.out.1).fr0 HREL.out.2.2) (by omega)
              exact ⟨ad, e, hc k hlt'⟩
            have hst : (alB (bs.take (k + 1))).map II = (alB (bs.take k)).map II ++ [.int .i64 ((bs[k]).toNat : Int)] := by rw [alB_take _ _ hlt', List.map_append]; rfl
            have hx256 := B_lt bs[k]
            obtain ⟨x, hx⟩ : ∃ x : Int, x = ((bs[k]).toNat : Int) := ⟨_, rfl⟩
            rw [← hx] at hcell hst hx256
            have hw : IntKind.i64.wrap x = x := w64 x (by omega) (by omega)
            have HS2 := hid hst
            clear hst hx
            go_wp2_with (at_builtin; refine wpList_app1 slII rfl (.tmp 37) (.tmp 40) rfl rfl HREL.out.1 rfl (m := 1) (c := 1) (ys := [.int .i64 x]) rfl (by simp [Value.oneCell']) (by omega) (by omega) ?_; intro A2 c2 w2 ob2 hrow2 hfr2 hob2)
            go_roundw
            case rel =>
              rw [← HS2.out] at hrow2
              have := HREL.out.2.2.size
              refine ⟨k + 1, A2, c2, ob2, by omega, by go_num, rfl, hrow2, fun q hq => ?_, HREL.out.2.2.fresh hfr2 HREL.out.2.1⟩
              rcases hob2 with h | ⟨j, h, hj⟩
              · exact HREL.out.2.1 q (by rw [← h]; exact hq)
              · rw [h] at hq; injection hq with hq; omega
            case measure => simp [intOf] <;> omega
          · obtain rfl : n = k := by omega
            clear hlt
            have h1 := HREL.out.1
            rw [List.take_of_length_le (by rw [HR.out.1]; exact Nat.le_refl _)] at h1
            have HO := hid (And.intro h1 (And.intro HREL.out.2.1 HREL.out.2.2))
            clear h1
            go_wp2_with fail
            go_ret3
            have hsz := HF.out.1.size
            unfold RcPost
            rw [HS.out.1, HS.out.2.1, HS.out.2.2]
            exact ⟨_, _, rfl, New.mk' rfl (by rw [alB_length, HR.out.1]) HO.out.1 (fun q hq => Nat.le_trans hsz (HO.out.2.1 q hq)) (HF.out.1.then HO.out.2.2), NewR.nil, HF.out.1.then HO.out.2.2⟩
      · have HS := hid (rc_bad (W := W) (H := H) (T := T) (bs := bs) HM.out (fun h => hT (by have := h.2; rw [HR.out.1] at this; exact this)) (fun h => by have := h.1; omega))
        by_cases hn0 : n = 0
        · subst hn0
          clear hT hC
          go_wp2_with fail
          go_ret3
          exact RcPost.bad HS.out rfl HF.out.1
        · have hb1 : (n : Int) > 0 := by omega
          have hb2 : ¬ ((n : Int) ≤ T) := by omega
          clear hT hC hn0
          go_wp2_with fail
          go_ret3
          exact RcPost.bad HS.out rfl HF.out.1
    · have hb3 : (C == 3) = false := by simpa using h3
      by_cases h2 : C > 2
      · have HS := hid (rc_bad (W := W) (H := H) (T := T) (bs := bs) HM.out (fun h => h3 h.1) (fun h => by have := h.1; omega))
        clear h3 hC
        go_wp2_with fail
        go_ret3
        exact RcPost.bad HS.out rfl HF.out.1
      · have hC02 : C = 0 ∨ C = 2 := by omega
        clear hC
        obtain ⟨m, hm2, hm0, hm4⟩ : ∃ m : Nat, 2 * samS C = 2 * (m : Int) ∧ 0 < m ∧ m ≤ 3 := by
          rcases hC02 with rfl | rfl
          · exact ⟨1, by decide, by omega, by omega⟩
          · exact ⟨3, by decide, by omega, by omega⟩
        by_cases hnm : n = 2 * m
        · subst hnm
          obtain ⟨d, rfl⟩ : ∃ d : Nat, D = d := ⟨D.toNat, by omega⟩
          have hlen := HR.out.1
          have hdiv : bs.length / 2 = m := by omega
          have hbn : (((2 * m : Nat) : Int) != 2 * samS C) = false := by rw [hm2]; simp
          have hw : wrap64 (2 * samS C) = 2 * samS C := by rw [hm2]; unfold wrap64; omega
          have hS : samS C = m := by omega
          have HS : Hid ((mxL (prs bs m) / 2 ^ d > 0 → rcA W H C d T bs = [] ∧ rcC W H C d bs = [] ∧ rcE W H C d T bs = 12) ∧ (¬ (mxL (prs bs m) / 2 ^ d > 0) → rcA W H C d T bs = [] ∧ rcC W H C d bs = prs bs m ∧ rcE W H C d T bs = 0)) := by
            refine ⟨fun h => rc_bad HM.out (fun h => h3 h.1) (fun h' => (prs_all bs m hm0 d).1 (by have := h'.2.2; rw [hdiv] at this; exact this) h), fun h => ?_⟩
            have := rc_clear (W := W) (H := H) (T := T) (bs := bs) HM.out (D := d) ⟨hC02, by rw [hlen, hm2]; omega, by rw [hdiv]; exact (prs_all bs m hm0 d).2 h⟩
            rwa [hdiv] at this
          have HQ := hid hS
          clear h3 hC02 hlen hdiv
          go_wp2_with fail
          refine (samples_calls C _).mono ?_
          rintro e w2 ⟨rfl, hf2⟩
          have c3' := (hf2.cellg g 3 hg1 (fun h => h)).trans c3
          have hg2 : g < w2.heap.size := by have := hf2.size; omega
          have HF2 := hid (HF.out.1.then hf2)
          clear hf2 hm2 c2 c3
          go_wp2_with fail
          refine (new_calls A bs _ c HR.out.1 _ (HR.out.2.fr0 HF2.out) (by rw [HR.out.1]; omega)).mono ?_
          rintro e w3 ⟨g3, rfl, hc3, hf3⟩
          have hg3 : w2.heap.size ≤ g3 := hc3.gl
          have hgu : g3 < w3.heap.size := hc3.gu
          have c3 := (hf3.cellg g 3 hg2 (fun h => h)).trans c3'
          have HC := hid (And.intro hc3 (And.intro (HF2.out.then hf3) HF2.out.size))
          clear hc3 hf3 c3' hw hbn
          go_wp2_with fail
          go_loopw [7] (fun v wr => ∃ (k : Nat) (A1 : Option Addr) (c1 : Nat) (ob1 : Option Nat), k ≤ m ∧ v = .slice A1 k c1 ∧
              Row wr 1 (.slice A1 k c1) ob1 k ((prs bs k).map II) ∧ (∀ q, ob1 = some q → w3.heap.size ≤ q) ∧ Cur w2.heap.size w3.heap.size wr g3 bs (2 * k) 0 ∧ Fr No w wr ∧ wr.cell? ⟨g, 3, none⟩ = some (.int .i64 d) ∧ w3.heap.size ≤ wr.heap.size)
            (fun v _ => m - slLn v)
          case atStart => exact ⟨0, none, 0, none, by omega, rfl, Row.nil _ _, fun _ h => (by cases h), HC.out.1, HC.out.2.1, c3, Nat.le_refl _⟩
          case round =>
            obtain ⟨k, A1, c1, ob1, hk, rfl, h1, h2, h3, h4, h5, h6⟩ := hrel
            have HREL := hid (And.intro h1 (And.intro h2 (And.intro h3 (And.intro h4 (And.intro h5 h6)))))
            clear h1 h2 h3 h4 h5 h6
            have hleft : leftS bs (2 * k) 0 = ((2 * m - 2 * k : Nat) : Int) := by unfold leftS; rw [if_pos rfl, HR.out.1]
            go_wp2_with fail
            refine (left_calls _ _ _ _ _ HREL.out.2.2.1).mono ?_
            rw [hleft]
            rintro e w' ⟨rfl, nq, rfl⟩
            by_cases hlt : k < m
            · have hgt : ((2 * m - 2 * k : Nat) : Int) > 0 := by omega
              obtain ⟨x1, x2, x3⟩ := num_ok bs (2 * k) 2 (by omega) (by omega) (by rw [HR.out.1]; omega)
              have x1' : numB bs (2 * k) 0 2 = _ := x1
              have x2' : numP bs (2 * k) 0 2 = _ := x2
              have x3' : numE bs (2 * k) 0 2 = _ := x3
              have hst : (prs bs (k + 1)).map II = (prs bs k).map II ++ [.int .i64 ((be ((bs.drop (2 * k)).take 2) : Nat) : Int)] := by rw [prs_succ, List.map_append]; rfl
              obtain ⟨x, hx⟩ : ∃ x : Nat, x = be ((bs.drop (2 * k)).take 2) := ⟨_, rfl⟩
              rw [← hx] at x1' hst
              have HX := hid (And.intro x1' (And.intro x2' (And.intro x3' hst)))
              clear x1 x2 x3 x1' x2' x3' hst hx hleft
              go_wp2_with fail
              refine (cbig_calls _ _ _ _ _ 2 (HREL.out.2.2.1.drewN _)).mono ?_
              rw [HX.out.1, HX.out.2.1, HX.out.2.2.1]
              rintro e w4 ⟨rfl, hc4, hf4⟩
              have hne : ∀ q, ob1 = some q → ¬ One g3 q := fun q hq e => by have e : q = g3 := e; have := HREL.out.2.1 q hq; omega
              have HW := hid (And.intro hc4 (And.intro hf4 hne))
              clear hc4 hf4 hne
              go_wp2_with (at_builtin; refine wpList_app1 slII rfl (.tmp 62) (.tmp 65) rfl rfl ((HREL.out.1.drewN _).fr HW.out.2.1 HW.out.2.2) rfl (m := 1) (c := 1) (ys := [.int .i64 (x : Int)]) rfl (by simp [Value.oneCell']) (by omega) (by omega) ?_; intro A5 c5 w5 ob5 hrow5 hf5 hob5)
              go_roundw
              case rel =>
                rw [← HX.out.2.2.2] at hrow5
                have hs4 : wr.heap.size ≤ w4.heap.size := HW.out.2.1.size
                have hs5 := hf5.size
                have hs6 := HREL.out.2.2.2.2.2
                have hob1 := HREL.out.2.1
                have hgs : g < w2.heap.size := hg2
                refine ⟨k + 1, A5, c5, ob5, by omega, rfl, hrow5, fun q hq => ?_, ?_, ?_, ?_, by omega⟩
                · rcases hob5 with h | ⟨j, h, hj⟩
                  · exact hob1 q (by rw [← h]; exact hq)
                  · rw [h] at hq; injection hq with hq; omega
                · have := HW.out.1.fr hf5 (fun q _ hq e => by have := hob1 q e.symm; omega)
                  rwa [show 2 * k + 2 = 2 * (k + 1) by omega] at this
                · refine (HREL.out.2.2.2.1.trans (((Fr.refl (One g3) wr).drewN nq).then HW.out.2.1) (fun q hq e => ?_)).fresh hf5 (fun q hq => ?_)
                  · have e : q = g3 := e
                    have := HC.out.2.2
                    omega
                  · have := hob1 q hq
                    have := HC.out.2.1.size
                    omega
                · rw [hf5.cellg g 3 (by omega) (fun e => by have := hob1 g e.symm; omega)]
                  exact (HW.out.2.1.cellg g 3 (by show g < wr.heap.size; omega) (fun e => by have e : g = g3 := e; omega)).trans HREL.out.2.2.2.2.1
              case measure => simp [slLn] <;> omega
            · obtain rfl : m = k := by omega
              have hgt : ¬ (((2 * m - 2 * m : Nat) : Int) > 0) := by omega
              have hcD : (wr.drewN nq).cell? ⟨g, 3, none⟩ = some (.int .i64 (d : Int)) := HREL.out.2.2.2.2.1
              have hwd : IntKind.u64.wrap (d : Int) = (d : Int) := by rw [IntKind.wrap_u64]; omega
              have hd0 : (0 : Int) ≤ (d : Int) := by omega
              have hd1 : (d : Int) ≤ 64 := by omega
              have hR := HREL.out.1.rd
              have HR2 := hid (And.intro (HREL.out.1.drewN nq) (And.intro HREL.out.2.1 (And.intro (HREL.out.2.2.2.1.drewN nq) (And.intro (hR.1.drewN nq) hR.2.2.2))))
              obtain ⟨M, hM⟩ : ∃ M, M = mxL (prs bs m) := ⟨_, rfl⟩
              rw [← hM] at HS
              have HM2 := hid hM
              have HMax : ∀ W, Rd II W A1 (prs bs m) → Calls Try.prog 60 #[.slice A1 m c1] W fun e w' => e = .returned (.int .i64 M) ∧ w' = W := fun W hr => by rw [HM2.out]; exact max_calls _ _ _ _ HR2.out.2.2.2.2 hm0 _ hr (by omega)
              clear hR hM hleft hlt
              generalize wr.drewN nq = wz at hcD HR2 ⊢
              clear HREL
              by_cases hbig : M / 2 ^ d > 0
              · have HB := hid (HS.out.1 (by simpa using hbig))
                go_wp2_with fail
                go_quiet ((go_at_call 60; exact Calls.quiet_of_same (HMax _ (HR2.out.2.2.2.1.drewN _))))
                go_wp2_with fail
                go_ret3
                exact RcPost.bad HB.out rfl (HR2.out.2.2.1.drewN _)
              · have HB := hid (HS.out.2 (by simpa using hbig))
                go_wp2_with fail
                go_quiet ((go_at_call 60; exact Calls.quiet_of_same (HMax _ (HR2.out.2.2.2.1.drewN _))))
                go_wp2_with fail
                go_ret3
                unfold RcPost
                rw [HB.out.1, HB.out.2.1, HB.out.2.2]
                have := HC.out.2.1.size
                exact ⟨_, _, rfl, ⟨NewR.nil, HR2.out.2.2.1.drewN _⟩, New.mk' rfl (prs_length _ _) (HR2.out.1.drewN _) (fun q hq => Nat.le_trans this (HR2.out.2.1 q hq)) (HR2.out.2.2.1.drewN _)⟩
        · have hnn : (n : Int) ≠ 2 * samS C := by omega
          have HS := hid (rc_bad (W := W) (H := H) (T := T) (bs := bs) HM.out (fun h => h3 h.1) (fun h => hnn (by rw [← HR.out.1]; exact h.2.1))
          )
          have hbn : ((n : Int) != 2 * samS C) = true := by rw [bne_iff_ne]; exact hnn
          have hw : wrap64 (2 * samS C) = 2 * samS C := by rw [hm2]; unfold wrap64; omega
          clear h3 hC02 hnm hm2 hnn
          go_wp2_with (go_at_call 30; refine (samples_calls C _).mono ?_; rintro e w2 ⟨rfl, hf2⟩)
          go_ret3
          exact RcPost.bad HS.out rfl (HF.out.1.then hf2)
end Go.Proofs.Ytkhglmmidgfliaa

/- The walk of BitsBack. -/
import Derived.Test.YtjmgffiplkkgpaaBLaw
import Derived.Test.YtjmgffiplkkgpaaBBackP
import Derived.Deep.DeepCutAuto
import Derived.Deep.CutBlock
namespace Go.Proofs.Ytjmgffiplkkgpaa
open Go.RowKit Go.Proofs.HK
set_option linter.unusedVariables false
set_option linter.unusedSimpArgs false
attribute [local go_sem] max2_int min2_int max_two min_two

theorem wrap_eq (z : Int) : IntKind.i64.wrap z = wrap64 z := by rw [IntKind.wrap_i64]; unfold wrap64; omega
theorem rb {a : Bool} (h : a = true) : Ending.returned (.bool a) = .returned (.bool true) := by rw [h]
theorem cell_new (w : World) (cs : Array Value) (t : TypeId) (i : Nat) (v : Value) (h : cs[i]? = some v) : (w.alloc (.cells cs t)).cell? ⟨w.heap.size, i, none⟩ = some v := by
  obtain ⟨W, hW⟩ : ∃ W, W = w.alloc (.cells cs t) := ⟨_, rfl⟩
  have hb : W.heap[w.heap.size]? = some (.cells cs t (0, 0)) := by rw [hW]; exact heap_new _ _
  rw [← hW]
  simp [World.cell?, hb, h]
/-- What is put, in its cells. -/
def PutK (_ : World) (x : PutT) (es : List Value) : Prop := es = [.int .i64 x.1, .int .i64 x.2.1, .bool x.2.2.1] ∧ -9223372036854775808 ≤ x.1 ∧ x.1 ≤ 9223372036854775807
theorem PutK.at {w wr : World} {A : Option Addr} {xs : List PutT} {n c : Nat} (h : SlM PutK 3 24 w A xs n c) (hf : Fr No w wr) (k : Nat) (hk : k < xs.length) :
    ∃ ad v n al, A = some ad ∧ xs[k] = (v, n, al, ()) ∧ -9223372036854775808 ≤ v ∧ v ≤ 9223372036854775807 ∧ wr.cell? (ad.add (k * 3)) = some (.int .i64 v) ∧
      wr.cell? ⟨(ad.add (k * 3)).block, (ad.add (k * 3)).off + 1, none⟩ = some (.int .i64 n) ∧ wr.cell? ⟨(ad.add (k * 3)).block, (ad.add (k * 3)).off + 2, none⟩ = some (.bool al) := by
  obtain ⟨ad, es, hA', _, hcells, hes, h1, h2⟩ := h.at_ k hk
  obtain ⟨x, hx⟩ : ∃ x, x = xs[k] := ⟨_, rfl⟩
  rw [← hx] at hes h1 h2
  obtain ⟨v, n, al, _⟩ := x
  simp only at hes h1 h2
  subst hes
  have q0 := hcells 0 (by omega)
  have q1 := hcells 1 (by omega)
  have q2 := hcells 2 (by omega)
  simp only [Nat.add_zero, List.getElem?_cons_zero, List.getElem?_cons_succ] at q0 q1 q2
  have hwc : ∀ (a : Addr) (v : Value), w.cell? a = some v → wr.cell? a = some v := fun a v h => (hf.cell (lt_of_cell h) (fun h => h)).trans h
  exact ⟨ad, v, n, al, hA', hx.symm, h1, h2, hwc _ _ q0, cellAt (j := 0) (hwc _ _ q1), cellAt (j := 1) (hwc _ _ q2)⟩

set_option maxRecDepth 100000 in
set_option maxHeartbeats 1600000 in
theorem bitsBack_walk (A : Option Addr) (xs : List PutT) (n1 c : Nat) (w : World) (s0 : SlM PutK 3 24 w A xs n1 c) :
    Calls Try.prog 11 #[.slice A n1 c] w fun e w' => e = .returned (.bool true) ∧ Fr No w w' := by
  have hlc := s0.cap
  have HR := hid (And.intro s0.len s0)
  clear s0
  by_cases g0 : 500 < n1
  · go_enter Try.func11, Try.ntmps11
    go_wp2_with (go_at_call 19; refine (fixed1_calls _).mono ?_; rintro e w1 ⟨rfl, hf1⟩; have HF := hid hf1; clear hf1)
    go_ret
    exact ⟨rfl, HF.out⟩
  have g0' : n1 ≤ 500 := by omega
  clear g0
  go_enter Try.func11, Try.ntmps11
  go_wp2_with (go_at_call 19; refine (fixed1_calls _).mono ?_; rintro e w1 ⟨rfl, hf1⟩; have HF := hid hf1; clear hf1)
  refine (nw_calls _).mono ?_
  rintro e w2 ⟨gw, rfl, hgw, hwr, hf⟩
  have hs1 := HF.out.size
  have HA := hid (And.intro hwr (HF.out.then hf))
  clear hwr hf HF
  go_wp2_with fail
  go_loopw [20] (fun i wr => ∃ (k : Nat) (ob : Option Nat), k ≤ n1 ∧ i = .int .i64 k ∧ WrV wr gw ob (wrun (0, 0) (xs.take k)).1 (wrun (0, 0) (xs.take k)).2 ∧ (∀ q, ob = some q → w.heap.size ≤ q) ∧ Fr No w wr) (fun i _ => n1 - (intOf i).toNat)
  case atStart => exact ⟨0, none, by omega, rfl, HA.out.1, fun _ h => (by cases h), HA.out.2⟩
  case round =>
    obtain ⟨k, ob, hk, rfl, h1, h2, h3⟩ := hrel
    have HREL := hid (And.intro h1 (And.intro h2 h3))
    clear h1 h2 h3 HA
    by_cases hlt : k < n1
    · obtain ⟨ad, v, n, al, rfl, hx, hv1, hv2, q0, q1, q2⟩ := PutK.at HR.out.2 HREL.out.2.2 k (by rw [HR.out.1]; exact hlt)
      have hT := (wrun_T (xs.take k) (0, 0)).2
      rw [List.length_take, HR.out.1] at hT
      have hT' : (wrun (0, 0) (xs.take k)).2 ≤ 32 * 500 := by show _ ≤ _; simp only [Nat.zero_add] at hT; omega
      have HT := hid hT'
      have hstep := wrun_snoc (0, 0) xs k (by rw [HR.out.1]; exact hlt)
      rw [hx] at hstep
      have HS := hid hstep
      clear hT hT' hx hstep
      have hgwl := HREL.out.1.lt
      cases al with
      | true =>
        go_wp2_with fail
        refine (walign_calls _ _ _ _ _ (HREL.out.1.fr (S := No) ((Fr.refl _ _).alloc _) (fun h => h) (fun _ _ h => h)) (by have := HT.out; omega)).mono ?_
        rintro e w3 ⟨rfl, hw3, hf3⟩
        have HE := hid (And.intro hw3 (And.intro HREL.out.2.1 ((HREL.out.2.2.alloc _).trans hf3 (fun q hq (e : q = gw) => by omega))))
        clear hw3 hf3
        go_wp2_with fail
        go_roundw
        case rel =>
          refine ⟨k + 1, ob, by omega, by go_num, ?_, HE.out.2⟩
          rw [HS.out]
          exact HE.out.1
        case measure => simp [intOf] <;> omega
      | false =>
        go_wp2_with fail
        refine (put_calls _ _ _ _ _ (HREL.out.1.fr (S := No) ((Fr.refl _ _).alloc _) (fun h => h) (fun _ _ h => h)) v n ⟨hv1, hv2⟩ (by have := HT.out; omega)).mono ?_
        rintro e w3 ⟨rfl, ob3, hw3, hob3, hf3⟩
        have HE := hid (And.intro hw3 (And.intro (ob_ge (m := w.heap.size) hob3 HREL.out.2.1 (by have := HREL.out.2.2.size; simp; omega)) ((HREL.out.2.2.alloc _).trans hf3 (fun q hq e => by have := RF.ge (m := w.heap.size) e (by omega) HREL.out.2.1; omega))))
        clear hw3 hf3 hob3
        go_wp2_with fail
        go_roundw
        case rel =>
          refine ⟨k + 1, ob3, by omega, by go_num, ?_, HE.out.2⟩
          rw [HS.out]
          exact HE.out.1
        case measure => simp [intOf] <;> omega
    · obtain rfl : n1 = k := by omega
      clear hlt
      obtain ⟨Vn, hVn⟩ : ∃ Vn, Vn = (wrun (0, 0) xs).1 := ⟨_, rfl⟩
      obtain ⟨Tn, hTn⟩ : ∃ Tn, Tn = (wrun (0, 0) xs).2 := ⟨_, rfl⟩
      have hTle : Tn ≤ 32 * 500 := by
        have := (wrun_T xs (0, 0)).2
        rw [HR.out.1, ← hTn] at this
        simp only [Nat.zero_add] at this
        omega
      have h1 := HREL.out.1
      rw [List.take_of_length_le (by rw [HR.out.1]; exact Nat.le_refl _), ← hVn, ← hTn] at h1
      have HW := hid (And.intro h1 HREL.out.2)
      have HVT := hid (And.intro hVn hTn)
      clear h1 HREL hVn hTn
      go_wp2_with fail
      refine (bnew_calls _).mono ?_
      rintro e w3 ⟨gr, rfl, hgr, hr, hf⟩
      have hs3 := HW.out.2.2.size
      have HA := hid (And.intro hr (And.intro (HW.out.1.fr hf (fun h => h) (fun _ _ h => h)) (HW.out.2.2.then hf)))
      clear hr hf HW
      go_wp2_with fail
      refine (out_calls _ _ _ _ _ HA.out.2.1).mono ?_
      rintro e w4 ⟨x, bs, rfl, hnew, hl4, hv4⟩
      obtain ⟨A4, n4, c4, rfl, N4⟩ := hnew.use
      have HB := hid (And.intro hl4 hv4)
      clear hnew hl4 hv4
      go_wp2_with fail
      have hgr3 := HA.out.1.lt
      refine (feed_calls _ _ _ _ _ (HA.out.1.fr N4.out.2.2.2.1 (fun h => h) (fun _ _ h => h)) _ bs _ _ N4.out.1 N4.out.2.1 (by have := N4.out.1; have := HB.out.1; omega)).mono ?_
      obtain ⟨L, hL⟩ : ∃ L, L = (Tn + 7) / 8 := ⟨_, rfl⟩
      rw [show 0 + 2 ^ 0 * le bs = Vn by rw [HB.out.2]; omega, show 0 + 8 * n4 = 8 * L by have := N4.out.1; have := HB.out.1; omega]
      rintro e w5 ⟨rfl, ob5, hr5, hob5, hf5⟩
      have hs34 := N4.out.2.2.2.1.size
      have hob5' : ∀ q, ob5 = some q → w.heap.size ≤ q := ob_ge hob5 (fun _ h => (by cases h)) (by omega)
      have hf5' : Fr No w w5 := (HA.out.2.2.then N4.out.2.2.2.1).trans hf5 (fun q hq e => by have := RF.none e; omega)
      have HC := hid (And.intro hr5 (And.intro hob5' hf5'))
      clear hr5 hob5 hob5' hf5 hf5' HA N4 HB
      go_wp2_with fail
      go_loopw [42] (fun i wr => ∃ (k : Nat), k ≤ n1 ∧ i = .int .i64 k ∧ RdV wr gr ob5 (Vn / 2 ^ (wrun (0, 0) (xs.take k)).2) (8 * L - (wrun (0, 0) (xs.take k)).2) ∧ Fr No w wr) (fun i _ => n1 - (intOf i).toNat)
      case atStart => exact ⟨0, by omega, rfl, by simpa [wrun] using HC.out.1, HC.out.2.2⟩
      case round =>
        obtain ⟨k, hk, rfl, h1, h2⟩ := hrel
        have HREL := hid (And.intro h1 h2)
        clear h1 h2
        by_cases hlt : k < n1
        · obtain ⟨ad, v, n, al, rfl, hx, hv1, hv2, q0, q1, q2⟩ := PutK.at HR.out.2 HREL.out.2 k (by rw [HR.out.1]; exact hlt)
          have hstep := wrun_snoc (0, 0) xs k (by rw [HR.out.1]; exact hlt)
          rw [hx] at hstep
          have hle1 : (wrun (0, 0) (xs.take (k + 1))).2 ≤ Tn := by
            have := (wrun_T (xs.drop (k + 1)) (wrun (0, 0) (xs.take (k + 1)))).1
            rwa [← wrun_split, ← HVT.out.2] at this
          obtain ⟨Tk, hTk⟩ : ∃ Tk, Tk = (wrun (0, 0) (xs.take k)).2 := ⟨_, rfl⟩
          have HX := hid (And.intro hx (And.intro hstep (And.intro hle1 hTk)))
          have HREL2 := HREL
          rw [← hTk] at HREL2
          clear HREL hx hstep hle1 hTk
          have hgrl := HREL2.out.1.lt
          cases al with
          | true =>
            go_wp2_with fail
            refine (ralign_calls _ _ _ _ _ (HREL2.out.1.fr (S := No) ((Fr.refl _ _).alloc _) (fun h => h) (fun _ _ h => h))).mono ?_
            rintro e w6 ⟨rfl, hr6, hf6⟩
            have e1 : (wrun (0, 0) (xs.take (k + 1))).2 = 8 * ((Tk + 7) / 8) := by rw [HX.out.2.1, HX.out.2.2.2]; rfl
            have hl1 := HX.out.2.2.1
            rw [e1] at hl1
            rw [Nat.div_div_eq_div_mul, ← Nat.pow_add, show Tk + (8 * L - Tk) % 8 = 8 * ((Tk + 7) / 8) by omega, show 8 * L - Tk - (8 * L - Tk) % 8 = 8 * L - 8 * ((Tk + 7) / 8) by omega, ← e1] at hr6
            have HE := hid (And.intro hr6 ((HREL2.out.2.alloc _).trans hf6 (fun q hq (e : q = gr) => by omega)))
            clear hr6 hf6 e1 hl1
            go_wp2_with fail
            go_roundw
            case rel => exact ⟨k + 1, by omega, by go_num, HE.out⟩
            case measure => simp [intOf] <;> omega
          | false =>
            obtain ⟨m, hm⟩ : ∃ m, m = low32 n := ⟨_, rfl⟩
            have e1 : (wrun (0, 0) (xs.take (k + 1))).2 = Tk + m := by rw [HX.out.2.1, HX.out.2.2.2, hm]; rfl
            have hl1 := HX.out.2.2.1
            rw [e1] at hl1
            have hval : (((Vn / 2 ^ Tk % 2 ^ m : Nat)) : Int) = v % 2 ^ m := by
              have := wrun_take xs k (by rw [HR.out.1]; exact hlt) (by rw [HX.out.1])
              rw [HX.out.1, ← HVT.out.1, ← HX.out.2.2.2] at this
              rw [hm]
              rw [this]
              exact Int.toNat_of_nonneg (Int.emod_nonneg _ (by have : (0 : Int) < 2 ^ low32 n := Int.pow_pos (by decide); omega))
            have hmx : mx 0 (mn n 32) = (m : Int) := by rw [hm, mx_eq, mn_eq]; unfold low32; omega
            have hm32 : m ≤ 32 := by rw [hm]; exact low32_le n
            have hmask : bits .and .i64 v (wrap64 (wrap64 (2 ^ m) - 1)) = v % 2 ^ m := by
              have := andmask v m hm32
              rwa [wrap_eq, wrap_eq] at this
            have HE1 := hid (And.intro e1 hl1)
            have HM := hid hm
            have hmT : m ≤ 8 * L - Tk := by omega
            clear hm e1 hl1
            go_wp2_with fail
            refine (take_calls _ _ _ _ _ (HREL2.out.1.fr (S := No) ((Fr.refl _ _).alloc _) (fun h => h) (fun _ _ h => h)) m hm32 hmT).mono ?_
            rw [hval, Nat.div_div_eq_div_mul, ← Nat.pow_add, Nat.sub_sub, ← HE1.out.1]
            rintro e w6 ⟨rfl, hr6, hf6⟩
            have c0 : w6.cell? ⟨wr.heap.size, 0, none⟩ = some (.int .i64 v) := (hf6.cellg _ 0 (by simp) (fun (e : wr.heap.size = gr) => by omega)).trans (cell_new _ _ _ 0 _ rfl)
            have HE := hid (And.intro hr6 ((HREL2.out.2.alloc _).trans hf6 (fun q hq (e : q = gr) => by omega)))
            clear hr6 hf6 hval
            go_wp2_with fail
            go_roundw
            case rel => exact ⟨k + 1, by omega, by go_num, HE.out⟩
            case measure => simp [intOf] <;> omega
        · obtain rfl : n1 = k := by omega
          clear hlt
          have h1 := HREL.out.1
          rw [List.take_of_length_le (by rw [HR.out.1]; exact Nat.le_refl _), ← HVT.out.2] at h1
          have HW := hid (And.intro h1 HREL.out.2)
          have h8 : 8 * L - Tn < 8 := by omega
          clear h1 HREL
          go_wp2_with fail
          refine (have_calls _ _ _ _ _ HW.out.1).mono ?_
          rintro e w6 ⟨rfl, k6, rfl⟩
          go_wp2_with fail
          go_ret
          exact ⟨rb (decide_eq_true (by omega)), HW.out.2.drewN _⟩
end Go.Proofs.Ytjmgffiplkkgpaa

/- The contracts of slices.Grow of nothing and of slices.Concat, for bytes. -/
import Derived.Test.YtamkfjbdcjkchaaDoorOct
import Derived.Lib.AppendZeros
namespace Go.Proofs.YtamkfjbdcjkchaaDoor
open Go.RowKit Go.Proofs.HK
set_option linter.unusedVariables false
set_option linter.unusedSimpArgs false

theorem Row.spare {W : World} {g c : Nat} (cs : Array Value) (e : TypeId) (hb : W.heap[g]? = some (.cells cs e (0, 0))) (hc : cs.size = c) (h : c ≤ 9223372036854775807) : Row W 1 (.slice (some ⟨g, 0, none⟩) 0 c) (some g) 0 [] := by
  refine ⟨rfl, by omega, .inr ⟨g, 0, c, rfl, rfl, by omega, (Array.getElem?_eq_some_iff.1 hb).1, fun j hj => ?_, fun j u hu => by simp at hu⟩⟩
  have hj' : j < cs.size := by omega
  constructor
  · simp [World.cell?, hb, hj']
  · simp [World.frozen?, hb]
set_option maxRecDepth 100000 in
theorem grow_nil_calls (m : Nat) (w : World) (hm : m ≤ 140737488355328) :
    Calls Tryd.prog 41 #[.slice none 0 0, .int .i64 m] w fun e w' => ∃ v, e = .returned v ∧ New B w w' v [] := by
  by_cases h0 : m = 0
  · subst h0
    go_enter Tryd.func41, Tryd.ntmps41
    go_wp2
    go_ret
    exact ⟨_, rfl, NewR.nil, Fr.refl _ _⟩
  · obtain ⟨i, z, hi, hz, h2, h3, h4⟩ := slU8.info
    have hr : ∀ ty, (Builtin.append_ #[22, 3] ty #[.slice none 0 0, .int .i64 (m : Int)]).run Tryd.prog w = _ := fun ty =>
      Lib.run_append_nil_zeros w 22 3 ty 5 i z .i64 .i64 slU8.und Tryd.underlying3 hi hz m (by omega) (by omega) (by omega) (by rw [h3]; omega)
    have hgc := grownCap_ge w m 0 5
    have hgu : grownCap w m 0 5 ≤ 9223372036854775807 := by have := grownCap_le_maxLen w m 0 5 (by unfold maxLen; omega); unfold maxLen at this; omega
    obtain ⟨gc, hgc'⟩ : ∃ gc, gc = grownCap w m 0 5 := ⟨_, rfl⟩
    rw [← hgc'] at hgc hgu hr
    obtain ⟨W, hW⟩ : ∃ W, W = w.drew.alloc (.cells (Builtin.zeroCells z.cells m ++ Builtin.zeroCells z.cells (gc - m)) 5) := ⟨_, rfl⟩
    rw [← hW] at hr
    have hrow : Row W 1 (.slice (some ⟨w.heap.size, 0, none⟩) 0 gc) (some w.heap.size) 0 [] := by
      refine Row.spare _ _ (by rw [hW]; exact heap_new w.drew _) ?_ hgu
      rw [Array.size_append, size_zeroCells, size_zeroCells, h4]; omega
    have hfr : Fr No w W := by rw [hW]; exact ((Fr.refl No w).drew).alloc _
    have hcut := cut_h slU8 (some ⟨w.heap.size, 0, none⟩) m gc 0 0 rfl (by omega)
    have hw1 : wrap64 (m : Int) = m := by unfold wrap64; omega
    have hw2 : IntKind.i64.wrap (m : Int) = m := by rw [IntKind.wrap_i64]; omega
    have HO := hid (And.intro hrow hfr)
    clear hrow hfr hW hgc' hi hz h2 h3 h4
    go_enter Tryd.func41, Tryd.ntmps41
    go_wp2_with (at_builtin; refine Lib.wpList_append_run _ rfl (.tmp 20) (.tmp 21) _ _ rfl _ _ rfl rfl _ _ (hr _) ?_)
    go_ret
    exact ⟨_, rfl, ⟨_, _, _, _, rfl, rfl, HO.out.1, fun k hk => by injection hk with hk; omega⟩, HO.out.2⟩

theorem flat_take (xss : List (List UInt8)) (k : Nat) (h : k < xss.length) : (xss.take (k + 1)).flatten = (xss.take k).flatten ++ xss[k] := by
  rw [List.take_succ_eq_append_getElem h, List.flatten_append]; simp
theorem flat_le (xss : List (List UInt8)) (k : Nat) : (xss.take k).flatten.length ≤ xss.flatten.length := by
  have : xss.flatten = (xss.take k).flatten ++ (xss.drop k).flatten := by rw [← List.flatten_append, List.take_append_drop]
  rw [this, List.length_append]; omega
/-- A slice of slices of bytes. -/
structure RdS (w : World) (A : Option Addr) (vs : List Value) (xss : List (List UInt8)) : Prop where
  len : xss.length = vs.length
  rd : Rd (fun v => v) w A vs
  each : ∀ i (h1 : i < vs.length) (h2 : i < xss.length), ∃ Ai ni ci, vs[i] = .slice Ai ni ci ∧ xss[i].length = ni ∧ Rd B w Ai xss[i]
theorem RdS.fr0 {w w1 : World} {A : Option Addr} {vs : List Value} {xss : List (List UInt8)} (h : RdS w A vs xss) (hf : Fr No w w1) : RdS w1 A vs xss :=
  ⟨h.len, h.rd.fr0 hf, fun i h1 h2 => by obtain ⟨Ai, ni, ci, e1, e2, e3⟩ := h.each i h1 h2; exact ⟨Ai, ni, ci, e1, e2, e3.fr0 hf⟩⟩
set_option maxRecDepth 100000 in
set_option maxHeartbeats 800000 in
theorem concat_calls (A : Option Addr) (n c : Nat) (vs : List Value) (xss : List (List UInt8)) (hn : vs.length = n) (w : World) (hx : RdS w A vs xss) (hb : xss.flatten.length ≤ 140737488355328) (hn' : n ≤ 140737488355328) :
    Calls Tryd.prog 28 #[.slice A n c] w fun e w' => ∃ v, e = .returned v ∧ New B w w' v xss.flatten := by
  have HX := hid (And.intro hn (And.intro hx hb))
  clear hn hx hb
  go_enter Tryd.func28, Tryd.ntmps28
  go_wp2_with fail
  go_loopw [3, 11] (fun s i wr => ∃ k S : Nat, k ≤ n ∧ i = .int .i64 k ∧ s = .int .i64 S ∧ S = (xss.take k).flatten.length ∧ w = wr) (fun _ i _ => n - (intOf i).toNat)
  case atStart => exact ⟨0, 0, by omega, rfl, rfl, rfl, rfl⟩
  case round =>
    obtain ⟨k, S, hk, rfl, rfl, hSS, rfl⟩ := hrel
    have HSS := hid hSS
    clear hSS
    by_cases hlt : k < n
    · have hk1 : k < vs.length := by rw [HX.out.1]; exact hlt
      have hk2 : k < xss.length := by rw [HX.out.2.1.len]; exact hk1
      obtain ⟨ad, rfl, hc⟩ : ∃ ad, A = some ad ∧ w.cell? (ad.add k) = some vs[k] := by
        obtain ⟨ad, e, hc⟩ := HX.out.2.1.rd (by omega)
        exact ⟨ad, e, hc k hk1⟩
      obtain ⟨Ai, ni, ci, e1, e2, e3⟩ := HX.out.2.1.each k hk1 hk2
      have hcell : _ = some (Value.slice Ai ni ci) := hc.trans (congrArg some e1)
      have hS := flat_take xss k hk2
      have hlen : (xss.take (k + 1)).flatten.length = (xss.take k).flatten.length + ni := by rw [hS, List.length_append, e2]
      have hle := flat_le xss (k + 1)
      have hbb := HX.out.2.2
      rw [← HSS.out] at hlen
      have hw : wrap64 ((S : Int) + (ni : Int)) = ((S + ni : Nat) : Int) := by unfold wrap64; omega
      have hneg : ¬ (((S + ni : Nat) : Int) < 0) := by omega
      have HS := hid hlen
      clear hc e1 e2 e3 hS hlen hle hbb hk1 hk2
      go_wp2_with fail
      go_roundw
      case rel => exact ⟨k + 1, S + ni, by omega, by go_num, by rw [hw], HS.out.symm, trivial⟩
      case measure => simp [intOf] <;> omega
    · obtain rfl : n = k := by omega
      have hall : xss.take n = xss := List.take_of_length_le (by rw [HX.out.2.1.len, HX.out.1]; exact Nat.le_refl _)
      have HT := HSS.out
      rw [hall] at HT
      have HB : Hid (S ≤ 140737488355328) := by rw [HT]; exact HX.out.2.2
      clear hlt hall HT
      go_wp2_with fail
      refine (grow_nil_calls S _ HB.out).mono ?_
      rintro e w1 ⟨v, rfl, hnew⟩
      obtain ⟨A1, n1, c1, ob1, rfl, hn1, hrow1, hob1, hfr1⟩ := hnew.open
      obtain rfl : n1 = 0 := hn1.symm
      have H1 := hid (And.intro hrow1 (And.intro hob1 hfr1))
      clear hrow1 hob1 hfr1 hn1 hnew
      go_wp2_with fail
      go_loopw [6, 27] (fun v i wr => ∃ (k : Nat) (A1 : Option Addr) (m1 c1 : Nat) (ob1 : Option Nat), k ≤ n ∧ i = .int .i64 k ∧ v = .slice A1 m1 c1 ∧ (xss.take k).flatten.length = m1 ∧
          Row wr 1 (.slice A1 m1 c1) ob1 m1 (((xss.take k).flatten).map B) ∧ (∀ q, ob1 = some q → w.heap.size ≤ q) ∧ Fr No w wr)
        (fun _ i _ => n - (intOf i).toNat)
      case atStart => exact ⟨0, A1, 0, c1, ob1, by omega, rfl, rfl, rfl, H1.out.1, H1.out.2.1, H1.out.2.2⟩
      case round =>
        obtain ⟨k, A2, m2, c2, ob2, hk, rfl, rfl, h0, h1, h2, h3⟩ := hrel
        have HREL := hid (And.intro h1 (And.intro h2 (And.intro h3 h0)))
        clear h1 h2 h3 h0
        by_cases hlt : k < n
        · have hk1 : k < vs.length := by rw [HX.out.1]; exact hlt
          have hk2 : k < xss.length := by rw [HX.out.2.1.len]; exact hk1
          obtain ⟨ad, rfl, hc⟩ : ∃ ad, A = some ad ∧ wr.cell? (ad.add k) = some vs[k] := by
            obtain ⟨ad, e, hc⟩ := (HX.out.2.1.fr0 HREL.out.2.2.1).rd (by omega)
            exact ⟨ad, e, hc k hk1⟩
          obtain ⟨Ai, ni, ci, e1, e2, e3⟩ := (HX.out.2.1.fr0 HREL.out.2.2.1).each k hk1 hk2
          have hcell : _ = some (Value.slice Ai ni ci) := hc.trans (congrArg some e1)
          have hS := flat_take xss k hk2
          have hlen : (xss.take (k + 1)).flatten.length = m2 + ni := by rw [hS, List.length_append, e2, HREL.out.2.2.2]
          have hle := flat_le xss (k + 1)
          have hbb := HX.out.2.2
          have hmn : m2 + ni ≤ 140737488355328 := by omega
          have HS := hid (And.intro e2 (And.intro e3 (And.intro hS hlen)))
          clear hc e1 e2 e3 hS hlen hle hbb
          go_wp2_with (at_builtin; refine wpList_app slU8 rfl (.tmp 31) (.tmp 32) rfl rfl HREL.out.1 rfl (by rw [List.length_map, HS.out.1, Nat.mul_one]) (Rd.cells.1 HS.out.2.1) (oneB _) (by omega) (by omega) ?_; intro A3 c3 w3 ob3 hrow3 hfr3 hob3)
          go_roundw
          case rel =>
            rw [← List.map_append, ← HS.out.2.2.1] at hrow3
            have := HREL.out.2.2.1.size
            refine ⟨k + 1, A3, m2 + ni, c3, ob3, by omega, by go_num, rfl, HS.out.2.2.2, hrow3, fun q hq => ?_, HREL.out.2.2.1.fresh hfr3 HREL.out.2.1⟩
            rcases hob3 with h | ⟨j, h, hj⟩
            · exact HREL.out.2.1 q (by rw [← h]; exact hq)
            · rw [h] at hq; injection hq with hq; omega
          case measure => simp [intOf] <;> omega
        · obtain rfl : n = k := by omega
          clear hlt
          have h1 := HREL.out
          rw [List.take_of_length_le (by rw [HX.out.2.1.len, HX.out.1]; exact Nat.le_refl _)] at h1
          have HO := hid h1
          clear h1
          go_wp2_with fail
          go_ret
          exact ⟨_, rfl, New.mk' rfl HO.out.2.2.2 HO.out.1 HO.out.2.1 HO.out.2.2.1⟩
end Go.Proofs.YtamkfjbdcjkchaaDoor

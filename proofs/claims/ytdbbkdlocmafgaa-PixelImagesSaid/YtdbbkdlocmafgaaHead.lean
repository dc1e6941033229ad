/- The contracts of layer 12, head, first part: depths, May, Samples, and the document's. -/
import Derived.Test.YtdbbkdlocmafgaaProg
import Derived.Test.YtdbbkdlocmafgaaMem
import Derived.Deep.RegionLaw
namespace Go.Proofs.Ytdbbkdlocmafgaa
open Go.RowKit Go.Proofs.HK
set_option linter.unusedVariables false
set_option linter.unusedSimpArgs false
attribute [local go_sem] max2_int min2_int max_two min_two

def II (z : Int) : Value := .int .i64 z
def depL (c : Int) : List Int := if c = 0 then [1, 2, 4, 8, 16] else if c = 2 then [8, 16] else if c = 3 then [1, 2, 4, 8] else if c = 4 then [8, 16] else if c = 6 then [8, 16] else []
def samS (c : Int) : Int := if c = 0 then 1 else if c = 2 then 3 else if c = 3 then 1 else if c = 4 then 2 else if c = 6 then 4 else 0
def mayS (W H C D : Int) : Bool := decide (0 < W ∧ 0 < H ∧ W ≤ 2048 ∧ H ≤ 2048 ∧ W * H ≤ 65536 ∧ D ∈ depL C)
def headV (W H C D : Int) (L : Bool) : Value := .agg #[.int .i64 W, .int .i64 H, .int .i64 C, .int .i64 D, .bool L]

theorem new_of (w : World) (l : List Int) (e : TypeId) (n : Nat) (h : l.length = n) (hn : n ≤ 1000) : New II w (w.alloc (.cells (l.map II).toArray e)) (.slice (some ⟨w.heap.size, 0, none⟩) n n) l :=
  New.mk' rfl h (Row.new w 1 n (l.map II) e (by rw [List.length_map, h, Nat.mul_one]) (by omega)) (fun k hk => by injection hk with hk; omega) ((Fr.refl _ _).alloc _)

theorem cell_new1 (w : World) (cs : Array Value) (t : TypeId) (i : Nat) (v : Value) (h : cs[i]? = some v) : (w.alloc (.cells cs t)).cell? ⟨w.heap.size, i, none⟩ = some v := by
  obtain ⟨W, hW⟩ : ∃ W, W = w.alloc (.cells cs t) := ⟨_, rfl⟩
  have hb : W.heap[w.heap.size]? = some (.cells cs t (0, 0)) := by rw [hW]; exact heap_new _ _
  rw [← hW]
  simp [World.cell?, hb, h]
theorem depths_calls (c : Int) (w : World) : Calls Try.prog 41 #[.int .i64 c] w fun e w' => ∃ v, e = .returned (.tuple #[v, .int .i64 (samS c)]) ∧ New II w w' v (depL c) := by
  by_cases h0 : c = 0
  · subst h0
    go_enter Try.func41, Try.ntmps41
    go_wp2
    go_ret2
    exact ⟨_, rfl, new_of w [1, 2, 4, 8, 16] _ 5 rfl (by omega)⟩
  by_cases h2 : c = 2
  · subst h2
    go_enter Try.func41, Try.ntmps41
    go_wp2
    go_ret2
    exact ⟨_, rfl, new_of w [8, 16] _ 2 rfl (by omega)⟩
  by_cases h3 : c = 3
  · subst h3
    go_enter Try.func41, Try.ntmps41
    go_wp2
    go_ret2
    exact ⟨_, rfl, new_of w [1, 2, 4, 8] _ 4 rfl (by omega)⟩
  by_cases h4 : c = 4
  · subst h4
    go_enter Try.func41, Try.ntmps41
    go_wp2
    go_ret2
    exact ⟨_, rfl, new_of w [8, 16] _ 2 rfl (by omega)⟩
  by_cases h6 : c = 6
  · subst h6
    go_enter Try.func41, Try.ntmps41
    go_wp2
    go_ret2
    exact ⟨_, rfl, new_of w [8, 16] _ 2 rfl (by omega)⟩
  have e1 : depL c = [] := by unfold depL; rw [if_neg h0, if_neg h2, if_neg h3, if_neg h4, if_neg h6]
  have e2 : samS c = 0 := by unfold samS; rw [if_neg h0, if_neg h2, if_neg h3, if_neg h4, if_neg h6]
  rw [e1, e2]
  have b0 : (c == 0) = false := by simpa using h0
  have b2 : (c == 2) = false := by simpa using h2
  have b3 : (c == 3) = false := by simpa using h3
  have b4 : (c == 4) = false := by simpa using h4
  have b6 : (c == 6) = false := by simpa using h6
  clear h0 h2 h3 h4 h6 e1 e2
  go_enter Try.func41, Try.ntmps41
  go_wp2
  go_ret2
  exact ⟨_, rfl, New.mk' rfl rfl (Row.nil _ _) (fun _ h => (by cases h)) (Fr.refl _ _)⟩

theorem index_calls (A : Option Addr) (xs : List Int) (n c : Nat) (v : Int) (w : World) (hn : xs.length = n) (hr : Rd II w A xs) (hl : n ≤ 1000) :
    Calls Try.prog 49 #[.slice A n c, .int .i64 v] w fun e w' => ∃ i : Int, e = .returned (.int .i64 i) ∧ Hid (0 ≤ i ↔ v ∈ xs) ∧ w' = w := by
  have HR := hid (And.intro hn hr)
  clear hn hr
  go_enter Try.func49, Try.ntmps49
  go_wp2
  go_loop [8] (fun i => ∃ k : Nat, k ≤ n ∧ i = .int .i64 k ∧ v ∉ xs.take k) (fun i => n - (intOf i).toNat)
  case atStart => exact ⟨0, by omega, rfl, by simp⟩
  case round =>
    obtain ⟨k, hk, rfl, hno⟩ := hrel
    have HN := hid hno
    clear hno
    by_cases hlt : k < n
    · have hlt' : k < xs.length := by rw [HR.out.1]; exact hlt
      obtain ⟨ad, hA, hc⟩ := HR.out.2 (by omega)
      subst hA
      have hcell := hc k hlt'
      obtain ⟨x, hx⟩ : ∃ x, x = xs[k] := ⟨_, rfl⟩
      rw [← hx] at hcell
      have hcell' : w.cell? (ad.add k) = some (.int .i64 x) := hcell
      have HX := hid hx
      clear hc hcell hx
      by_cases he : v = x
      · have hb : (v == x) = true := by simpa using he
        have HE := hid he
        clear he
        go_wp2
        go_ret
        exact ⟨(k : Int), rfl, ⟨fun _ => by rw [HE.out, HX.out]; exact List.getElem_mem _, fun _ => by omega⟩, rfl⟩
      · have hb : (v == x) = false := by simpa using he
        have HE := hid he
        clear he
        go_wp2
        go_round
        case rel =>
          refine ⟨k + 1, by omega, by go_num, ?_⟩
          rw [List.take_succ_eq_append_getElem hlt', List.mem_append, not_or]
          exact ⟨HN.out, by simpa [← HX.out] using HE.out⟩
        case measure => simp [intOf] <;> omega
    · have hge : n ≤ k := by omega
      have hno2 := HN.out
      rw [List.take_of_length_le (by rw [HR.out.1]; exact hge)] at hno2
      have HN2 := hid hno2
      clear hlt hno2
      go_wp2
      go_ret
      exact ⟨-1, rfl, ⟨fun h => absurd h (by omega), fun h => absurd h HN2.out⟩, rfl⟩
theorem contains_calls (A : Option Addr) (xs : List Int) (n c : Nat) (v : Int) (w : World) (hn : xs.length = n) (hr : Rd II w A xs) (hl : n ≤ 1000) :
    Calls Try.prog 48 #[.slice A n c, .int .i64 v] w fun e w' => e = .returned (.bool (decide (v ∈ xs))) ∧ w' = w := by
  have HR := hid hr
  have HN := hid hn
  clear hr hn
  go_enter Try.func48, Try.ntmps48
  go_wp2_with fail
  refine (index_calls _ _ _ _ _ _ HN.out HR.out hl).mono ?_
  rintro e w' ⟨i, rfl, HI, rfl⟩
  go_wp2
  go_ret
  exact ⟨by rw [← decide_eq_decide.2 HI.out]; rfl, rfl⟩

theorem samples_calls (c : Int) (w : World) : Calls Try.prog 30 #[.int .i64 c] w fun e w' => e = .returned (.int .i64 (samS c)) ∧ Fr No w w' := by
  go_enter Try.func30, Try.ntmps30
  go_wp2_with fail
  refine (depths_calls c w).mono ?_
  rintro e w' ⟨v, rfl, hn⟩
  have HN := hid hn
  clear hn
  go_wp2
  go_ret
  exact ⟨rfl, HN.out.2⟩
theorem refSamples_calls (c : Int) (w : World) : Calls Try.prog 34 #[.int .i64 c] w fun e w' => e = .returned (.int .i64 (samS c)) ∧ w' = w := by
  by_cases h0 : c = 0
  · subst h0
    go_enter Try.func34, Try.ntmps34
    go_wp2
    go_ret
    exact ⟨rfl, rfl⟩
  by_cases h2 : c = 2
  · subst h2
    go_enter Try.func34, Try.ntmps34
    go_wp2
    go_ret
    exact ⟨rfl, rfl⟩
  by_cases h3 : c = 3
  · subst h3
    go_enter Try.func34, Try.ntmps34
    go_wp2
    go_ret
    exact ⟨rfl, rfl⟩
  by_cases h4 : c = 4
  · subst h4
    go_enter Try.func34, Try.ntmps34
    go_wp2
    go_ret
    exact ⟨rfl, rfl⟩
  by_cases h6 : c = 6
  · subst h6
    go_enter Try.func34, Try.ntmps34
    go_wp2
    go_ret
    exact ⟨rfl, rfl⟩
  have e2 : samS c = 0 := by unfold samS; rw [if_neg h0, if_neg h2, if_neg h3, if_neg h4, if_neg h6]
  rw [e2]
  have b0 : (c == 0) = false := by simpa using h0
  have b2 : (c == 2) = false := by simpa using h2
  have b3 : (c == 3) = false := by simpa using h3
  have b4 : (c == 4) = false := by simpa using h4
  have b6 : (c == 6) = false := by simpa using h6
  clear h0 h2 h3 h4 h6 e2
  go_enter Try.func34, Try.ntmps34
  go_wp2
  go_ret
  exact ⟨rfl, rfl⟩

theorem mul_wrap (W H : Int) (h0 : 0 < W) (h1 : 0 < H) (h2 : W ≤ 2048) (h3 : H ≤ 2048) : IntKind.i64.wrap (W * H) = W * H ∧ 0 ≤ W * H ∧ W * H ≤ 4194304 := by
  have h4 : W * H ≤ 2048 * 2048 := Int.mul_le_mul h2 h3 (by omega) (by omega)
  have h5 : 0 ≤ W * H := Int.mul_nonneg (by omega) (by omega)
  exact ⟨w64 _ h5 (by omega), h5, by omega⟩

set_option maxRecDepth 100000 in
theorem may_calls (W H C D : Int) (L : Bool) (w : World) : Calls Try.prog 40 #[headV W H C D L] w fun e w' => e = .returned (.bool (mayS W H C D)) ∧ Fr No w w' := by
  have hno : ¬ (0 < W ∧ 0 < H ∧ W ≤ 2048 ∧ H ≤ 2048 ∧ W * H ≤ 65536) → mayS W H C D = false := fun h => by
    unfold mayS; exact decide_eq_false (fun h' => h ⟨h'.1, h'.2.1, h'.2.2.1, h'.2.2.2.1, h'.2.2.2.2.1⟩)
  have hyes : (0 < W ∧ 0 < H ∧ W ≤ 2048 ∧ H ≤ 2048 ∧ W * H ≤ 65536) → mayS W H C D = decide (D ∈ depL C) := fun h => by
    unfold mayS
    by_cases hd : D ∈ depL C
    · rw [decide_eq_true ⟨h.1, h.2.1, h.2.2.1, h.2.2.2.1, h.2.2.2.2, hd⟩, decide_eq_true hd]
    · rw [decide_eq_false (fun h' => hd h'.2.2.2.2.2), decide_eq_false hd]
  have hlen : (depL C).length ≤ 5 := by unfold depL; repeat' split
                                        all_goals simp
  unfold headV
  by_cases hm : 0 < W ∧ 0 < H
  · have hmn : 0 < mn W H := by unfold mn; split <;> omega
    by_cases hx : W ≤ 2048 ∧ H ≤ 2048
    · have hmx : mx W H ≤ 2048 := by unfold mx; split <;> omega
      obtain ⟨hw, hp0, hp1⟩ := mul_wrap W H hm.1 hm.2 hx.1 hx.2
      by_cases hp : W * H ≤ 65536
      · have HR := hid (hyes ⟨hm.1, hm.2, hx.1, hx.2, hp⟩)
        have HL := hid hlen
        clear hno hyes hlen hm hx
        obtain ⟨P, hP⟩ : ∃ P, P = W * H := ⟨_, rfl⟩
        go_enter Try.func40, Try.ntmps40
        go_wp2_with (first
          | (go_at_call 41; refine (depths_calls C _).mono ?_; rintro e w' ⟨v, rfl, hn⟩; obtain ⟨A1, n1, c1, rfl, N1⟩ := hn.use; clear hn; have hW := N1.out.2.2.2.1; have c0 := (hW.cellg w.heap.size 0 (by simp) (fun h => h)).trans (cell_new1 w #[.int .i64 W, .int .i64 H, .int .i64 C, .int .i64 D, .bool L] _ 0 _ rfl); have c1' := (hW.cellg w.heap.size 1 (by simp) (fun h => h)).trans (cell_new1 w #[.int .i64 W, .int .i64 H, .int .i64 C, .int .i64 D, .bool L] _ 1 _ rfl); have c3 := (hW.cellg w.heap.size 3 (by simp) (fun h => h)).trans (cell_new1 w #[.int .i64 W, .int .i64 H, .int .i64 C, .int .i64 D, .bool L] _ 3 _ rfl); clear hW)
          | (go_at_call 48; refine (contains_calls _ _ _ _ D _ N1.out.1 N1.out.2.1 (by have := N1.out.1; have := HL.out; omega)).mono ?_; rintro e w' ⟨rfl, rfl⟩))
        go_ret
        exact ⟨by rw [HR.out]; rfl, (((Fr.refl No w).alloc _).then N1.out.2.2.2.1)⟩
      · have HR := hid (hno (fun h => hp h.2.2.2.2))
        have hp' : 65536 < W * H := by omega
        have HL := hid hlen
        clear hno hyes hlen hm hx hp
        obtain ⟨P, hP⟩ : ∃ P, P = W * H := ⟨_, rfl⟩
        go_enter Try.func40, Try.ntmps40
        go_wp2_with (first
          | (go_at_call 41; refine (depths_calls C _).mono ?_; rintro e w' ⟨v, rfl, hn⟩; obtain ⟨A1, n1, c1, rfl, N1⟩ := hn.use; clear hn; have hW := N1.out.2.2.2.1; have c0 := (hW.cellg w.heap.size 0 (by simp) (fun h => h)).trans (cell_new1 w #[.int .i64 W, .int .i64 H, .int .i64 C, .int .i64 D, .bool L] _ 0 _ rfl); have c1' := (hW.cellg w.heap.size 1 (by simp) (fun h => h)).trans (cell_new1 w #[.int .i64 W, .int .i64 H, .int .i64 C, .int .i64 D, .bool L] _ 1 _ rfl); have c3 := (hW.cellg w.heap.size 3 (by simp) (fun h => h)).trans (cell_new1 w #[.int .i64 W, .int .i64 H, .int .i64 C, .int .i64 D, .bool L] _ 3 _ rfl); clear hW)
          | (go_at_call 48; refine (contains_calls _ _ _ _ D _ N1.out.1 N1.out.2.1 (by have := N1.out.1; have := HL.out; omega)).mono ?_; rintro e w' ⟨rfl, rfl⟩))
        go_ret
        exact ⟨by rw [HR.out]; rfl, (((Fr.refl No w).alloc _).then N1.out.2.2.2.1)⟩
    · have HR := hid (hno (fun h => hx ⟨h.2.2.1, h.2.2.2.1⟩))
      have hmx : 2048 < mx W H := by unfold mx; split <;> omega
      have HL := hid hlen
      clear hno hyes hlen hm hx
      go_enter Try.func40, Try.ntmps40
      go_wp2_with (first
        | (go_at_call 41; refine (depths_calls C _).mono ?_; rintro e w' ⟨v, rfl, hn⟩; obtain ⟨A1, n1, c1, rfl, N1⟩ := hn.use; clear hn; have hW := N1.out.2.2.2.1; have c0 := (hW.cellg w.heap.size 0 (by simp) (fun h => h)).trans (cell_new1 w #[.int .i64 W, .int .i64 H, .int .i64 C, .int .i64 D, .bool L] _ 0 _ rfl); have c1' := (hW.cellg w.heap.size 1 (by simp) (fun h => h)).trans (cell_new1 w #[.int .i64 W, .int .i64 H, .int .i64 C, .int .i64 D, .bool L] _ 1 _ rfl); have c3 := (hW.cellg w.heap.size 3 (by simp) (fun h => h)).trans (cell_new1 w #[.int .i64 W, .int .i64 H, .int .i64 C, .int .i64 D, .bool L] _ 3 _ rfl); clear hW)
        | (go_at_call 48; refine (contains_calls _ _ _ _ D _ N1.out.1 N1.out.2.1 (by have := N1.out.1; have := HL.out; omega)).mono ?_; rintro e w' ⟨rfl, rfl⟩))
      go_ret
      exact ⟨by rw [HR.out]; rfl, (((Fr.refl No w).alloc _).then N1.out.2.2.2.1)⟩
  · have HR := hid (hno (fun h => hm ⟨h.1, h.2.1⟩))
    have hmn : mn W H ≤ 0 := by unfold mn; split <;> omega
    have HL := hid hlen
    clear hno hyes hlen hm
    go_enter Try.func40, Try.ntmps40
    go_wp2_with (first
      | (go_at_call 41; refine (depths_calls C _).mono ?_; rintro e w' ⟨v, rfl, hn⟩; obtain ⟨A1, n1, c1, rfl, N1⟩ := hn.use; clear hn; have hW := N1.out.2.2.2.1; have c0 := (hW.cellg w.heap.size 0 (by simp) (fun h => h)).trans (cell_new1 w #[.int .i64 W, .int .i64 H, .int .i64 C, .int .i64 D, .bool L] _ 0 _ rfl); have c1' := (hW.cellg w.heap.size 1 (by simp) (fun h => h)).trans (cell_new1 w #[.int .i64 W, .int .i64 H, .int .i64 C, .int .i64 D, .bool L] _ 1 _ rfl); have c3 := (hW.cellg w.heap.size 3 (by simp) (fun h => h)).trans (cell_new1 w #[.int .i64 W, .int .i64 H, .int .i64 C, .int .i64 D, .bool L] _ 3 _ rfl); clear hW)
      | (go_at_call 48; refine (contains_calls _ _ _ _ D _ N1.out.1 N1.out.2.1 (by have := N1.out.1; have := HL.out; omega)).mono ?_; rintro e w' ⟨rfl, rfl⟩))
    go_ret
    exact ⟨by rw [HR.out]; rfl, (((Fr.refl No w).alloc _).then N1.out.2.2.2.1)⟩
end Go.Proofs.Ytdbbkdlocmafgaa

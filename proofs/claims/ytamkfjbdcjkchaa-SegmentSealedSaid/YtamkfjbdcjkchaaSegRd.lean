/- The contract of segment.Read. -/
import Derived.Test.YtamkfjbdcjkchaaSegS
import Derived.Laws.EntriesVeiled
import Derived.Deep.DeepCutAuto
namespace Go.Proofs.Ytamkfjbdcjkchaa
open Go.RowKit Go.Proofs.HK
set_option linter.unusedVariables false
set_option linter.unusedSimpArgs false
attribute [local go_sem] max2_int min2_int max_two min_two

/-- Each kind's reader. -/
theorem parts_calls {L T : Nat} (w : World) (g h : Nat) (o : List UInt8) (s : CS) (K : Int) (U : Nat) (f f' : FuncId) (hf : formAt K = some (f, f')) (hc : Cur L T w g o s.p s.e) (hb : w.heap[h]? = some (.cells #[.int .i64 K, .int .u32 (U : Int), .int .i64 0, .int .u32 0, .int .i64 0, .int .i64 0, .int .i64 0, .int .i64 0, .int .i64 0, .int .i64 0, .slice none 0 0, .slice none 0 0] 26 (0, 0))) (hh : h < L ∨ T ≤ h) (hT : T ≤ w.heap.size) :
    Calls Try.prog f' #[.pointer (some ⟨g, 0, none⟩), .pointer (some ⟨h, 0, none⟩)] w (RetR L T w g h o (rdS o K s) (rdMs o K U s)) := by
  unfold formAt at hf
  split at hf
  · rename_i e; injection hf with hf; injection hf with h1 h2; subst h2; exact rd1_calls w g h o s K U hc hb hh e
  split at hf
  · rename_i e; injection hf with hf; injection hf with h1 h2; subst h2; exact rd2_calls w g h o s K U hc hb hh e
  split at hf
  · rename_i e; injection hf with hf; injection hf with h1 h2; subst h2; exact rd3_calls w g h o s K U hc hb hh e
  split at hf
  · rename_i e; injection hf with hf; injection hf with h1 h2; subst h2; exact rd4_calls w g h o s K U hc hb hh hT e
  split at hf
  · rename_i e; injection hf with hf; injection hf with h1 h2; subst h2; exact rd5_calls w g h o s K U hc hb hh e
  cases hf
theorem formAt_lits {K : Int} {f f' : FuncId} (h : formAt K = some (f, f')) : f' = 40 ∨ f' = 42 ∨ f' = 44 ∨ f' = 47 ∨ f' = 49 := by
  unfold formAt at h
  repeat' split at h
  all_goals first | (injection h with h; injection h with h1 h2; subst h2; simp) | cases h
theorem formAt_yes {K : Int} (h : kindB K = true) : ∃ f f', formAt K = some (f, f') := by
  have h := of_decide_eq_true h
  unfold formAt
  repeat' split
  all_goals first | exact ⟨_, _, rfl⟩ | (exfalso; omega)
theorem st0 {W : World} {g : Nat} {a0 a1 a2 a3 a4 a5 a6 a7 a8 a9 a10 a11 : Value} {t : TypeId} (hb : W.heap[g]? = some (.cells #[a0, a1, a2, a3, a4, a5, a6, a7, a8, a9, a10, a11] t (0, 0))) (x : Value) : (W.setCell ⟨g, 0, none⟩ x).heap[g]? = some (.cells #[x, a1, a2, a3, a4, a5, a6, a7, a8, a9, a10, a11] t (0, 0)) := by rw [heap_set _ g 0 _ t x hb]; rfl
theorem st1 {W : World} {g : Nat} {a0 a1 a2 a3 a4 a5 a6 a7 a8 a9 a10 a11 : Value} {t : TypeId} (hb : W.heap[g]? = some (.cells #[a0, a1, a2, a3, a4, a5, a6, a7, a8, a9, a10, a11] t (0, 0))) (x : Value) : (W.setCell ⟨g, 1, none⟩ x).heap[g]? = some (.cells #[a0, x, a2, a3, a4, a5, a6, a7, a8, a9, a10, a11] t (0, 0)) := by rw [heap_set _ g 1 _ t x hb]; rfl
theorem st2 {W : World} {g : Nat} {a0 a1 a2 a3 a4 a5 a6 a7 a8 a9 a10 a11 : Value} {t : TypeId} (hb : W.heap[g]? = some (.cells #[a0, a1, a2, a3, a4, a5, a6, a7, a8, a9, a10, a11] t (0, 0))) (x : Value) : (W.setCell ⟨g, 2, none⟩ x).heap[g]? = some (.cells #[a0, a1, x, a3, a4, a5, a6, a7, a8, a9, a10, a11] t (0, 0)) := by rw [heap_set _ g 2 _ t x hb]; rfl
theorem st3 {W : World} {g : Nat} {a0 a1 a2 a3 a4 a5 a6 a7 a8 a9 a10 a11 : Value} {t : TypeId} (hb : W.heap[g]? = some (.cells #[a0, a1, a2, a3, a4, a5, a6, a7, a8, a9, a10, a11] t (0, 0))) (x : Value) : (W.setCell ⟨g, 3, none⟩ x).heap[g]? = some (.cells #[a0, a1, a2, x, a4, a5, a6, a7, a8, a9, a10, a11] t (0, 0)) := by rw [heap_set _ g 3 _ t x hb]; rfl
theorem st4 {W : World} {g : Nat} {a0 a1 a2 a3 a4 a5 a6 a7 a8 a9 a10 a11 : Value} {t : TypeId} (hb : W.heap[g]? = some (.cells #[a0, a1, a2, a3, a4, a5, a6, a7, a8, a9, a10, a11] t (0, 0))) (x : Value) : (W.setCell ⟨g, 4, none⟩ x).heap[g]? = some (.cells #[a0, a1, a2, a3, x, a5, a6, a7, a8, a9, a10, a11] t (0, 0)) := by rw [heap_set _ g 4 _ t x hb]; rfl
theorem st5 {W : World} {g : Nat} {a0 a1 a2 a3 a4 a5 a6 a7 a8 a9 a10 a11 : Value} {t : TypeId} (hb : W.heap[g]? = some (.cells #[a0, a1, a2, a3, a4, a5, a6, a7, a8, a9, a10, a11] t (0, 0))) (x : Value) : (W.setCell ⟨g, 5, none⟩ x).heap[g]? = some (.cells #[a0, a1, a2, a3, a4, x, a6, a7, a8, a9, a10, a11] t (0, 0)) := by rw [heap_set _ g 5 _ t x hb]; rfl
theorem st6 {W : World} {g : Nat} {a0 a1 a2 a3 a4 a5 a6 a7 a8 a9 a10 a11 : Value} {t : TypeId} (hb : W.heap[g]? = some (.cells #[a0, a1, a2, a3, a4, a5, a6, a7, a8, a9, a10, a11] t (0, 0))) (x : Value) : (W.setCell ⟨g, 6, none⟩ x).heap[g]? = some (.cells #[a0, a1, a2, a3, a4, a5, x, a7, a8, a9, a10, a11] t (0, 0)) := by rw [heap_set _ g 6 _ t x hb]; rfl
theorem st7 {W : World} {g : Nat} {a0 a1 a2 a3 a4 a5 a6 a7 a8 a9 a10 a11 : Value} {t : TypeId} (hb : W.heap[g]? = some (.cells #[a0, a1, a2, a3, a4, a5, a6, a7, a8, a9, a10, a11] t (0, 0))) (x : Value) : (W.setCell ⟨g, 7, none⟩ x).heap[g]? = some (.cells #[a0, a1, a2, a3, a4, a5, a6, x, a8, a9, a10, a11] t (0, 0)) := by rw [heap_set _ g 7 _ t x hb]; rfl
theorem st8 {W : World} {g : Nat} {a0 a1 a2 a3 a4 a5 a6 a7 a8 a9 a10 a11 : Value} {t : TypeId} (hb : W.heap[g]? = some (.cells #[a0, a1, a2, a3, a4, a5, a6, a7, a8, a9, a10, a11] t (0, 0))) (x : Value) : (W.setCell ⟨g, 8, none⟩ x).heap[g]? = some (.cells #[a0, a1, a2, a3, a4, a5, a6, a7, x, a9, a10, a11] t (0, 0)) := by rw [heap_set _ g 8 _ t x hb]; rfl
theorem st9 {W : World} {g : Nat} {a0 a1 a2 a3 a4 a5 a6 a7 a8 a9 a10 a11 : Value} {t : TypeId} (hb : W.heap[g]? = some (.cells #[a0, a1, a2, a3, a4, a5, a6, a7, a8, a9, a10, a11] t (0, 0))) (x : Value) : (W.setCell ⟨g, 9, none⟩ x).heap[g]? = some (.cells #[a0, a1, a2, a3, a4, a5, a6, a7, a8, x, a10, a11] t (0, 0)) := by rw [heap_set _ g 9 _ t x hb]; rfl
theorem st10 {W : World} {g : Nat} {a0 a1 a2 a3 a4 a5 a6 a7 a8 a9 a10 a11 : Value} {t : TypeId} (hb : W.heap[g]? = some (.cells #[a0, a1, a2, a3, a4, a5, a6, a7, a8, a9, a10, a11] t (0, 0))) (x : Value) : (W.setCell ⟨g, 10, none⟩ x).heap[g]? = some (.cells #[a0, a1, a2, a3, a4, a5, a6, a7, a8, a9, x, a11] t (0, 0)) := by rw [heap_set _ g 10 _ t x hb]; rfl
theorem st11 {W : World} {g : Nat} {a0 a1 a2 a3 a4 a5 a6 a7 a8 a9 a10 a11 : Value} {t : TypeId} (hb : W.heap[g]? = some (.cells #[a0, a1, a2, a3, a4, a5, a6, a7, a8, a9, a10, a11] t (0, 0))) (x : Value) : (W.setCell ⟨g, 11, none⟩ x).heap[g]? = some (.cells #[a0, a1, a2, a3, a4, a5, a6, a7, a8, a9, a10, x] t (0, 0)) := by rw [heap_set _ g 11 _ t x hb]; rfl
theorem set12 {W : World} {g : Nat} {a0 a1 a2 a3 a4 a5 a6 a7 a8 a9 a10 a11 : Value} {t : TypeId} (hb : W.heap[g]? = some (.cells #[a0, a1, a2, a3, a4, a5, a6, a7, a8, a9, a10, a11] t (0, 0))) (b0 b1 b2 b3 b4 b5 b6 b7 b8 b9 b10 b11 : Value) :
    ((((((((((((W.setCell ⟨g, 0, none⟩ b0).setCell ⟨g, 1, none⟩ b1).setCell ⟨g, 2, none⟩ b2).setCell ⟨g, 3, none⟩ b3).setCell ⟨g, 4, none⟩ b4).setCell ⟨g, 5, none⟩ b5).setCell ⟨g, 6, none⟩ b6).setCell ⟨g, 7, none⟩ b7).setCell ⟨g, 8, none⟩ b8).setCell ⟨g, 9, none⟩ b9).setCell ⟨g, 10, none⟩ b10).setCell ⟨g, 11, none⟩ b11).heap[g]? = some (.cells #[b0, b1, b2, b3, b4, b5, b6, b7, b8, b9, b10, b11] t (0, 0)) := (st11 (st10 (st9 (st8 (st7 (st6 (st5 (st4 (st3 (st2 (st1 (st0 hb b0) b1) b2) b3) b4) b5) b6) b7) b8) b9) b10) b11)
theorem fr12 (W : World) (g : Nat) (b0 b1 b2 b3 b4 b5 b6 b7 b8 b9 b10 b11 : Value) :
    Fr (One g) W ((((((((((((W.setCell ⟨g, 0, none⟩ b0).setCell ⟨g, 1, none⟩ b1).setCell ⟨g, 2, none⟩ b2).setCell ⟨g, 3, none⟩ b3).setCell ⟨g, 4, none⟩ b4).setCell ⟨g, 5, none⟩ b5).setCell ⟨g, 6, none⟩ b6).setCell ⟨g, 7, none⟩ b7).setCell ⟨g, 8, none⟩ b8).setCell ⟨g, 9, none⟩ b9).setCell ⟨g, 10, none⟩ b10).setCell ⟨g, 11, none⟩ b11) := (((((((((((((Fr.refl (One g) W).setCell (p := ⟨g, 0, none⟩) (fun _ => rfl) b0).setCell (p := ⟨g, 1, none⟩) (fun _ => rfl) b1).setCell (p := ⟨g, 2, none⟩) (fun _ => rfl) b2).setCell (p := ⟨g, 3, none⟩) (fun _ => rfl) b3).setCell (p := ⟨g, 4, none⟩) (fun _ => rfl) b4).setCell (p := ⟨g, 5, none⟩) (fun _ => rfl) b5).setCell (p := ⟨g, 6, none⟩) (fun _ => rfl) b6).setCell (p := ⟨g, 7, none⟩) (fun _ => rfl) b7).setCell (p := ⟨g, 8, none⟩) (fun _ => rfl) b8).setCell (p := ⟨g, 9, none⟩) (fun _ => rfl) b9).setCell (p := ⟨g, 10, none⟩) (fun _ => rfl) b10).setCell (p := ⟨g, 11, none⟩) (fun _ => rfl) b11)
theorem blk2f {W : World} {g : Nat} {v0 v1 : Value} {t : TypeId} (hb : W.heap[g]? = some (.cells #[v0, v1] t (0, 0))) :
    W.cell? ⟨g, 0, none⟩ = some v0 ∧ W.cell? ⟨g, 1, none⟩ = some v1 ∧ W.frozen? ⟨g, 0, none⟩ = false ∧ W.frozen? ⟨g, 1, none⟩ = false := by
  simp [World.cell?, World.frozen?, hb]
theorem keepSt {w8 : World} {h g : Nat} {v a b : Value} (hg : g < h) (hn : w8.cell? ⟨g, 0, none⟩ = some v) : ((w8.setCell ⟨h, 0, none⟩ a).setCell ⟨h, 1, none⟩ b).cell? ⟨g, 0, none⟩ = some v := by
  rw [World.cell?_setCell_other _ _ _ _ (by intro e; injection e; omega), World.cell?_setCell_other _ _ _ _ (by intro e; injection e; omega)]
  exact hn
theorem st2b {W : World} {g : Nat} {a0 a1 : Value} {t : TypeId} (hb : W.heap[g]? = some (.cells #[a0, a1] t (0, 0))) (x y : Value) : ((W.setCell ⟨g, 0, none⟩ x).setCell ⟨g, 1, none⟩ y).heap[g]? = some (.cells #[x, y] t (0, 0)) := by
  rw [heap_set _ g 1 _ t y (heap_set _ g 0 _ t x hb)]; rfl
theorem frB {Y w8 : World} (h : Fr No Y w8) (x y : Value) : Fr No Y ((w8.setCell ⟨Y.heap.size, 0, none⟩ x).setCell ⟨Y.heap.size, 1, none⟩ y) :=
  (h.setCell (p := ⟨Y.heap.size, 0, none⟩) (fun h => absurd h (Nat.lt_irrefl _)) x).setCell (p := ⟨Y.heap.size, 1, none⟩) (fun h => absurd h (Nat.lt_irrefl _)) y
/-- What Read answers. -/
def RetM (w : World) (m : MsgS) (E : Int) (e : Ending) (w' : World) : Prop :=
  ∃ rA rn rc dA dn dc, e = .returned (.tuple #[.agg (mC m (.slice rA rn rc) (.slice dA dn dc)), .int .i64 E]) ∧ RM w.heap.size w' m rA rn rc dA dn dc ∧ Fr No w w'
theorem srdM_no {bs : List UInt8} {E : Int} (h : srdE bs = E) (h0 : E ≠ 0) : srdM bs = zeroM := by unfold srdM; rw [if_neg (by rw [h]; exact h0)]

theorem rgR_len (o : List UInt8) (s : CS) : ∀ n, (rgR o s n).length = n
  | 0 => rfl
  | n + 1 => by rw [rgR, List.length_append, rgR_len o s n]; rfl
theorem byB_len (o : List UInt8) (p : Nat) (e n : Int) : (byB o p e n).length ≤ o.length := by
  unfold byB
  split
  · rw [List.length_take, List.length_drop]; omega
  · simp
theorem mO_len (o : List UInt8) (h : o.length ≤ 2097152) : (mO o).R.length ≤ 256 ∧ (mO o).D.length ≤ 2097152 := by
  have h1 := fun s => nb1_bd o s
  unfold mO rdMs
  repeat' split
  all_goals simp only [List.length_nil, rgR_len]
  all_goals refine ⟨?_, ?_⟩
  all_goals first | omega | (have := h1 (nx o (s2O o) 4); omega) | exact Nat.le_trans (byB_len _ _ _ _) h
set_option maxRecDepth 100000 in
set_option maxHeartbeats 3200000 in
theorem sread_calls (A : Option Addr) (bs : List UInt8) (m c : Nat) (w : World) (hn : bs.length = m) (hr : Rd B w A bs) (hc : m ≤ c) (hl : m ≤ 2097152) :
    Calls Try.prog 13 #[.slice A m c] w (RetM w (srdM bs) (srdE bs)) := by
  have HN := hid (And.intro hn hr)
  clear hn hr
  by_cases h13 : m < 9
  · have HE := hid (show srdE bs = 2 by unfold srdE; rw [if_pos (by rw [HN.out.1]; exact h13)])
    have h13' : (m : Int) - 4 < 5 := by omega
    have hb := heap_new w (.cells #[.int .i64 0, .int .u32 0, .int .i64 0, .int .u32 0, .int .i64 0, .int .i64 0, .int .i64 0, .int .i64 0, .int .i64 0, .int .i64 0, .slice none 0 0, .slice none 0 0] 26)
    obtain ⟨c0, c1, c2, c3, c4, c5, c6, c7, c8, c9, c10, c11⟩ := blk12 hb
    have f0 := free12 hb
    have HB := hid hb
    clear hb
    go_enter Try.func13, Try.ntmps13
    go_wp2_with fail
    refine ret_cell2 rfl (g := w.heap.size) rfl rfl (load_msg HB.out) rfl ?_
    rw [HE.out, srdM_no HE.out (by decide)]
    exact ⟨none, 0, 0, none, 0, 0, rfl, RM.none rfl rfl, (Fr.refl No w).alloc _⟩
  · have hm4 : (m : Int) - 4 = ((m - 4 : Nat) : Int) := by omega
    obtain ⟨k, hk⟩ : ∃ k, k = m - 4 := ⟨_, rfl⟩
    rw [← hk] at hm4
    have hk5 : 5 ≤ k := by omega
    obtain ⟨L, hL⟩ : ∃ L, L = le (bs.drop k) := ⟨_, rfl⟩
    have hd4 : (bs.drop k).length = 4 := by rw [List.length_drop, HN.out.1]; omega
    have hLl : L < 4294967296 := by have := le_lt (bs.drop k); rw [hd4] at this; rw [hL]; omega
    have HLit := hid (show littleS bs (k : Int) 4 = (L : Int) ∧ fitsS bs.length (k : Int) 4 = 0 by
      have hf : fitsS bs.length (k : Int) 4 = 0 := by
        unfold fitsS
        rw [if_neg (by omega), if_neg (by rw [HN.out.1]; omega)]
      refine ⟨?_, hf⟩
      unfold littleS
      rw [if_pos hf, hL, show (4 : Int).toNat = 4 from rfl, Int.toNat_natCast, List.take_of_length_le (by omega)])
    obtain ⟨o, ho⟩ : ∃ o, o = bs.take k := ⟨_, rfl⟩
    obtain ⟨C, hC⟩ : ∃ C, C = crcOf o := ⟨_, rfl⟩
    have hCl : C < 4294967296 := by rw [hC]; exact crcM_lt _ _
    have hcut := cut_h slU8 A m c (k : Int) k rfl (by omega)
    have htk : o.length = k := by rw [ho, List.length_take, HN.out.1]; omega
    have hrd : ∀ W, Rd B W A bs → Rd B W A o := fun W h => by rw [ho]; exact h.take k
    have HT := hid (And.intro htk (And.intro ho hrd))
    have HCC := hid hC
    obtain ⟨g, hgg⟩ : ∃ g, g = w.heap.size := ⟨_, rfl⟩
    obtain ⟨w1, hw1⟩ : ∃ W, W = w.alloc (.cells #[.int .i64 0, .int .u32 0, .int .i64 0, .int .u32 0, .int .i64 0, .int .i64 0, .int .i64 0, .int .i64 0, .int .i64 0, .int .i64 0, .slice none 0 0, .slice none 0 0] 26) := ⟨_, rfl⟩
    have hb := heap_new w (.cells #[.int .i64 0, .int .u32 0, .int .i64 0, .int .u32 0, .int .i64 0, .int .i64 0, .int .i64 0, .int .i64 0, .int .i64 0, .int .i64 0, .slice none 0 0, .slice none 0 0] 26)
    rw [← hgg, ← hw1] at hb
    have hf1 : Fr No w w1 := by rw [hw1]; exact (Fr.refl No w).alloc _
    have HB := hid (And.intro hb (And.intro hf1 hgg))
    have HW1 := hid hw1
    clear hw1 hgg
    have HLL := hid hL
    have hge9 : ¬ ((k : Int) < 5) := by omega
    have hmm : ¬ ((m : Int) - 4 < 5) := by omega
    have hwL : IntKind.u32.wrap (L : Int) = (L : Int) := wraps_u32 _ (by omega) (by omega)
    by_cases hS : C = L
    · have hne : ((L : Int) != (C : Int)) = false := by rw [hS]; simp
      have hE3 : srdE bs = (if prB o then 0 else 3) ∧ srdM bs = (if prB o then mO o else zeroM) := by
        have hE : srdE bs = (if prB o then 0 else 3) := by
          unfold srdE
          rw [if_neg (by rw [HN.out.1]; exact h13), HN.out.1, ← hk, ← ho, if_neg (by rw [← hC, ← hL]; exact fun h => h hS)]
        refine ⟨hE, ?_⟩
        unfold srdM
        rw [hE, HN.out.1, ← hk, ← ho]
        by_cases hp : prB o = true
        · rw [if_pos hp, if_pos rfl, if_pos hp]
        · rw [if_neg hp, if_neg (by decide), if_neg hp]
      have HE3 := hid hE3
      have htk' := htk
      clear hk hL hC hd4 htk ho hrd hb hf1 hS hE3
      obtain ⟨s1, hs1⟩ : ∃ x, x = nx o ⟨0, 0⟩ 1 := ⟨_, rfl⟩
      obtain ⟨s2, hs2⟩ : ∃ x, x = nx o s1 4 := ⟨_, rfl⟩
      obtain ⟨K, hK⟩ : ∃ x, x = nb o ⟨0, 0⟩ 1 := ⟨_, rfl⟩
      obtain ⟨v, hv⟩ : ∃ x, x = nb o s1 4 := ⟨_, rfl⟩
      obtain ⟨U, hU⟩ : ∃ x, x = v.toNat := ⟨_, rfl⟩
      have hvb : 0 ≤ v ∧ v < 4294967296 := by rw [hv]; exact nb_bd _ _ _
      have hvU : IntKind.u32.wrap v = (U : Int) := by rw [wu32 v hvb]; omega
      have hKO : kO o = K ∧ uO o = U ∧ s2O o = s2 := ⟨hK.symm, by rw [hU, hv, hs1]; rfl, by rw [hs2, hs1]; rfl⟩
      obtain ⟨M, hM⟩ : ∃ x, x = mO o := ⟨_, rfl⟩
      obtain ⟨se, hse⟩ : ∃ x, x = eO o := ⟨_, rfl⟩
      have hME : rdMs o K U s2 = M ∧ rdS o K s2 = se := by rw [hM, hse]; unfold mO eO; rw [hKO.1, hKO.2.1, hKO.2.2]; exact ⟨rfl, rfl⟩
      have hpr : prB o = (kindB K && decide (se.e = 0) && !decide (0 < lf o se) && rangedB M) := by unfold prB; rw [← hM, ← hse, hKO.1]
      rw [← hM] at HE3
      have HM := hid (And.intro hME hpr)
      have hmlen : M.R.length ≤ 256 ∧ M.D.length ≤ 2097152 := by
        rw [hM]
        exact mO_len o (by rw [htk']; omega)
      have c1_calls : ∀ W g L T, Cur L T W g o 0 0 → Calls Try.prog 29 #[.pointer (some ⟨g, 0, none⟩), .int .i64 1] W fun e w' => e = .returned (.int .i64 K) ∧ Cur L T w' g o s1.p s1.e ∧ Fr (One g) W w' := fun W g L T h => by rw [hK, hs1]; exact cb_calls W g o ⟨0, 0⟩ 1 h
      have c2_calls : ∀ W g L T, Cur L T W g o s1.p s1.e → Calls Try.prog 29 #[.pointer (some ⟨g, 0, none⟩), .int .i64 4] W fun e w' => e = .returned (.int .i64 v) ∧ Cur L T w' g o s2.p s2.e ∧ Fr (One g) W w' := fun W g L T h => by rw [hv, hs2]; exact cb_calls W g o s1 4 h
      have C1 := hid c1_calls
      have C2 := hid c2_calls
      clear hs1 hs2 hK hv hU hvb hKO hM hse hME hpr c1_calls c2_calls
      go_enter Try.func13, Try.ntmps13
      go_wp2_with fail
      rw [← HW1.out, ← HB.out.2.2]
      refine (little_calls A bs m c HN.out.1 (k : Int) 4 _ (HN.out.2.fr0 HB.out.2.1) (by rw [HN.out.1]; omega)).mono ?_
      rw [HLit.out.1, HLit.out.2]
      rintro e w2 ⟨rfl, hw2⟩
      rw [hw2]
      clear hw2 w2
      go_wp2_with fail
      refine (of_calls _ 1 1 [.slice A k c] [o] rfl _ (rdS1 rfl HT.out.1 (HT.out.2.2 _ (HN.out.2.fr0 HB.out.2.1))) (by simp only [List.flatten_cons, List.flatten_nil, List.append_nil, HT.out.1]; omega) (by decide)).mono ?_
      rw [show [o].flatten = o by simp, ← HCC.out]
      rintro e w5 ⟨rfl, hw5⟩
      rw [hw5]
      clear hw5 w5
      obtain ⟨X, hX⟩ : ∃ X, X = w1.alloc (.cells #[.slice A k c] 24) := ⟨_, rfl⟩
      rw [← hX]
      have hfX : Fr No w1 X := by rw [hX]; exact (Fr.refl No w1).alloc _
      have HX := hid hfX
      clear hX hfX
      go_wp2_with fail
      refine (new_calls A o k c HT.out.1 _ (HT.out.2.2 _ (HN.out.2.fr0 (HB.out.2.1.then HX.out))) (by rw [HT.out.1]; omega)).mono ?_
      rintro e w3 ⟨gc, rfl, hc3, hf3⟩
      have H3 := hid (And.intro hc3 hf3)
      clear hc3 hf3
      go_wp2_with fail
      refine (C1.out _ gc _ _ H3.out.1).mono ?_
      rintro e w4 ⟨rfl, hc4, hf4⟩
      have H4 := hid (And.intro hc4 hf4)
      clear hc4 hf4
      go_wp2_with fail
      refine (C2.out _ gc _ _ H4.out.1).mono ?_
      rintro e w6 ⟨rfl, hc6, hf6⟩
      have H6 := hid (And.intro hc6 (H4.out.2.then hf6))
      clear hc6 hf6
      go_wp2_with fail
      obtain ⟨gt, hgt⟩ : ∃ g, g = w6.heap.size := ⟨_, rfl⟩
      obtain ⟨Y, hY⟩ : ∃ Y, Y = w6.alloc (.cells #[.int .i64 K, .int .u32 (U : Int), .int .i64 0, .int .u32 0, .int .i64 0, .int .i64 0, .int .i64 0, .int .i64 0, .int .i64 0, .int .i64 0, .slice none 0 0, .slice none 0 0] 26) := ⟨_, rfl⟩
      rw [← hY, ← hgt]
      have hbY : Y.heap[gt]? = some (.cells #[.int .i64 K, .int .u32 (U : Int), .int .i64 0, .int .u32 0, .int .i64 0, .int .i64 0, .int .i64 0, .int .i64 0, .int .i64 0, .int .i64 0, .slice none 0 0, .slice none 0 0] 26 (0, 0)) := by rw [hY, hgt]; exact heap_new _ _
      have hfY : Fr No w6 Y := by rw [hY]; exact (Fr.refl _ _).alloc _
      have hgtY : gt < Y.heap.size := (Array.getElem?_eq_some_iff.1 hbY).1
      have n0 := (blk12 hbY).1
      have HY := hid (And.intro hbY (And.intro hfY hgt))
      clear hY hbY hfY hgt
      obtain ⟨fa, fb, hfab⟩ : ∃ a b : Value, (kindB K = true ∧ ∃ f f', formAt K = some (f, f') ∧ a = .func (.func f) #[] #[] ∧ b = .func (.func f') #[] #[]) ∨ (kindB K = false ∧ a = .nilFunc ∧ b = .nilFunc) := by
        cases hkb : kindB K with
        | true => obtain ⟨f, f', hff⟩ := formAt_yes hkb; exact ⟨_, _, .inl ⟨rfl, f, f', hff, rfl, rfl⟩⟩
        | false => exact ⟨_, _, .inr ⟨rfl, rfl, rfl⟩⟩
      have HFAB := hid hfab
      obtain ⟨kb, hkb⟩ : ∃ b, b = kindB K := ⟨_, rfl⟩
      have HKb := hid hkb
      clear hfab hkb
      go_cut [9, 10] (fun s9 s10 wx => ∃ q : Nat, s9 = .pointer (some ⟨q, 0, none⟩) ∧ s10 = .bool kb ∧ wx.heap[q]? = some (.cells #[fa, fb] 44 (0, 0)) ∧ Fr No Y wx ∧ Y.heap.size ≤ q)
      case first =>
        rcases HFAB.out with ⟨hk1, f, f', hff, rfl, rfl⟩ | ⟨hk1, rfl, rfl⟩
        · have HFF := hid hff
          obtain rfl : kb = true := HKb.out.trans hk1
          clear hff hk1
          go_region_held3 (fun w' => w'.cell? ⟨gt, 0, none⟩ = some (.int .i64 K))
            (first | assumption | exact keepSt hgtY n8 | (refine keepC ((Fr.refl No _).alloc _) ?_ (fun h => h) (by assumption); first | omega | (simp; omega)) | exact keepC hf8 (by first | omega | (simp; omega)) (fun h => h) (by assumption))
            ((go_at_call 17; (with_reducible refine (forms_calls _).mono ?_); rintro e w8 ⟨b, rfl, hb8, hge8, hf8⟩; have hl1 := look_forms hb8 K f f' HFF.out; have hl2 := look_forms (W := w8.drew) hb8 K f f' HFF.out; have hl3 : ∀ ob, (Instr.lookup 46 (.map (some b)) (.int .i64 K) true).run Try.prog (w8.alloc ob) = _ := fun ob => look_forms (W := w8.alloc ob) ((((Fr.refl No w8).alloc ob).block b (Array.getElem?_eq_some_iff.1 hb8).1 (fun h => h)).trans hb8) K f f' HFF.out; have n8 : w8.cell? ⟨gt, 0, none⟩ = some (.int .i64 K) := (by first | exact (hf8.cellg gt 0 (by first | omega | (simp; omega)) (fun h => h)).trans n0 | exact (hf8.cellg gt 0 (by first | omega | (simp; omega)) (fun h => h)).trans (keepC (S := No) ((Fr.refl No Y).alloc _) hgtY (fun h => h) n0) | exact (hf8.cellg gt 0 (by first | omega | (simp; omega)) (fun h => h)).trans (keepC (S := No) ((Fr.refl No Y).alloc _).drew hgtY (fun h => h) n0) | exact (hf8.cellg gt 0 (by first | omega | (simp; omega)) (fun h => h)).trans (keepC (S := No) ((Fr.refl No Y).drew.alloc _) hgtY (fun h => h) n0)); (try (have hq8 : w8.heap[Y.heap.size]? = some (.cells #[.nilFunc, .nilFunc] 44 (0, 0)) := (hf8.block Y.heap.size (by simp) (fun h => h)).trans (heap_new Y _); obtain ⟨q0, q1, z0, z1⟩ := blk2f hq8)); have hgt8 : gt < w8.heap.size := Nat.lt_of_lt_of_le (by first | omega | (simp; omega)) hf8.size))
          all_goals
            go_wp2_with fail
            go_meet
            first
              | exact ⟨w8.heap.size, rfl, rfl, heap_new w8 _, by repeat (first | with_reducible exact Fr.refl _ _ | with_reducible refine Fr.then ?_ hf8 | with_reducible refine Fr.drew ?_ | with_reducible refine Fr.alloc ?_ _), by have := hf8.size; (try simp only [World.size_drew, World.size_alloc] at this); omega⟩
              | exact ⟨Y.heap.size, rfl, rfl, st2b hq8 _ _, frB (by repeat (first | with_reducible exact Fr.refl _ _ | with_reducible refine Fr.then ?_ hf8 | with_reducible refine Fr.drew ?_ | with_reducible refine Fr.alloc ?_ _)) _ _, Nat.le_refl _⟩
        · obtain rfl : kb = false := HKb.out.trans hk1
          have HKB := hid (show kindIn K = false from hk1)
          clear hk1
          go_region_held3 (fun w' => w'.cell? ⟨gt, 0, none⟩ = some (.int .i64 K))
            (first | assumption | exact keepSt hgtY n8 | (refine keepC ((Fr.refl No _).alloc _) ?_ (fun h => h) (by assumption); first | omega | (simp; omega)) | exact keepC hf8 (by first | omega | (simp; omega)) (fun h => h) (by assumption))
            ((go_at_call 17; (with_reducible refine (forms_calls _).mono ?_); rintro e w8 ⟨b, rfl, hb8, hge8, hf8⟩; have hl1 := look_forms_no hb8 K HKB.out; have hl2 := look_forms_no (W := w8.drew) hb8 K HKB.out; have hl3 : ∀ ob, (Instr.lookup 46 (.map (some b)) (.int .i64 K) true).run Try.prog (w8.alloc ob) = _ := fun ob => look_forms_no (W := w8.alloc ob) ((((Fr.refl No w8).alloc ob).block b (Array.getElem?_eq_some_iff.1 hb8).1 (fun h => h)).trans hb8) K HKB.out; have n8 : w8.cell? ⟨gt, 0, none⟩ = some (.int .i64 K) := (by first | exact (hf8.cellg gt 0 (by first | omega | (simp; omega)) (fun h => h)).trans n0 | exact (hf8.cellg gt 0 (by first | omega | (simp; omega)) (fun h => h)).trans (keepC (S := No) ((Fr.refl No Y).alloc _) hgtY (fun h => h) n0) | exact (hf8.cellg gt 0 (by first | omega | (simp; omega)) (fun h => h)).trans (keepC (S := No) ((Fr.refl No Y).alloc _).drew hgtY (fun h => h) n0) | exact (hf8.cellg gt 0 (by first | omega | (simp; omega)) (fun h => h)).trans (keepC (S := No) ((Fr.refl No Y).drew.alloc _) hgtY (fun h => h) n0)); (try (have hq8 : w8.heap[Y.heap.size]? = some (.cells #[.nilFunc, .nilFunc] 44 (0, 0)) := (hf8.block Y.heap.size (by simp) (fun h => h)).trans (heap_new Y _); obtain ⟨q0, q1, z0, z1⟩ := blk2f hq8)); have hgt8 : gt < w8.heap.size := Nat.lt_of_lt_of_le (by first | omega | (simp; omega)) hf8.size))
          all_goals
            go_wp2_with fail
            go_meet
            first
              | exact ⟨w8.heap.size, rfl, rfl, heap_new w8 _, by repeat (first | with_reducible exact Fr.refl _ _ | with_reducible refine Fr.then ?_ hf8 | with_reducible refine Fr.drew ?_ | with_reducible refine Fr.alloc ?_ _), by have := hf8.size; (try simp only [World.size_drew, World.size_alloc] at this); omega⟩
              | exact ⟨Y.heap.size, rfl, rfl, st2b hq8 _ _, frB (by repeat (first | with_reducible exact Fr.refl _ _ | with_reducible refine Fr.then ?_ hf8 | with_reducible refine Fr.drew ?_ | with_reducible refine Fr.alloc ?_ _)) _ _, Nat.le_refl _⟩
      case rest =>
        obtain ⟨wq, rfl⟩ : ∃ x : World, x = wc := ⟨_, rfl⟩
        obtain ⟨qt, rfl, rfl, hbq, hfq, hq0⟩ := hcut
        have HQ := hid (And.intro hbq (And.intro hfq hq0))
        clear hbq hfq hq0 n0
        have hgw : g < w1.heap.size ∧ w1.heap.size ≤ X.heap.size ∧ X.heap.size ≤ gc ∧ gc < w3.heap.size ∧ w3.heap.size ≤ w6.heap.size ∧ gt = w6.heap.size ∧ w.heap.size ≤ w1.heap.size ∧ w6.heap.size ≤ Y.heap.size ∧ Y.heap.size ≤ wq.heap.size ∧ Y.heap.size ≤ qt ∧ gt < Y.heap.size :=
          ⟨(Array.getElem?_eq_some_iff.1 HB.out.1).1, HX.out.size, H3.out.1.gl, H3.out.1.gu, H6.out.2.size, HY.out.2.2, HB.out.2.1.size, HY.out.2.1.size, HQ.out.2.1.size, HQ.out.2.2, (Array.getElem?_eq_some_iff.1 HY.out.1).1⟩
        have hFc : Fr (One gc) w1 wq := ((((HX.out.then H3.out.2).any).then H6.out.2).then (HY.out.2.1.then HQ.out.2.1).any)
        have hG : ∀ V, Fr (Two gc gt) wq V → V.heap[g]? = some (.cells #[.int .i64 0, .int .u32 0, .int .i64 0, .int .u32 0, .int .i64 0, .int .i64 0, .int .i64 0, .int .i64 0, .int .i64 0, .int .i64 0, .slice none 0 0, .slice none 0 0] 26 (0, 0)) ∧ Fr No w V := fun V hf => by
          have h1 : V.heap[g]? = wq.heap[g]? := hf.block g (by omega) (fun e => by rcases e with e | e <;> omega)
          have h2 : wq.heap[g]? = w1.heap[g]? := hFc.block g (by omega) (fun e => by have e : g = gc := e; omega)
          refine ⟨h1.trans (h2.trans HB.out.1), ?_⟩
          exact (HB.out.2.1.trans hFc (fun k hk e => by have e : k = gc := e; omega)).trans hf (fun k hk e => by rcases e with e | e <;> omega)
        have HG := hid hG
        have hcW : Cur X.heap.size w3.heap.size wq gc o s2.p s2.e := H6.out.1.fr (HY.out.2.1.then HQ.out.2.1) (fun _ _ _ h => h)
        have hbW : wq.heap[gt]? = some (.cells #[.int .i64 K, .int .u32 (U : Int), .int .i64 0, .int .u32 0, .int .i64 0, .int .i64 0, .int .i64 0, .int .i64 0, .int .i64 0, .int .i64 0, .slice none 0 0, .slice none 0 0] 26 (0, 0)) := (HQ.out.2.1.block gt (by omega) (fun h => h)).trans HY.out.1
        have HC := hid (And.intro hcW (And.intro hbW hgw))
        clear hFc hG hcW hbW hgw
        cases kb with
        | false =>
          have hp : prB o = false := by rw [HM.out.2, ← HKb.out]; rfl
          have HE := hid (show srdE bs = 3 ∧ srdM bs = zeroM by rw [HE3.out.1, HE3.out.2, hp]; exact ⟨rfl, rfl⟩)
          clear hp
          have hb0 := (HG.out wq (Fr.refl _ _)).1
          have HG0 := hid hb0
          obtain ⟨x0, x1, x2, x3, x4, x5, x6, x7, x8, x9, x10, x11⟩ := blk12 hb0
          have z := free12 hb0
          clear hb0
          go_wp2_with fail
          refine ret_cell2 rfl (g := g) rfl rfl (load_msg (set12 HG0.out _ _ _ _ _ _ _ _ _ _ _ _)) rfl ?_
          rw [HE.out.1, HE.out.2]
          exact ⟨none, 0, 0, none, 0, 0, rfl, RM.none rfl rfl, (HG.out wq (Fr.refl _ _)).2.trans (fr12 wq g _ _ _ _ _ _ _ _ _ _ _ _) (fun k hk e => by have e : k = g := e; have := HB.out.2.2; omega)⟩
        | true =>
          obtain ⟨f, f', hff, ea, eb⟩ : ∃ f f', formAt K = some (f, f') ∧ fa = .func (.func f) #[] #[] ∧ fb = .func (.func f') #[] #[] := by
            rcases HFAB.out with ⟨_, h⟩ | ⟨h, _⟩
            · exact h
            · exact absurd (HKb.out.trans h) (by simp)
          have hq1 := (blk2f HQ.out.1).2.1
          rw [eb] at hq1
          have HFF := hid hff
          clear hff ea eb
          go_upto_if 49 with fail
          go_cut [8] (fun s8 w9 => s8 = .pointer (some ⟨gt, 0, none⟩) ∧ Cur X.heap.size w3.heap.size w9 gc o se.p se.e ∧ Fr (Two gc gt) wq w9 ∧ ∃ rA rn rc dA dn dc, w9.heap[gt]? = some (.cells (mC M (.slice rA rn rc) (.slice dA dn dc)) 26 (0, 0)) ∧ RM wq.heap.size w9 M rA rn rc dA dn dc)
          case first =>
            rcases formAt_lits HFF.out with rfl | rfl | rfl | rfl | rfl
            all_goals
              go_wp2_with fail
              refine (parts_calls wq gc gt o s2 K U f _ HFF.out HC.out.1 HC.out.2.1 (.inr (by have := HC.out.2.2; omega)) (by have := HC.out.2.2; omega)).mono ?_
              rw [HM.out.1.1, HM.out.1.2]
              rintro e w9 ⟨rfl, hret⟩
              have HRET := hid hret
              clear hret
              go_wp2_with fail
              go_meet
              exact ⟨rfl, HRET.out⟩
          case rest =>
            obtain ⟨rfl, hc9, hf9, rA, rn, rc, dA, dn, dc, hb9, hm9⟩ := hcut
            have H9 := hid (And.intro hc9 (And.intro hf9 (And.intro hb9 hm9)))
            clear hc9 hf9 hb9 hm9 hq1
            by_cases he : se.e = 0
            · have hne0 : (se.e != 0) = false := by simpa using he
              have hlb : 0 ≤ lf o se ∧ lf o se ≤ 9223372036854775807 := by
                unfold lf leftS
                have := H9.out.1.len
                split
                all_goals omega
              obtain ⟨lv, hlv⟩ : ∃ x, x = lf o se := ⟨_, rfl⟩
              have hleft : ∀ W, Cur X.heap.size w3.heap.size W gc o se.p se.e → Calls Try.prog 31 #[.pointer (some ⟨gc, 0, none⟩)] W fun e w' => e = .returned (.int .i64 lv) ∧ ∃ n, w' = W.drewN n := fun W h => by rw [hlv]; exact left_calls W gc o se.p se.e h
              rw [← hlv] at hlb
              have HL := hid hleft
              by_cases hlp : 0 < lv
              · have hp : prB o = false := by rw [HM.out.2, ← hlv, decide_eq_true hlp]; simp
                have HE := hid (show srdE bs = 3 ∧ srdM bs = zeroM by rw [HE3.out.1, HE3.out.2, hp]; exact ⟨rfl, rfl⟩)
                clear hp hlv hleft he
                go_wp2_with fail
                refine (err_calls wc gc o se.p se.e H9.out.1).mono ?_
                rintro e we ⟨rfl, hwe⟩
                rw [hwe]
                clear hwe we
                go_wp2_with fail
                refine (HL.out wc H9.out.1).mono ?_
                rintro e wl ⟨rfl, q, rfl⟩
                have HV := hid (HG.out (wc.drewN q) (H9.out.2.1.drewN q))
                obtain ⟨x0, x1, x2, x3, x4, x5, x6, x7, x8, x9, x10, x11⟩ := blk12 HV.out.1
                have z := free12 HV.out.1
                go_wp2_with fail
                refine ret_cell2 rfl (g := g) rfl rfl (load_msg (set12 HV.out.1 _ _ _ _ _ _ _ _ _ _ _ _)) rfl ?_
                rw [HE.out.1, HE.out.2]
                exact ⟨none, 0, 0, none, 0, 0, rfl, RM.none rfl rfl, HV.out.2.trans (fr12 _ g _ _ _ _ _ _ _ _ _ _ _ _) (fun k hk e => by have e : k = g := e; have := HB.out.2.2; omega)⟩
              · obtain ⟨RB, hRB⟩ : ∃ b, b = rangedB M := ⟨_, rfl⟩
                have hp : prB o = RB := by rw [HM.out.2, ← hlv, decide_eq_false hlp, ← HKb.out, decide_eq_true he, ← hRB]; simp
                have hran : ∀ W, RM wq.heap.size W M rA rn rc dA dn dc → Calls Try.prog 18 #[.agg (mC M (.slice rA rn rc) (.slice dA dn dc))] W fun e w' => e = .returned (.bool RB) ∧ Fr No W w' := fun W h => by
                  rw [hRB]
                  have hRl := h.rl
                  have hDl := h.dl
                  exact ranged_calls M.K M.U M.F M.S M.Z M.P M.Y M.X M.Q M.C M.R M.D rA dA rn rc dn dc W h.rl h.dl h.rd (by have := hmlen; omega) (by have := hmlen; omega)
                have HRA := hid hran
                have HP := hid hp
                clear hp hlv hleft he hRB hran
                go_wp2_with fail
                refine (err_calls wc gc o se.p se.e H9.out.1).mono ?_
                rintro e we ⟨rfl, hwe⟩
                rw [hwe]
                clear hwe we
                go_wp2_with fail
                refine (HL.out wc H9.out.1).mono ?_
                rintro e wl ⟨rfl, q, rfl⟩
                obtain ⟨m0, m1, m2, m3, m4, m5, m6, m7, m8, m9, m10, m11⟩ := blk12 (show (wc.drewN q).heap[gt]? = some (.cells #[.int .i64 M.K, .int .u32 (M.U : Int), .int .i64 M.F, .int .u32 (M.S : Int), .int .i64 M.Z, .int .i64 M.P, .int .i64 M.Y, .int .i64 M.X, .int .i64 M.Q, .int .i64 M.C, .slice rA rn rc, .slice dA dn dc] 26 (0, 0)) from H9.out.2.2.1)
                go_wp2_with fail
                refine (HRA.out (wc.drewN q) (H9.out.2.2.2.fr0 ((Fr.refl No wc).drewN q))).mono ?_
                rintro e w10 ⟨rfl, hf10⟩
                have hF10 : Fr (Two gc gt) wq w10 := (H9.out.2.1.drewN q).then hf10.any
                have HV := hid (And.intro (HG.out w10 hF10).1 (And.intro (HG.out w10 hF10).2 (And.intro hf10 hF10)))
                obtain ⟨x0, x1, x2, x3, x4, x5, x6, x7, x8, x9, x10, x11⟩ := blk12 HV.out.1
                have z := free12 HV.out.1
                clear m0 m1 m2 m3 m4 m5 m6 m7 m8 m9 m10 m11 hf10 hF10
                cases RB with
                | false =>
                  have HE := hid (show srdE bs = 3 ∧ srdM bs = zeroM by rw [HE3.out.1, HE3.out.2, HP.out]; exact ⟨rfl, rfl⟩)
                  go_wp2_with fail
                  refine ret_cell2 rfl (g := g) rfl rfl (load_msg (set12 HV.out.1 _ _ _ _ _ _ _ _ _ _ _ _)) rfl ?_
                  rw [HE.out.1, HE.out.2]
                  exact ⟨none, 0, 0, none, 0, 0, rfl, RM.none rfl rfl, HV.out.2.1.trans (fr12 _ g _ _ _ _ _ _ _ _ _ _ _ _) (fun k hk e => by have e : k = g := e; have := HB.out.2.2; omega)⟩
                | true =>
                  have HE := hid (show srdE bs = 0 ∧ srdM bs = M by rw [HE3.out.1, HE3.out.2, HP.out]; exact ⟨rfl, rfl⟩)
                  have hb10 : w10.heap[gt]? = some (.cells #[.int .i64 M.K, .int .u32 (M.U : Int), .int .i64 M.F, .int .u32 (M.S : Int), .int .i64 M.Z, .int .i64 M.P, .int .i64 M.Y, .int .i64 M.X, .int .i64 M.Q, .int .i64 M.C, .slice rA rn rc, .slice dA dn dc] 26 (0, 0)) :=
                    (HV.out.2.2.1.block gt (Array.getElem?_eq_some_iff.1 H9.out.2.2.1).1 (fun h => h)).trans H9.out.2.2.1
                  obtain ⟨m0, m1, m2, m3, m4, m5, m6, m7, m8, m9, m10, m11⟩ := blk12 hb10
                  clear hb10
                  go_wp2_with fail
                  refine ret_cell2 rfl (g := g) rfl rfl (load_msg (set12 HV.out.1 _ _ _ _ _ _ _ _ _ _ _ _)) rfl ?_
                  rw [HE.out.1, HE.out.2]
                  have hfin := fr12 w10 g (.int .i64 M.K) (.int .u32 (M.U : Int)) (.int .i64 M.F) (.int .u32 (M.S : Int)) (.int .i64 M.Z) (.int .i64 M.P) (.int .i64 M.Y) (.int .i64 M.X) (.int .i64 M.Q) (.int .i64 M.C) (.slice rA rn rc) (.slice dA dn dc)
                  have hgl := HC.out.2.2
                  have hm10 : RM wq.heap.size w10 M rA rn rc dA dn dc := H9.out.2.2.2.fr0 (((Fr.refl No wc).drewN q).then HV.out.2.2.1)
                  refine ⟨rA, rn, rc, dA, dn, dc, rfl, ⟨hm10.rl, hm10.dl, hm10.rd.fr hfin (fun ad e e' => by have e' : ad.block = g := e'; have := hm10.rf ad e; omega), hm10.dd.fr hfin (fun ad e e' => by have e' : ad.block = g := e'; have := hm10.df ad e; omega), hm10.rcap, hm10.dcap, fun ad e => by have := hm10.rf ad e; omega, fun ad e => by have := hm10.df ad e; omega⟩, HV.out.2.1.trans hfin (fun k hk e => by have e : k = g := e; have := HB.out.2.2; omega)⟩
            · have hne0 : (se.e != 0) = true := by simpa using he
              have hp : prB o = false := by rw [HM.out.2, decide_eq_false he]; simp
              have HE := hid (show srdE bs = 3 ∧ srdM bs = zeroM by rw [HE3.out.1, HE3.out.2, hp]; exact ⟨rfl, rfl⟩)
              clear hp he
              go_wp2_with fail
              refine (err_calls wc gc o se.p se.e H9.out.1).mono ?_
              rintro e we ⟨rfl, hwe⟩
              rw [hwe]
              clear hwe we
              have HV := hid (HG.out wc H9.out.2.1)
              obtain ⟨x0, x1, x2, x3, x4, x5, x6, x7, x8, x9, x10, x11⟩ := blk12 HV.out.1
              have z := free12 HV.out.1
              go_wp2_with fail
              refine ret_cell2 rfl (g := g) rfl rfl (load_msg (set12 HV.out.1 _ _ _ _ _ _ _ _ _ _ _ _)) rfl ?_
              rw [HE.out.1, HE.out.2]
              exact ⟨none, 0, 0, none, 0, 0, rfl, RM.none rfl rfl, HV.out.2.trans (fr12 _ g _ _ _ _ _ _ _ _ _ _ _ _) (fun k hk e => by have e : k = g := e; have := HB.out.2.2; omega)⟩
    · have hne : ((L : Int) != (C : Int)) = true := by rw [bne_iff_ne]; omega
      have hE3 : srdE bs = 4 := by
        unfold srdE
        rw [if_neg (by rw [HN.out.1]; exact h13), HN.out.1, ← hk, ← ho, if_pos (by rw [← hC, ← hL]; exact hS)]
      have HE := hid hE3
      clear hk hL hC hd4 htk ho hrd hb hf1 hS hE3
      go_enter Try.func13, Try.ntmps13
      go_wp2_with fail
      rw [← HW1.out, ← HB.out.2.2]
      refine (little_calls A bs m c HN.out.1 (k : Int) 4 _ (HN.out.2.fr0 HB.out.2.1) (by rw [HN.out.1]; omega)).mono ?_
      rw [HLit.out.1, HLit.out.2]
      rintro e w2 ⟨rfl, hw2⟩
      rw [hw2]
      clear hw2 w2
      go_wp2_with fail
      refine (of_calls _ 1 1 [.slice A k c] [o] rfl _ (rdS1 rfl HT.out.1 (HT.out.2.2 _ (HN.out.2.fr0 HB.out.2.1))) (by simp only [List.flatten_cons, List.flatten_nil, List.append_nil, HT.out.1]; omega) (by decide)).mono ?_
      rw [show [o].flatten = o by simp, ← HCC.out]
      rintro e w5 ⟨rfl, hw5⟩
      rw [hw5]
      clear hw5 w5
      obtain ⟨X, hX⟩ : ∃ X, X = w1.alloc (.cells #[.slice A k c] 24) := ⟨_, rfl⟩
      rw [← hX]
      have hfX : Fr No w1 X := by rw [hX]; exact (Fr.refl No w1).alloc _
      have hbX : X.heap[g]? = some (.cells #[.int .i64 0, .int .u32 0, .int .i64 0, .int .u32 0, .int .i64 0, .int .i64 0, .int .i64 0, .int .i64 0, .int .i64 0, .int .i64 0, .slice none 0 0, .slice none 0 0] 26 (0, 0)) := (hfX.block g (Array.getElem?_eq_some_iff.1 HB.out.1).1 (fun h => h)).trans HB.out.1
      have HX := hid (And.intro hbX hfX)
      obtain ⟨x0, x1, x2, x3, x4, x5, x6, x7, x8, x9, x10, x11⟩ := blk12 hbX
      have z := free12 hbX
      clear hX hfX hbX
      go_wp2_with fail
      refine ret_cell2 rfl (g := g) rfl rfl (load_msg (set12 HX.out.1 _ _ _ _ _ _ _ _ _ _ _ _)) rfl ?_
      rw [HE.out, srdM_no HE.out (by decide)]
      exact ⟨none, 0, 0, none, 0, 0, rfl, RM.none rfl rfl, (HB.out.2.1.then HX.out.2).trans (fr12 _ g _ _ _ _ _ _ _ _ _ _ _ _) (fun k hk e => by have e : k = g := e; have := HB.out.2.2; omega)⟩
end Go.Proofs.Ytamkfjbdcjkchaa

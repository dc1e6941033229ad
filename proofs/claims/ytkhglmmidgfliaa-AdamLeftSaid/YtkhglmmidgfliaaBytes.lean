/- The contract of adam.Bytes. -/
import Derived.Test.YtkhglmmidgfliaaCount
namespace Go.Proofs.Ytkhglmmidgfliaa
open Go.RowKit Go.Proofs.HK
set_option linter.unusedVariables false
set_option linter.unusedSimpArgs false
attribute [local go_sem] max2_int min2_int max_two min_two
attribute [local go_sem] Oper.semAt_some

def rowB (S D n : Nat) : Nat := 1 + (n * S * D + 7) / 8
def sumB (S D : Nat) (its : List (Nat × List (Nat × Nat))) : Nat := (its.map fun it => rowB S D it.2.length).sum
theorem sumB_nil (S D : Nat) : sumB S D [] = 0 := rfl
theorem sumB_append (S D : Nat) (a b : List (Nat × List (Nat × Nat))) : sumB S D (a ++ b) = sumB S D a + sumB S D b := by simp [sumB]
theorem sumB_take {S D k : Nat} {its : List (Nat × List (Nat × Nat))} {it : Nat × List (Nat × Nat)} (h : its[k]? = some it) : sumB S D (its.take (k + 1)) = sumB S D (its.take k) + rowB S D it.2.length := by
  obtain ⟨hk, rfl⟩ := List.getElem?_eq_some_iff.1 h
  rw [List.take_succ_eq_append_getElem hk, sumB_append]
  simp [sumB]
theorem itemsF_len (ps : List PN) (hps : ∀ p ∈ ps, p.ok) : ∀ j it, it ∈ itemsF j ps → it.2.length ≤ 4096 := by
  induction ps with
  | nil => intro j it h; cases h
  | cons p ps ih =>
    intro j it h
    rw [itemsF] at h
    rcases List.mem_append.1 h with h | h
    · obtain ⟨r, _, rfl⟩ := List.mem_map.1 h
      rw [spotRow_length]
      exact (hps p (List.mem_cons_self ..)).2.2.2.2.1
    · exact ih (fun q hq => hps q (List.mem_cons_of_mem _ hq)) _ _ h
theorem rowB_le {S D n : Nat} (hS : S ≤ 4) (hD : D ≤ 16) (hn : n ≤ 4096) : n * S * D ≤ 262144 ∧ n * S ≤ 16384 ∧ rowB S D n ≤ 32769 := by
  have h1 : n * S ≤ 4096 * 4 := Nat.mul_le_mul hn hS
  have h2 : n * S * D ≤ 4096 * 4 * 16 := Nat.mul_le_mul h1 hD
  unfold rowB
  omega
theorem sumB_le {S D : Nat} (hS : S ≤ 4) (hD : D ≤ 16) (its : List (Nat × List (Nat × Nat))) (h : ∀ it ∈ its, it.2.length ≤ 4096) : sumB S D its ≤ its.length * 32769 := by
  induction its with
  | nil => exact Nat.le_refl _
  | cons a l ih =>
    have := ih (fun it hit => h it (List.mem_cons_of_mem _ hit))
    have h2 := (rowB_le hS hD (h a (List.mem_cons_self ..))).2.2
    have e : sumB S D (a :: l) = rowB S D a.2.length + sumB S D l := by simp [sumB]
    rw [e, List.length_cons]
    omega
def bytesS (W H D : Int) (L : Bool) (S : Int) : Nat := if S < 1 ∨ S > 4 ∨ D < 1 ∨ D > 16 then 0 else sumB S.toNat D.toNat (itsOf W H L)

set_option maxRecDepth 100000 in
set_option maxHeartbeats 3200000 in
theorem bytes_calls (W H C D : Int) (L : Bool) (S : Int) (w : World) : Calls Try.prog 23 #[headV W H C D L, .int .i64 S] w fun e w' => e = .returned (.int .i64 (bytesS W H D L S)) ∧ Fr No w w' := by
  by_cases h1 : S < 1
  · have HB := hid (show bytesS W H D L S = 0 from if_pos (.inl h1))
    unfold headV
    go_enter Try.func23, Try.ntmps23
    go_wp2_with fail
    go_ret
    rw [HB.out]
    exact ⟨rfl, (((Fr.refl No w).alloc _).alloc _)⟩
  by_cases h2 : S > 4
  · have HB := hid (show bytesS W H D L S = 0 from if_pos (.inr (.inl h2)))
    unfold headV
    go_enter Try.func23, Try.ntmps23
    go_wp2_with fail
    go_ret
    rw [HB.out]
    exact ⟨rfl, (((Fr.refl No w).alloc _).alloc _)⟩
  by_cases h3 : D < 1
  · have HB := hid (show bytesS W H D L S = 0 from if_pos (.inr (.inr (.inl h3))))
    unfold headV
    go_enter Try.func23, Try.ntmps23
    go_wp2_with fail
    go_ret
    rw [HB.out]
    exact ⟨rfl, (((Fr.refl No w).alloc _).alloc _)⟩
  by_cases h4 : D > 16
  · have HB := hid (show bytesS W H D L S = 0 from if_pos (.inr (.inr (.inr h4))))
    unfold headV
    go_enter Try.func23, Try.ntmps23
    go_wp2_with fail
    go_ret
    rw [HB.out]
    exact ⟨rfl, (((Fr.refl No w).alloc _).alloc _)⟩
  obtain ⟨s, rfl⟩ : ∃ s : Nat, S = s := ⟨S.toNat, by omega⟩
  obtain ⟨d, rfl⟩ : ∃ d : Nat, D = d := ⟨D.toNat, by omega⟩
  have HB := hid (show bytesS W H d L s = sumB s d (itsOf W H L) by unfold bytesS; rw [if_neg (by omega)]; rfl)
  unfold headV
  refine (callsIn_wide (n := 4)).1 (callsIn_of_wp_marks Try.func23 rfl trivial (wpIn_wide.2 ?_) rfl)
  simp only [Try.ntmps23, List.size_toArray, List.length_cons, List.length_nil, Nat.reduceAdd, Nat.reduceSub, Array.replicate_succ, Array.replicate_zero, List.push_toArray, List.append_toArray, List.nil_append, List.cons_append]
  go_wp2_with fail
  refine (lines_calls W H L _).mono ?_
  rintro e w2 ⟨v, rfl, hI, hf2⟩
  obtain ⟨gI, rfl, hseq⟩ := hI.seq 3 (by decide) (psOf_ok W H L).1 (psOf_ok W H L).2
  obtain ⟨g, hg⟩ : ∃ g, g = w.heap.size := ⟨_, rfl⟩
  obtain ⟨w1, hw1⟩ : ∃ w1, w1 = ((w.alloc (.cells #[.int .i64 W, .int .i64 H, .int .i64 C, .int .i64 d, .bool L] 33)).alloc (.cells #[.int .i64 s] 3)).alloc (.cells #[.int .i64 0] 3) := ⟨_, rfl⟩
  rw [← hw1] at hf2 hI hseq
  rw [← hg]
  have hs1 : w1.heap.size = g + 1 + 1 + 1 := by rw [hw1, World.size_alloc, World.size_alloc, World.size_alloc, hg]
  have hb1 : w1.heap[g + 1 + 1]? = some (.cells #[.int .i64 0] 3 (0, 0)) := by
    have := heap_new ((w.alloc (.cells #[.int .i64 W, .int .i64 H, .int .i64 C, .int .i64 d, .bool L] 33)).alloc (.cells #[.int .i64 s] 3)) (.cells #[.int .i64 0] 3)
    rw [World.size_alloc, World.size_alloc, ← hg] at this; rw [hw1]; exact this
  have hb2 : w1.heap[g + 1]? = some (.cells #[.int .i64 s] 3 (0, 0)) := by
    have := heap_new (w.alloc (.cells #[.int .i64 W, .int .i64 H, .int .i64 C, .int .i64 d, .bool L] 33)) (.cells #[.int .i64 s] 3)
    rw [World.size_alloc, ← hg] at this
    rw [hw1, ((Fr.refl No ((w.alloc _).alloc _)).alloc _).block (g + 1) (by rw [World.size_alloc, World.size_alloc]; omega) (fun h => h)]; exact this
  have hb3 : w1.heap[g]? = some (.cells #[.int .i64 W, .int .i64 H, .int .i64 C, .int .i64 d, .bool L] 33 (0, 0)) := by
    have := heap_new w (.cells #[.int .i64 W, .int .i64 H, .int .i64 C, .int .i64 d, .bool L] 33)
    rw [← hg] at this
    rw [hw1, (((Fr.refl No (w.alloc _)).alloc _).alloc _).block g (by rw [World.size_alloc]; omega) (fun h => h)]; exact this
  have hf1 : Fr No w w1 := by rw [hw1]; exact (((Fr.refl _ _).alloc _).alloc _).alloc _
  have hs2 : g + 1 + 1 + 1 ≤ w2.heap.size := by rw [← hs1]; exact hf2.size
  have h0 : ∀ X, Fr No w2 X → X.cell? ⟨g + 1 + 1, 0, none⟩ = some (.int .i64 ((sumB s d ((itsOf W H L).take 0) : Nat) : Int)) ∧ X.frozen? ⟨g + 1 + 1, 0, none⟩ = false ∧ X.cell? ⟨g + 1, 0, none⟩ = some (.int .i64 s) ∧ X.cell? ⟨g, 3, none⟩ = some (.int .i64 d) ∧ Fr No w X := fun X hf => by
    have hF := hf2.then hf
    refine ⟨?_, ?_, ?_, ?_, hf1.then hF⟩
    · rw [hF.cellg (g + 1 + 1) 0 (by omega) (fun h => h)]; simp [World.cell?, hb1, sumB_nil]
    · rw [hF.frozen (p := ⟨g + 1 + 1, 0, none⟩) (by show g + 1 + 1 < _; omega) (fun h => h)]; simp [World.frozen?, hb1]
    · rw [hF.cellg (g + 1) 0 (by omega) (fun h => h)]; simp [World.cell?, hb2]
    · rw [hF.cellg g 3 (by omega) (fun h => h)]; simp [World.cell?, hb3]
  have H0 := hid h0
  have HG := hid hg
  obtain ⟨its, hits⟩ : ∃ its, its = itsOf W H L := ⟨_, rfl⟩
  have hlen : ∀ it ∈ its, it.2.length ≤ 4096 := fun it hit => by rw [hits] at hit; exact itemsF_len _ (psOf_ok W H L).1 0 it hit
  have hget : ∀ (k : Nat) (it : Nat × List (Nat × Nat)), (itemsF 0 (psOf W H L))[k]? = some it → its[k]? = some it := fun k it h => by rw [hits]; exact h
  have hNle : its.length ≤ 409600 := by rw [hits]; exact itsOf_le _ _ _
  rw [show (itemsF 0 (psOf W H L)).length = its.length by rw [hits]; rfl] at hseq
  have HI := hid (And.intro hlen hget)
  rw [← hits] at HB H0
  clear hg hw1 hb1 hb2 hb3 hf1 h0 hI hits hlen hget
  go_wp2_with fail
  refine wpIn_wide.1 (wpIn_rangeFunc_T (F := Fence.wide) (n := 4) rfl (by omega) (gf := 65) (lb := #[.pointer (some ⟨gI, 0, none⟩)]) rfl trivial (enters_of Try.func65 (by kernel_rfl) rfl)
    hseq (Nat.le_refl _) (KeepLU.refl _ _ _) (Nat.le_refl _)
    (fun k T X => T = HK.One (g + 1 + 1) ∧ X.cell? ⟨g + 1 + 1, 0, none⟩ = some (.int .i64 ((sumB s d (its.take k) : Nat) : Int)) ∧ X.frozen? ⟨g + 1 + 1, 0, none⟩ = false ∧ X.cell? ⟨g + 1, 0, none⟩ = some (.int .i64 s) ∧ X.cell? ⟨g, 3, none⟩ = some (.int .i64 d) ∧ Fr No w X)
    (fun _ _ _ => False) (HK.One (g + 1 + 1)) ?hT0 ?hI (fun _ _ _ _ h _ => h) ?hIT ?h0 ?hOk ?round ?done (fun _ _ _ _ h _ => h.elim))
  case hT0 => rintro b rfl; exact ⟨by omega, by omega⟩
  case hI =>
    rintro k T X Y ⟨rfl, q1, q2, q3, q4, q5⟩ hf
    have hl8 : g + 1 + 1 < X.heap.size := lt_of_cell (a := ⟨g + 1 + 1, 0, none⟩) q1
    have hne : ∀ b, b ≤ g + 1 + 1 → ¬ One (w2.heap.size + 1) b := fun b hb e => by have e : b = w2.heap.size + 1 := e; omega
    exact ⟨rfl, (hf.cellg _ 0 hl8 (hne _ (by omega))).trans q1, (hf.frozen (p := ⟨g + 1 + 1, 0, none⟩) hl8 (hne _ (by show g + 1 + 1 ≤ _; omega))).trans q2, (hf.cellg _ 0 (by omega) (hne _ (by omega))).trans q3, (hf.cellg _ 3 (by omega) (hne _ (by omega))).trans q4, q5.trans hf (fun j hj e => by have e : j = w2.heap.size + 1 := e; have := HG.out; omega)⟩
  case hIT => rintro k T X ⟨rfl, _⟩ b rfl; exact ⟨by omega, by omega⟩
  case h0 => intro X hf; exact ⟨rfl, H0.out X hf⟩
  case hOk =>
    intro k args X hk hok
    exact ⟨hok.args.1, fun b hb => by have := hok.args.2 b hb; omega, fun X' hf => hok.fr hf (fun b hb e => by have e : b = w2.heap.size + 1 := e; omega)⟩
  case round =>
    rintro k T args X X2 hk ⟨rfl, q1, q2, q3, q4, q5⟩ hTs hsz ⟨it, A, n, c, ob, hit, rfl, hn, hrow, _⟩
    have hit := HI.out.2 _ _ hit
    have hst := sumB_take (S := s) (D := d) hit
    have hn4 := HI.out.1 it (List.mem_of_getElem? hit)
    have hK1 := sumB_le (S := s) (D := d) (by omega) (by omega) (its.take k) (fun x hx => HI.out.1 x (List.mem_of_mem_take hx))
    rw [List.length_take] at hK1
    obtain ⟨ip, ix⟩ := it
    replace hn : ix.length = n := hn
    rw [hn] at hn4 hst
    obtain ⟨b1, b2, b3⟩ := rowB_le (S := s) (D := d) (n := n) (by omega) (by omega) hn4
    obtain ⟨M, hM⟩ : ∃ M, M = n * s * d := ⟨_, rfl⟩
    obtain ⟨M1, hM1⟩ : ∃ M1, M1 = n * s := ⟨_, rfl⟩
    obtain ⟨K1, hK⟩ : ∃ K1, K1 = sumB s d (its.take k) := ⟨_, rfl⟩
    have e1 : (n : Int) * (s : Int) = (M1 : Int) := by rw [hM1]; simp
    have e2 : (M1 : Int) * (d : Int) = (M : Int) := by rw [hM1, hM]; simp
    have HST := hid (show sumB s d (its.take (k + 1)) = K1 + (1 + (M + 7) / 8) by rw [hst, hK, hM]; rfl)
    have hl8 : g + 1 + 1 < X2.heap.size := lt_of_cell (a := ⟨g + 1 + 1, 0, none⟩) q1
    rw [← hK] at q1 hK1
    rw [← hM] at b1
    rw [← hM1] at b2
    have hK2 : K1 ≤ 13422182400 := by omega
    clear hst hit hM hM1 hK b3 hK1 hrow hTs
    simp only [List.zip_toArray, List.zip_cons_cons, List.zip_nil_right, List.foldl_toArray, List.foldl_cons, List.foldl_nil, List.setIfInBounds_toArray, List.set_cons_zero, List.set_cons_succ]
    gi_wp2
    refine ⟨trivial, ?_⟩
    gi_wp2
    have hZ : Fr (HK.One (g + 1 + 1)) X2 (X2.setCell ⟨g + 1 + 1, 0, none⟩ (.int .i64 ((K1 : Int) + (1 + ((M : Int) + 7) / 8)))) := Fr.set1 _ _ _ _
    have hgw := HG.out
    have hne : ∀ b, b ≤ g + 1 → ¬ HK.One (g + 1 + 1) b := fun b hb e => by have e : b = g + 1 + 1 := e; omega
    refine ⟨HK.One (g + 1 + 1), ⟨rfl, ?_, by rw [World.frozen?_setCell]; exact q2, (hZ.cellg _ 0 (by omega) (hne _ (by omega))).trans q3, (hZ.cellg _ 3 (by omega) (hne _ (by omega))).trans q4, q5.trans hZ (fun j hj (e : j = g + 1 + 1) => by omega)⟩, hZ.mono (fun b _ e => .inl e), fun b hb => ⟨Nat.lt_of_lt_of_le (by rw [show b = g + 1 + 1 from hb]; exact hl8) hZ.size, .inl hb⟩⟩
    rw [World.cell?_setCell_same' _ _ _ (by rw [q1]; rfl), HST.out]; simp
  case done =>
    rintro T X ⟨rfl, q1, q2, q3, q4, q5⟩ hD
    rw [List.take_length] at q1
    go_wp2_with fail
    refine ⟨by simp, .inl ⟨_, _, rfl, run_takeDeferred hD, ?_⟩⟩
    refine ⟨_, results_tmp rfl _ _ _, ?_⟩
    rw [HB.out]
    exact ⟨rfl, q5.trans (Fr.putObj _ _ _) (fun j hj (e : j = w2.heap.size) => by have := HG.out; omega)⟩
end Go.Proofs.Ytkhglmmidgfliaa

/- Images: their cells, and Same. -/
import Derived.Test.YtdbbkdlocmafgaaChk
import Derived.BigQuiet
namespace Go.Proofs.Ytdbbkdlocmafgaa
open Go.RowKit Go.Proofs.HK
set_option linter.unusedVariables false
set_option linter.unusedSimpArgs false

def colC (c : Col) : List Value := [.int .u16 c.1, .int .u16 c.2.1, .int .u16 c.2.2.1, .int .u16 c.2.2.2]
def colsC (l : List Col) : List Value := l.flatMap colC
theorem colsC_length (l : List Col) : (colsC l).length = l.length * 4 := by
  induction l with
  | nil => rfl
  | cons p ps ih => unfold colsC at *; rw [List.flatMap_cons, List.length_append, ih, List.length_cons]; simp [colC]; omega
theorem colsC_snoc (l : List Col) (c : Col) : colsC (l ++ [c]) = colsC l ++ colC c := by simp [colsC]
theorem colsC_get (l : List Col) (i k : Nat) (hi : i < l.length) (hk : k < 4) : (colsC l)[i * 4 + k]? = (colC l[i])[k]? := by
  induction l generalizing i with
  | nil => simp at hi
  | cons p ps ih =>
    unfold colsC at *
    rw [List.flatMap_cons]
    cases i with
    | zero => rw [List.getElem?_append_left (by simp [colC]; omega)]; simp
    | succ i =>
      rw [List.getElem?_append_right (by simp [colC]; omega)]
      have := ih i (by simpa using hi)
      rw [show (i + 1) * 4 + k - (colC p).length = i * 4 + k by simp [colC]; omega, this]
      simp
theorem cells4 {w : World} {A : Option Addr} {l : List Col} (h : Cells w A (colsC l)) (k : Nat) (hk : k < l.length) :
    ∃ ad, A = some ad ∧ w.cell? (ad.add (k * 4)) = some (.int .u16 l[k].1) ∧ w.cell? ⟨(ad.add (k * 4)).block, (ad.add (k * 4)).off + 1, none⟩ = some (.int .u16 l[k].2.1) ∧
      w.cell? ⟨(ad.add (k * 4)).block, (ad.add (k * 4)).off + 2, none⟩ = some (.int .u16 l[k].2.2.1) ∧ w.cell? ⟨(ad.add (k * 4)).block, (ad.add (k * 4)).off + 3, none⟩ = some (.int .u16 l[k].2.2.2) := by
  obtain ⟨ad, e, hc⟩ := h (by rw [colsC_length]; omega)
  have g : ∀ j (hj : j < 4) v, (colC l[k])[j]? = some v → w.cell? (ad.add (k * 4 + j)) = some v := fun j hj v hv => hc _ v (by rw [colsC_get l k j hk hj]; exact hv)
  exact ⟨ad, e, g 0 (by omega) _ rfl, cellAt (g 1 (by omega) _ rfl), cellAt (g 2 (by omega) _ rfl), cellAt (g 3 (by omega) _ rfl)⟩
set_option maxRecDepth 100000 in
set_option maxHeartbeats 1600000 in
/-- The same image, of two slices that read alike. -/
theorem sameImg_calls (W H : Int) (l : List Col) (A A' : Option Addr) (n c c' : Nat) (w : World) (hn : l.length = n) (hl : n ≤ 1000000) (h1 : Cells w A (colsC l)) (h2 : Cells w A' (colsC l)) :
    Calls Try.prog 24 #[.agg #[.int .i64 W, .int .i64 H, .slice A n c], .agg #[.int .i64 W, .int .i64 H, .slice A' n c']] w fun e w' => e = .returned (.bool true) ∧ Fr No w w' := by
  have HN := hid (And.intro hn (And.intro h1 h2))
  obtain ⟨X, hX⟩ : ∃ X, X = (w.alloc (.cells #[.int .i64 W, .int .i64 H, .slice A n c] 52)).alloc (.cells #[.int .i64 W, .int .i64 H, .slice A' n c'] 52) := ⟨_, rfl⟩
  obtain ⟨g1, hg1⟩ : ∃ g, g = w.heap.size := ⟨_, rfl⟩
  have hfX : Fr No w X := by rw [hX]; exact ((Fr.refl No w).alloc _).alloc _
  have hb1 : X.heap[g1]? = some (.cells #[.int .i64 W, .int .i64 H, .slice A n c] 52 (0, 0)) := by
    rw [hX, hg1]; exact (((Fr.refl No (w.alloc _)).alloc _).block w.heap.size (by simp) (fun h => h)).trans (heap_new w _)
  have hb2 : X.heap[g1 + 1]? = some (.cells #[.int .i64 W, .int .i64 H, .slice A' n c'] 52 (0, 0)) := by
    have := heap_new (w.alloc (.cells #[.int .i64 W, .int .i64 H, .slice A n c] 52)) (.cells #[.int .i64 W, .int .i64 H, .slice A' n c'] 52)
    rw [World.size_alloc, ← hg1] at this
    rw [hX]; exact this
  have HX := hid (And.intro hX (And.intro hg1 (And.intro hfX (And.intro hb1 hb2))))
  have hw : (W != W) = false := by simp
  have hh : (H != H) = false := by simp
  have hnn : ((n : Int) != (n : Int)) = false := by simp
  clear hX hg1 hfX hn h1 h2 hb1 hb2
  go_enter Try.func24, Try.ntmps24
  go_wp2_with fail
  rw [← HX.out.1, ← HX.out.2.1]
  go_loopw [30] (fun i wr => ∃ k q : Nat, i = .int .i64 k ∧ Hid (k ≤ n ∧ wr = X.drewN q)) (fun i _ => n - (intOf i).toNat)
  case atStart => exact ⟨0, 0, rfl, by omega, rfl⟩
  case round =>
    obtain ⟨k, q, rfl, HQ⟩ := hrel
    obtain rfl := HQ.out.2
    by_cases hlt : k < n
    · have hlt' : (k : Int) < (n : Int) := by omega
      have hkl : k < l.length := by rw [HN.out.1]; exact hlt
      obtain ⟨ad, rfl, a0, a1, a2, a3⟩ := cells4 (HN.out.2.1.fr HX.out.2.2.1 (fun _ _ h => h)) k hkl
      obtain ⟨bd, rfl, b0, b1, b2, b3⟩ := cells4 (HN.out.2.2.fr HX.out.2.2.1 (fun _ _ h => h)) k hkl
      obtain ⟨⟨x, y, z, u⟩, hcol⟩ : ∃ c : Col, c = l[k] := ⟨_, rfl⟩
      rw [← hcol] at a0 a1 a2 a3 b0 b1 b2 b3
      have c0 : X.cell? ⟨g1, 2, none⟩ = some (.slice (some ad) n c) := by simp [World.cell?, HX.out.2.2.2.1]
      have c1 : X.cell? ⟨g1 + 1, 2, none⟩ = some (.slice (some bd) n c') := by simp [World.cell?, HX.out.2.2.2.2]
      have hxx : (x == x) = true := by simp
      have hyy : (y == y) = true := by simp
      have hzz : (z == z) = true := by simp
      have huu : (u == u) = true := by simp
      clear hcol hkl hlt
      go_wp2_with fail
      go_quiet (fail)
      go_wp2
      go_roundw
      case rel => exact ⟨k + 1, q + nq, by go_num, by omega, rfl⟩
      case measure => simp [intOf] <;> omega
    · obtain rfl : k = n := by have := HQ.out.1; omega
      have hge : ¬ ((k : Int) < (k : Int)) := by omega
      clear hlt
      go_wp2_with fail
      go_ret
      exact ⟨rfl, HX.out.2.2.1.drewN q⟩
end Go.Proofs.Ytdbbkdlocmafgaa

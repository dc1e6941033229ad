/- The document's Plain. -/
import Derived.Test.YtamkfjbdcjkchaaSegS
namespace Go.Proofs.Ytamkfjbdcjkchaa
open Go.RowKit Go.Proofs.HK
set_option linter.unusedVariables false
set_option linter.unusedSimpArgs false
attribute [local go_sem] max2_int min2_int max_two min_two
theorem heap_mid (w : World) (a b c : Obj) : (((w.alloc a).alloc b).alloc c).heap[w.heap.size + 1]? = some b := by
  have h := heap_new (w.alloc a) b
  rw [World.size_alloc] at h
  exact (((Fr.refl No ((w.alloc a).alloc b)).alloc c).block (w.heap.size + 1) (by simp) (fun h => h)).trans h
/-- The slices that a kind has. -/
def plR (K : Int) (rv : Value) : Value := if K = 4 then rv else .slice none 0 0
def plD (K : Int) (dv : Value) : Value := if K = 3 then dv else .slice none 0 0
theorem pl_out (K : Int) (U : Nat) (F : Int) (S : Nat) (Z P Y X Q C : Int) (R : List (Int × Int)) (D : List UInt8) (rv dv : Value) (f s z p y x q c : Int) (rv' dv' : Value)
    (hf : f = if K = 1 ∨ K = 2 ∨ K = 5 then F else 0) (hs : s = if K = 1 ∨ K = 2 then (S : Int) else 0) (hz : z = if K = 2 then Z else 0) (hp : p = if K = 1 ∨ K = 2 then P else 0) (hy : y = if K = 2 then Y else 0) (hx : x = if K = 3 ∨ K = 4 then X else 0) (hq : q = if K = 3 then Q else 0) (hc : c = if K = 5 then C else 0) (hr : rv' = plR K rv) (hd : dv' = plD K dv) :
    (#[.int .i64 K, .int .u32 (U : Int), .int .i64 f, .int .u32 s, .int .i64 z, .int .i64 p, .int .i64 y, .int .i64 x, .int .i64 q, .int .i64 c, rv', dv'] : Array Value) = mC (plainS (⟨K, U, F, S, Z, P, Y, X, Q, C, R, D⟩ : MsgS)) (plR K rv) (plD K dv) := by
  subst hf hs hz hp hy hx hq hc hr hd
  unfold plainS mC
  simp only
  by_cases k1 : K = 1
  · subst k1; simp
  by_cases k2 : K = 2
  · subst k2; simp
  by_cases k3 : K = 3
  · subst k3; simp
  by_cases k4 : K = 4
  · subst k4; simp
  by_cases k5 : K = 5
  · subst k5; simp
  · simp [k1, k2, k3, k4, k5]
set_option maxRecDepth 100000 in
set_option maxHeartbeats 3200000 in
theorem refPlain_calls (K : Int) (U : Nat) (F : Int) (S : Nat) (Z P Y X Q C : Int) (R : List (Int × Int)) (D : List UInt8) (rA dA : Option Addr) (rn rc dn dc : Nat) (w : World) :
    Calls Try.prog 57 #[.agg #[.int .i64 K, .int .u32 (U : Int), .int .i64 F, .int .u32 (S : Int), .int .i64 Z, .int .i64 P, .int .i64 Y, .int .i64 X, .int .i64 Q, .int .i64 C, .slice rA rn rc, .slice dA dn dc]] w fun e w' => e = .returned (.agg (mC (plainS (⟨K, U, F, S, Z, P, Y, X, Q, C, R, D⟩ : MsgS)) (plR K (.slice rA rn rc)) (plD K (.slice dA dn dc)))) ∧ Fr No w w' := by
  have hcs : (K = 1 ∧ (K == 1) = true) ∨ (K = 2 ∧ (K == 1) = false ∧ (K == 2) = true) ∨ (K = 3 ∧ (K == 1) = false ∧ (K == 2) = false ∧ (K == 3) = true) ∨ (K = 4 ∧ (K == 1) = false ∧ (K == 2) = false ∧ (K == 3) = false ∧ (K == 4) = true) ∨
      (K = 5 ∧ (K == 1) = false ∧ (K == 2) = false ∧ (K == 3) = false ∧ (K == 4) = false ∧ (K == 5) = true) ∨ ((¬ K = 1 ∧ ¬ K = 2 ∧ ¬ K = 3 ∧ ¬ K = 4 ∧ ¬ K = 5) ∧ (K == 1) = false ∧ (K == 2) = false ∧ (K == 3) = false ∧ (K == 4) = false ∧ (K == 5) = false) := by
    by_cases k1 : K = 1
    · exact .inl ⟨k1, by simpa using k1⟩
    by_cases k2 : K = 2
    · exact .inr (.inl ⟨k2, by simpa using k1, by simpa using k2⟩)
    by_cases k3 : K = 3
    · exact .inr (.inr (.inl ⟨k3, by simpa using k1, by simpa using k2, by simpa using k3⟩))
    by_cases k4 : K = 4
    · exact .inr (.inr (.inr (.inl ⟨k4, by simpa using k1, by simpa using k2, by simpa using k3, by simpa using k4⟩)))
    by_cases k5 : K = 5
    · exact .inr (.inr (.inr (.inr (.inl ⟨k5, by simpa using k1, by simpa using k2, by simpa using k3, by simpa using k4, by simpa using k5⟩))))
    · exact .inr (.inr (.inr (.inr (.inr ⟨⟨k1, k2, k3, k4, k5⟩, by simpa using k1, by simpa using k2, by simpa using k3, by simpa using k4, by simpa using k5⟩))))
  rcases hcs with ⟨h0, h1⟩ | ⟨h0, h1, h2⟩ | ⟨h0, h1, h2, h3⟩ | ⟨h0, h1, h2, h3, h4⟩ | ⟨h0, h1, h2, h3, h4, h5⟩ | ⟨h0, h1, h2, h3, h4, h5⟩
  all_goals
    have H0 := hid h0
    clear h0
    go_enter Try.func57, Try.ntmps57
    go_wp2_with fail
    refine ret_cell rfl (g := w.heap.size + 1) rfl (load_msg (heap_mid _ _ _ _)) rfl ⟨congrArg Ending.returned (congrArg Value.agg (pl_out K U F S Z P Y X Q C R D (.slice rA rn rc) (.slice dA dn dc) _ _ _ _ _ _ _ _ _ _ (by simp [H0.out]) (by simp [H0.out]) (by simp [H0.out]) (by simp [H0.out]) (by simp [H0.out]) (by simp [H0.out]) (by simp [H0.out]) (by simp [H0.out]) (by simp [H0.out, plR]) (by simp [H0.out, plD]))), (((Fr.refl No w).alloc _).alloc _).alloc _⟩
end Go.Proofs.Ytamkfjbdcjkchaa

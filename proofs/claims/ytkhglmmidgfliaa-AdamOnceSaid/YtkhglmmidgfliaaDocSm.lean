/- The contract of the document's Same, where the lines are the same. -/
import Derived.Test.YtkhglmmidgfliaaDocBy
import Derived.Deep.QuietTactic
import Derived.BigQuiet
namespace Go.Proofs.Ytkhglmmidgfliaa
open Go.RowKit Go.Proofs.HK
set_option linter.unusedVariables false
set_option linter.unusedSimpArgs false

/-- A slice of lines, with all their places. -/
def LnsIn (w : World) (A : Option Addr) (xs : List LN) : Prop := Cells w A (lnsC xs) ∧ ∀ x ∈ xs, Cells w x.A (spotC x.s)
theorem LnsIn.fr0 {w w' : World} {A : Option Addr} {xs : List LN} (h : LnsIn w A xs) (hf : Fr No w w') : LnsIn w' A xs :=
  ⟨h.1.fr hf (fun _ _ h => h), fun x hx => (h.2 x hx).fr hf (fun _ _ h => h)⟩
theorem NewL.inn {w : World} {lo : Nat} {its : List (Nat × List (Nat × Nat))} {A : Option Addr} {k c : Nat} {ob : Option Nat} {xs : List LN} (h : NewL w lo its A k c ob xs) : LnsIn w A xs :=
  ⟨h.cells, fun x hx => (h.2.2.1 x hx).1⟩
theorem spotC_get (l : List (Nat × Nat)) (i : Nat) (hi : i < l.length) : (spotC l)[i * 2]? = some (.int .i64 l[i].1) ∧ (spotC l)[i * 2 + 1]? = some (.int .i64 l[i].2) := by
  induction l generalizing i with
  | nil => simp at hi
  | cons p ps ih =>
    unfold spotC at *
    rw [List.flatMap_cons]
    cases i with
    | zero => simp
    | succ i =>
      have := ih i (by simpa using hi)
      constructor
      · rw [List.getElem?_append_right (by simp; omega), show (i + 1) * 2 - ([Value.int .i64 (p.1 : Int), .int .i64 (p.2 : Int)] : List Value).length = i * 2 by simp; omega, this.1]; simp
      · rw [List.getElem?_append_right (by simp; omega), show (i + 1) * 2 + 1 - ([Value.int .i64 (p.1 : Int), .int .i64 (p.2 : Int)] : List Value).length = i * 2 + 1 by simp; omega, this.2]; simp
theorem spots_at {w : World} {A : Option Addr} {l : List (Nat × Nat)} (h : Cells w A (spotC l)) (i : Nat) (hi : i < l.length) :
    ∃ ad, A = some ad ∧ w.cell? (ad.add (i * 2)) = some (.int .i64 l[i].1) ∧ w.cell? ⟨(ad.add (i * 2)).block, (ad.add (i * 2)).off + 1, none⟩ = some (.int .i64 l[i].2) := by
  obtain ⟨ad, rfl, hc⟩ := h (by rw [spotC_length]; omega)
  obtain ⟨h1, h2⟩ := spotC_get l i hi
  exact ⟨ad, rfl, cells2' h h1 h2⟩
/-- Nothing but draws. -/
def Qt (w w' : World) : Prop := ∃ m, w' = w.drewN m
theorem Qt.refl (w : World) : Qt w w := ⟨0, rfl⟩
theorem Qt.drewN {w w1 : World} (h : Qt w w1) (n : Nat) : Qt w (w1.drewN n) := by obtain ⟨m, rfl⟩ := h; exact ⟨m + n, World.drewN_drewN ..⟩
theorem Qt.trans {w w1 w2 : World} (h : Qt w w1) (h' : Qt w1 w2) : Qt w w2 := by obtain ⟨n, rfl⟩ := h'; exact h.drewN n
theorem Qt.fr {w w1 : World} (h : Qt w w1) : Fr No w w1 := by obtain ⟨m, rfl⟩ := h; exact (Fr.refl _ _).drewN m
set_option maxRecDepth 100000 in
set_option maxHeartbeats 3200000 in
theorem refSame_quiet (A B : Option Addr) (n c d : Nat) (xs ys : List LN) (w : World) (hx : LnsIn w A xs) (hy : LnsIn w B ys) (hn : xs.length = n) (he : xs.map LN.it = ys.map LN.it) (hn4 : n ≤ 409600) (hs4 : ∀ x ∈ xs, x.s.length ≤ 4096) :
    Calls Try.prog 18 #[.slice A n c, .slice B n d] w fun e w' => e = .returned (.bool true) ∧ Qt w w' := by
  have hH := hid (And.intro hx (And.intro hy (And.intro hn (And.intro he hs4))))
  clear hx hy hn he hs4
  go_enter Try.func18, Try.ntmps18
  go_wp2_with fail
  go_loopw [14] (fun i wr => ∃ q : Nat, i = .int .i64 q ∧ Hid (q ≤ n ∧ Qt w wr)) (fun i _ => n - (intOf i).toNat)
  case atStart => exact ⟨0, rfl, by omega, Qt.refl _⟩
  case round =>
    obtain ⟨q, rfl, HR⟩ := hrel
    by_cases hlt : q < n
    · have hlt' : (q : Int) < (n : Int) := by omega
      have hxl : q < xs.length := by rw [hH.out.2.2.1]; exact hlt
      have hyl : q < ys.length := by
        have := congrArg List.length hH.out.2.2.2.1; simp at this; omega
      obtain ⟨x, hx⟩ : ∃ x, x = xs[q] := ⟨_, rfl⟩
      obtain ⟨y, hy⟩ : ∃ y, y = ys[q] := ⟨_, rfl⟩
      have hit : x.it = y.it := by
        have h1 : (xs.map LN.it)[q]? = (ys.map LN.it)[q]? := by rw [hH.out.2.2.2.1]
        simp [hxl, hyl] at h1
        rw [hx, hy]; exact h1
      have hs4 := hH.out.2.2.2.2 x (by rw [hx]; exact List.getElem_mem hxl)
      have hX := hid (hH.out.1.2 x (by rw [hx]; exact List.getElem_mem hxl))
      have hY := hid (hH.out.2.1.2 y (by rw [hy]; exact List.getElem_mem hyl))
      obtain ⟨ad, rfl, q0, q1⟩ := lines_at (hH.out.1.1.fr HR.out.2.fr (fun _ _ h => h)) q hxl
      obtain ⟨bd, rfl, p0, p1⟩ := lines_at (hH.out.2.1.1.fr HR.out.2.fr (fun _ _ h => h)) q hyl
      rw [← hx] at q0 q1
      rw [← hy] at p0 p1
      clear hx hy
      obtain ⟨xp, xs', xA, xc⟩ := x
      obtain ⟨yp, ys', yA, yc⟩ := y
      injection hit with e1 e2
      simp only at e1 e2
      subst e1
      subst e2
      simp only at q0 q1 p0 p1 hs4 hX hY
      obtain ⟨m, hm⟩ : ∃ m, m = xs'.length := ⟨_, rfl⟩
      rw [← hm] at q1 p1 hs4
      have HM := hid hm
      clear hm
      have hd0 : ((xp : Int) != (xp : Int)) = false := by simp
      have hd1 : ((m : Int) != (m : Int)) = false := by simp
      go_wp2_with fail
      go_quiet (fail)
      go_wp2_with fail
      have HC := hid (And.intro q0 (And.intro q1 (And.intro p0 p1)))
      have hadl := lt_of_cell q0
      have hbdl := lt_of_cell p0
      clear q0 q1 p0 p1 hd0 hd1
      go_loopw [49] (fun i wr2 => ∃ r : Nat, i = .int .i64 r ∧ Hid (r ≤ m ∧ Qt wr wr2)) (fun i _ => m - (intOf i).toNat)
      case atStart => exact ⟨0, rfl, by omega, (Qt.refl _).drewN _⟩
      case round =>
        obtain ⟨r, rfl, HS⟩ := hrel
        have k0 := (HS.out.2.fr.cell (p := ad.add (q * 2)) (by rw [add_block]; rw [add_block] at hadl; exact hadl) (fun h => h)).trans HC.out.1
        have k1 := (HS.out.2.fr.cell (p := ⟨(ad.add (q * 2)).block, (ad.add (q * 2)).off + 1, none⟩) hadl (fun h => h)).trans HC.out.2.1
        have l0 := (HS.out.2.fr.cell (p := bd.add (q * 2)) (by rw [add_block]; rw [add_block] at hbdl; exact hbdl) (fun h => h)).trans HC.out.2.2.1
        have l1 := (HS.out.2.fr.cell (p := ⟨(bd.add (q * 2)).block, (bd.add (q * 2)).off + 1, none⟩) hbdl (fun h => h)).trans HC.out.2.2.2
        by_cases hlr : r < m
        · have hlr' : (r : Int) < (m : Int) := by omega
          have hrl : r < xs'.length := by rw [← HM.out]; exact hlr
          obtain ⟨ad2, rfl, a0, a1⟩ := spots_at (hX.out.fr (HR.out.2.fr.then HS.out.2.fr) (fun _ _ h => h)) r hrl
          obtain ⟨bd2, rfl, b0, b1⟩ := spots_at (hY.out.fr (HR.out.2.fr.then HS.out.2.fr) (fun _ _ h => h)) r hrl
          obtain ⟨u, hu⟩ : ∃ u, u = xs'[r].1 := ⟨_, rfl⟩
          obtain ⟨v, hv⟩ : ∃ u, u = xs'[r].2 := ⟨_, rfl⟩
          rw [← hu] at a0 b0
          rw [← hv] at a1 b1
          clear hu hv hrl
          go_wp2_with fail
          go_quiet (fail)
          go_wp2_with fail
          go_roundw
          case rel => exact ⟨r + 1, by go_num, by omega, HS.out.2.drewN _⟩
          case measure => simp [intOf] <;> omega
        · have hge : ¬ ((r : Int) < (m : Int)) := by omega
          clear hlr
          go_wp2_with fail
          go_roundw
          case rel => exact ⟨q + 1, by go_num, by omega, HR.out.2.trans HS.out.2⟩
          case measure => simp [intOf] <;> omega
    · have hge : ¬ ((q : Int) < (n : Int)) := by omega
      clear hlt
      go_wp2_with fail
      go_ret
      exact ⟨rfl, HR.out.2⟩
theorem refSame_calls (A B : Option Addr) (n c d : Nat) (xs ys : List LN) (w : World) (hx : LnsIn w A xs) (hy : LnsIn w B ys) (hn : xs.length = n) (he : xs.map LN.it = ys.map LN.it) (hn4 : n ≤ 409600) (hs4 : ∀ x ∈ xs, x.s.length ≤ 4096) :
    Calls Try.prog 18 #[.slice A n c, .slice B n d] w fun e w' => e = .returned (.bool true) ∧ Fr No w w' :=
  (refSame_quiet A B n c d xs ys w hx hy hn he hn4 hs4).mono fun _ _ h => ⟨h.1, h.2.fr⟩
end Go.Proofs.Ytkhglmmidgfliaa

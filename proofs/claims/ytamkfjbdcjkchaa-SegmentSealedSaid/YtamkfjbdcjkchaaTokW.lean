/- The contracts of token.Write, of the document's, and of Sealed. -/
import Derived.Test.YtamkfjbdcjkchaaTokP
import Derived.Test.YtamkfjbdcjkchaaCrc
import Derived.Test.YtamkfjbdcjkchaaRef2
import Derived.Deep.RegionHeld3
namespace Go.Proofs.Ytamkfjbdcjkchaa
open Go.RowKit Go.Proofs.HK
set_option linter.unusedVariables false
set_option linter.unusedSimpArgs false
attribute [local go_sem] max2_int min2_int max_two min_two

theorem cut8_4 : cut8 4 = 4 := by decide
def tokV (F : Int) (S : Nat) (A : Option Addr) (n c : Nat) : Value := .agg #[.int .i64 F, .int .u32 (S : Int), .slice A n c]
theorem rdS4 {W : World} {e : TypeId} {g : Nat} {A1 A2 A3 A4 : Option Addr} {n1 n2 n3 n4 c1 c2 c3 c4 : Nat} {xs ys zs us : List UInt8} (hg : g = W.heap.size) (h1 : xs.length = n1) (h2 : ys.length = n2) (h3 : zs.length = n3) (h4 : us.length = n4) (r1 : Rd B W A1 xs) (r2 : Rd B W A2 ys) (r3 : Rd B W A3 zs) (r4 : Rd B W A4 us) :
    RdS (W.alloc (.cells #[.slice A1 n1 c1, .slice A2 n2 c2, .slice A3 n3 c3, .slice A4 n4 c4] e)) (some ⟨g, 0, none⟩) [.slice A1 n1 c1, .slice A2 n2 c2, .slice A3 n3 c3, .slice A4 n4 c4] [xs, ys, zs, us] := by
  subst hg
  refine ⟨rfl, rd_new (fun v => v) W [.slice A1 n1 c1, .slice A2 n2 c2, .slice A3 n3 c3, .slice A4 n4 c4] e _ rfl, fun i h1' h2' => ?_⟩
  match i, h1' with
  | 0, _ => exact ⟨A1, n1, c1, rfl, h1, r1.alloc _⟩
  | 1, _ => exact ⟨A2, n2, c2, rfl, h2, r2.alloc _⟩
  | 2, _ => exact ⟨A3, n3, c3, rfl, h3, r3.alloc _⟩
  | 3, _ => exact ⟨A4, n4, c4, rfl, h4, r4.alloc _⟩
theorem rdS1 {W : World} {e : TypeId} {g : Nat} {A1 : Option Addr} {n1 c1 : Nat} {xs : List UInt8} (hg : g = W.heap.size) (h1 : xs.length = n1) (r1 : Rd B W A1 xs) :
    RdS (W.alloc (.cells #[.slice A1 n1 c1] e)) (some ⟨g, 0, none⟩) [.slice A1 n1 c1] [xs] := by
  subst hg
  refine ⟨rfl, rd_new (fun v => v) W [.slice A1 n1 c1] e _ rfl, fun i h1' h2' => ?_⟩
  match i, h1' with
  | 0, _ => exact ⟨A1, n1, c1, rfl, h1, r1.alloc _⟩
theorem rd1 {W : World} {g : Nat} {F : Int} (hg : g = W.heap.size) (e : TypeId) : Rd B (W.alloc (.cells #[.int .u8 (IntKind.u8.wrap F)] e)) (some ⟨g, 0, none⟩) [HK.byteOf F] := by
  subst hg
  refine rd_new B W _ e _ ?_
  simp only [List.map_cons, List.map_nil, B_byteOf, wrapu8]
theorem new_from {α : Type} {f : α → Value} {w W w' : World} {v : Value} {xs : List α} (h : New f W w' v xs) (hf : Fr No w w') (hs : w.heap.size ≤ W.heap.size) : New f w w' v xs := by
  obtain ⟨A, n, c, ob, h1, h2, h3, h4, _⟩ := h.open
  exact New.mk' h1 h2 h3 (fun k hk => Nat.le_trans hs (h4 k hk)) hf
theorem keep3 {S : Nat → Prop} {w w1 : World} {g : Nat} {a b c : Option Value} (hf : Fr S w w1) (hg : g < w.heap.size) (hn : ¬ S g) (h : w.cell? ⟨g, 0, none⟩ = a ∧ w.cell? ⟨g, 1, none⟩ = b ∧ w.cell? ⟨g, 2, none⟩ = c) :
    w1.cell? ⟨g, 0, none⟩ = a ∧ w1.cell? ⟨g, 1, none⟩ = b ∧ w1.cell? ⟨g, 2, none⟩ = c :=
  ⟨(hf.cellg g 0 hg hn).trans h.1, (hf.cellg g 1 hg hn).trans h.2.1, (hf.cellg g 2 hg hn).trans h.2.2⟩
theorem keep3a {w : World} {o : Obj} {g : Nat} {a b c : Option Value} (hg : g < w.heap.size) (h : w.cell? ⟨g, 0, none⟩ = a ∧ w.cell? ⟨g, 1, none⟩ = b ∧ w.cell? ⟨g, 2, none⟩ = c) :
    (w.alloc o).cell? ⟨g, 0, none⟩ = a ∧ (w.alloc o).cell? ⟨g, 1, none⟩ = b ∧ (w.alloc o).cell? ⟨g, 2, none⟩ = c := keep3 ((Fr.refl No w).alloc o) hg (fun h => h) h
theorem blk3c {W : World} {g : Nat} {v0 v1 v2 : Value} {t : TypeId} (hb : W.heap[g]? = some (.cells #[v0, v1, v2] t (0, 0))) :
    W.cell? ⟨g, 0, none⟩ = some v0 ∧ W.cell? ⟨g, 1, none⟩ = some v1 ∧ W.cell? ⟨g, 2, none⟩ = some v2 := by
  simp [World.cell?, hb]

end Go.Proofs.Ytamkfjbdcjkchaa
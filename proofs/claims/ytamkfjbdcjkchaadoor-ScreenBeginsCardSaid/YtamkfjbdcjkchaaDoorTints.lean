/- Tables of colours: written, and the same ones. A table of n colours is read as 3 n bytes. -/
import Derived.Test.YtamkfjbdcjkchaaDoorOct
import Derived.Test.YtamkfjbdcjkchaaDoorRef2
namespace Go.Proofs.YtamkfjbdcjkchaaDoor
open Go.RowKit Go.Proofs.HK
set_option linter.unusedVariables false
set_option linter.unusedSimpArgs false

theorem slT3 : SlT Tryd.prog 24 58 3 3 := SlT.of (z := .agg #[.int .u8 0, .int .u8 0, .int .u8 0]) Tryd.underlying24 (by kernel_rfl) rfl (by decide)
theorem take3 (ts : List UInt8) (k : Nat) (h : 3 * k + 3 ≤ ts.length) : ts.take (3 * (k + 1)) = ts.take (3 * k) ++ [rdB ts (3 * k), rdB ts (3 * k + 1), rdB ts (3 * k + 2)] := by
  rw [show 3 * (k + 1) = 3 * k + 1 + 1 + 1 by omega, take_snocB _ _ (by omega), take_snocB _ _ (by omega), take_snocB _ _ (by omega)]
  simp
theorem cells3 {w : World} {A : Option Addr} {ts : List UInt8} (h : Cells w A (ts.map B)) (k : Nat) (hk : 3 * k + 3 ≤ ts.length) :
    ∃ ad, A = some ad ∧ w.cell? (ad.add (k * 3)) = some (.int .u8 ((rdB ts (3 * k)).toNat : Int)) ∧ w.cell? ⟨(ad.add (k * 3)).block, (ad.add (k * 3)).off + 1, none⟩ = some (.int .u8 ((rdB ts (3 * k + 1)).toNat : Int)) ∧
      w.cell? ⟨(ad.add (k * 3)).block, (ad.add (k * 3)).off + 2, none⟩ = some (.int .u8 ((rdB ts (3 * k + 2)).toNat : Int)) := by
  obtain ⟨ad, e, hc⟩ := h (by simp; omega)
  have g : ∀ j, j < ts.length → w.cell? (ad.add j) = some (.int .u8 ((rdB ts j).toNat : Int)) := fun j hj => hc j _ (by simp [List.getElem?_map, List.getElem?_eq_getElem hj, B, rdB, List.getD])
  have g0 := g (3 * k) (by omega)
  have g1 := g (3 * k + 1) (by omega)
  have g2 := g (3 * k + 2) (by omega)
  rw [show 3 * k = k * 3 by omega] at g0 g1 g2
  refine ⟨ad, e, ?_, ?_, ?_⟩
  · rw [show 3 * k = k * 3 by omega]; exact g0
  · rw [show 3 * k = k * 3 by omega]; exact cellAt g1
  · rw [show 3 * k = k * 3 by omega]; exact cellAt g2

end Go.Proofs.YtamkfjbdcjkchaaDoor
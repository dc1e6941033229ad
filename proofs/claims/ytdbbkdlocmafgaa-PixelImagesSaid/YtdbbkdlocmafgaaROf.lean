/- The document's Of, in one. -/
import Derived.Test.YtdbbkdlocmafgaaROf3
namespace Go.Proofs.Ytdbbkdlocmafgaa
open Go.RowKit Go.Proofs.HK
set_option linter.unusedVariables false
set_option linter.unusedSimpArgs false

theorem refOf_calls (r : RS) (A : Option Addr) (xs : List Int) (m c : Nat) (w : World) (hr : r.ok w) (hx : xs.length = m) (hxr : Rd II w A xs) (hl : m ≤ 5000) :
    Calls Try.prog 16 #[r.v, .slice A m c] w fun e w' => e = .returned (.tuple #[(ofC r xs).v, .int .i64 (ofE r xs)]) ∧ Fr No w w' := by
  by_cases hE : ofE r xs = 0
  · obtain ⟨hT, hK⟩ := ofE_zero hE
    obtain ⟨l1, l2, l3⟩ := look_facts hK
    obtain ⟨ys, rfl⟩ := nats_of l2
    rw [List.length_map] at hx l1
    obtain ⟨m1, m2, m3, m4, m5, m6, m7, m8, m9⟩ := may_facts (tab_facts hT).1
    subst hx
    rcases m6 with h | h | h | h | h
    · have h1 : ys.length = 1 := by rw [h, show samS 0 = 1 from rfl] at l1; omega
      match ys, h1 with
      | [y0], _ => exact refOf_0 r A y0 c w hr h hxr hE
    · have h1 : ys.length = 3 := by rw [h, show samS 2 = 3 from rfl] at l1; omega
      match ys, h1 with
      | [y0, y1, y2], _ => exact refOf_2 r A y0 y1 y2 c w hr h hxr hE
    · have h1 : ys.length = 1 := by rw [h, show samS 3 = 1 from rfl] at l1; omega
      match ys, h1 with
      | [y0], _ => exact refOf_3 r A y0 c w hr h hxr hE
    · have h1 : ys.length = 2 := by rw [h, show samS 4 = 2 from rfl] at l1; omega
      match ys, h1 with
      | [y0, y1], _ => exact refOf_4 r A y0 y1 c w hr h hxr hE
    · have h1 : ys.length = 4 := by rw [h, show samS 6 = 4 from rfl] at l1; omega
      match ys, h1 with
      | [y0, y1, y2, y3], _ => exact refOf_6 r A y0 y1 y2 y3 c w hr h hxr hE
  · exact refOf_e r A xs m c w hr hx hxr hl hE
end Go.Proofs.Ytdbbkdlocmafgaa

/-
  DERIVED. GIVEN WITH THE SEED: THE CARDS: each row of YtamkfjbdcjkchaaDoorRows.lean that lists a variable, with what it lists TIED to the program's text (the seventh form; the later family's looks); each row that meets fmt, with fmt's text TOLD by the authors' own Lean function (tested against real Go, not proved from fmt's source: count such statements apart). THE CARD IS WHAT COUNTS. Prove the row's statement (the work); the ties are given (YtamkfjbdcjkchaaDoorTie.lean); close each card by the builder's one call (the guide's Derived/Test/ToyasCard.lean, 'card_holds'). Laid BY PROGRAM, IN A SANDBOX (cutbox-door.mjs). By AI agents, Wed Nov 11 2026. No macro, syntax, notation, axiom, sorry.
-/
import Derived.Test.YtamkfjbdcjkchaaDoorRows
import GoSem.ClaimSeven
namespace Go.Proofs.YtamkfjbdcjkchaaDoor
namespace Rows

/-- THE TIED CARD OF 'halftonelaw17.ScreenReads'. -/
def screenReadsCard : Claim7 := { stood := { row := screenReadsRow, standIns := [], harness := (true, "2c294d22b1f72c8cf2bc2d8b20d20b246f33fdb7e86d6ab1b9672f3fbfdfde75"), looks := false }, kinds := [], alts := [], laidByText := true, laidKinds := [.data, .data], laidTests := true, laidLooks := .later }
def ScreenReadsCardSaid : Prop := Claim7.holds Tryd.pinned (.plain (OpenSpec.ofChange screenReadsSpec)) screenReadsCard

/-- THE TIED CARD OF 'halftonelaw17.ScreenBegins'. -/
def screenBeginsCard : Claim7 := { stood := { row := screenBeginsRow, standIns := [], harness := (true, "2c294d22b1f72c8cf2bc2d8b20d20b246f33fdb7e86d6ab1b9672f3fbfdfde75"), looks := false }, kinds := [], alts := [], laidByText := true, laidKinds := [.data, .data], laidTests := true, laidLooks := .later }
def ScreenBeginsCardSaid : Prop := Claim7.holds Tryd.pinned (.plain (OpenSpec.ofChange screenBeginsSpec)) screenBeginsCard

/-- THE TIED CARD OF 'halftonelaw17.ScreenBack'. -/
def screenBackCard : Claim7 := { stood := { row := screenBackRow, standIns := [], harness := (true, "2c294d22b1f72c8cf2bc2d8b20d20b246f33fdb7e86d6ab1b9672f3fbfdfde75"), looks := false }, kinds := [], alts := [], laidByText := true, laidKinds := [.data, .data], laidTests := true, laidLooks := .later }
def ScreenBackCardSaid : Prop := Claim7.holds Tryd.pinned (.plain (OpenSpec.ofChange screenBackSpec)) screenBackCard

/-- THE TIED CARD OF 'halftonelaw17.ScreenCuts'. -/
def screenCutsCard : Claim7 := { stood := { row := screenCutsRow, standIns := [], harness := (true, "2c294d22b1f72c8cf2bc2d8b20d20b246f33fdb7e86d6ab1b9672f3fbfdfde75"), looks := false }, kinds := [], alts := [], laidByText := true, laidKinds := [.data, .data], laidTests := true, laidLooks := .later }
def ScreenCutsCardSaid : Prop := Claim7.holds Tryd.pinned (.plain (OpenSpec.ofChange screenCutsSpec)) screenCutsCard

/-- THE SECOND FORM's CARD OF 'halftonelaw17.ScreenReads'. -/
def screenReadsUptoCard : Claim7 := { stood := { row := screenReadsUptoRow, standIns := [], harness := (true, "2c294d22b1f72c8cf2bc2d8b20d20b246f33fdb7e86d6ab1b9672f3fbfdfde75"), looks := false }, kinds := [], alts := [], laidByText := true, laidKinds := [.data, .data], laidTests := true, laidLooks := .later }
def ScreenReadsUptoCardSaid : Prop := Claim7.holds Tryd.pinned (.plain (OpenSpec.upto screenReadsSpec)) screenReadsUptoCard

/-- THE SECOND FORM's CARD OF 'halftonelaw17.ScreenBegins'. -/
def screenBeginsUptoCard : Claim7 := { stood := { row := screenBeginsUptoRow, standIns := [], harness := (true, "2c294d22b1f72c8cf2bc2d8b20d20b246f33fdb7e86d6ab1b9672f3fbfdfde75"), looks := false }, kinds := [], alts := [], laidByText := true, laidKinds := [.data, .data], laidTests := true, laidLooks := .later }
def ScreenBeginsUptoCardSaid : Prop := Claim7.holds Tryd.pinned (.plain (OpenSpec.upto screenBeginsSpec)) screenBeginsUptoCard

/-- THE SECOND FORM's CARD OF 'halftonelaw17.ScreenBack'. -/
def screenBackUptoCard : Claim7 := { stood := { row := screenBackUptoRow, standIns := [], harness := (true, "2c294d22b1f72c8cf2bc2d8b20d20b246f33fdb7e86d6ab1b9672f3fbfdfde75"), looks := false }, kinds := [], alts := [], laidByText := true, laidKinds := [.data, .data], laidTests := true, laidLooks := .later }
def ScreenBackUptoCardSaid : Prop := Claim7.holds Tryd.pinned (.plain (OpenSpec.upto screenBackSpec)) screenBackUptoCard

/-- THE SECOND FORM's CARD OF 'halftonelaw17.ScreenCuts'. -/
def screenCutsUptoCard : Claim7 := { stood := { row := screenCutsUptoRow, standIns := [], harness := (true, "2c294d22b1f72c8cf2bc2d8b20d20b246f33fdb7e86d6ab1b9672f3fbfdfde75"), looks := false }, kinds := [], alts := [], laidByText := true, laidKinds := [.data, .data], laidTests := true, laidLooks := .later }
def ScreenCutsUptoCardSaid : Prop := Claim7.holds Tryd.pinned (.plain (OpenSpec.upto screenCutsSpec)) screenCutsUptoCard
end Rows
end Go.Proofs.YtamkfjbdcjkchaaDoor

/-
  No cell of these rows narrows 'for every input' (looked for: loops, veiled, ifaces, maps, wideKeys, modest, calm, conditions, laid).
  DERIVED. THE GIVEN ROWS OF THIS SEAT. 11 by the template 'for every input the law returns true; each argument reads behind the call as it read before'; 0 by the template 'total and deterministic' (their statements: YtjmgffiplkkgpaaTotals.lean).
  GIVEN WITH THE SEED: the statements are not yours to turn. If you find one false, say at which input.
  Laid BY PROGRAM, IN A SANDBOX (cutbox-rows.mjs): the forced cells as the released guide's own fill.sh prints them over the translation 266fb84c892676af… (all of the seat's roots in one cut). By AI agents, Wed Nov 11 2026. No macro, syntax, notation, axiom, sorry.
-/
import Derived.Test.YtjmgffiplkkgpaaChecked
import GoSem.Claim
import GoSem.ClaimJoined
import GoSem.ClaimMapViews
import Derived.JoinedTies
import Derived.KernelRfl
namespace Go.Proofs.Ytjmgffiplkkgpaa
/- THE CELL 'sum', in the pinned program and in every row, IS THE sha256 OF THE DUMP (.gsa) THAT YtjmgffiplkkgpaaProg.lean LOADS. Nothing in Lean hashes anything: it is a label: what it is worth is what the hold of that sum in a sandbox is worth. -/
noncomputable def Try.pinned : Pinned := { name := "ytjmgffiplkkgpaa", sum := "266fb84c892676afbeb0eef150821c4859c47b26533d3e02d4e94cdc3bc3ca55", checked := Try.checked }
namespace Rows
def none {H : Type} : Left H := { results := [], args := [] }

/-- 'halftonelaw02.OctetsNumbers': WHATEVER THE INPUT: true; the input reads as it did. -/
def octetsNumbersSpec : ChangeSpec := { name := "octetsNumbers", fn := fun _ => fun
  | [d1, d2, d3] => { results := [.lit (.bool true)], args := [d1, d2, d3] }
  | _ => none }
def octetsNumbersRow : OpenClaim := { program := "ytjmgffiplkkgpaa", sum := "266fb84c892676afbeb0eef150821c4859c47b26533d3e02d4e94cdc3bc3ca55", func := "halftone/halftonelaw02.OctetsNumbers", spec := "octetsNumbers", unfollowed := true, recurses := true, apart := false }
def OctetsNumbersSaid : Prop := octetsNumbersRow.holds Try.pinned (OpenSpec.ofChange octetsNumbersSpec)

/-- ITS FALSE NEIGHBOUR: 'it returns false'. Refute it at one input. -/
def octetsNumbersWrong : ChangeSpec := { name := "octetsNumbers", fn := fun _ => fun
  | [d1, d2, d3] => { results := [.lit (.bool false)], args := [d1, d2, d3] }
  | _ => none }
def OctetsNumbersWrongFalsely : Prop := octetsNumbersRow.holds Try.pinned (OpenSpec.ofChange octetsNumbersWrong)

/-- 'halftonelaw01.BitsCuts': WHATEVER THE INPUT: true; the input reads as it did. -/
def bitsCutsSpec : ChangeSpec := { name := "bitsCuts", fn := fun _ => fun
  | [d1, d2, d3] => { results := [.lit (.bool true)], args := [d1, d2, d3] }
  | _ => none }
def bitsCutsRow : OpenClaim := { program := "ytjmgffiplkkgpaa", sum := "266fb84c892676afbeb0eef150821c4859c47b26533d3e02d4e94cdc3bc3ca55", func := "halftone/halftonelaw01.BitsCuts", spec := "bitsCuts", apart := false }
def BitsCutsSaid : Prop := bitsCutsRow.holds Try.pinned (OpenSpec.ofChange bitsCutsSpec)

/-- ITS FALSE NEIGHBOUR: 'it returns false'. Refute it at one input. -/
def bitsCutsWrong : ChangeSpec := { name := "bitsCuts", fn := fun _ => fun
  | [d1, d2, d3] => { results := [.lit (.bool false)], args := [d1, d2, d3] }
  | _ => none }
def BitsCutsWrongFalsely : Prop := bitsCutsRow.holds Try.pinned (OpenSpec.ofChange bitsCutsWrong)

/-- 'halftonelaw02.OctetsReads': WHATEVER THE INPUT: true; the input reads as it did. -/
def octetsReadsSpec : ChangeSpec := { name := "octetsReads", fn := fun _ => fun
  | [d1, d2] => { results := [.lit (.bool true)], args := [d1, d2] }
  | _ => none }
def octetsReadsRow : OpenClaim := { program := "ytjmgffiplkkgpaa", sum := "266fb84c892676afbeb0eef150821c4859c47b26533d3e02d4e94cdc3bc3ca55", func := "halftone/halftonelaw02.OctetsReads", spec := "octetsReads", unfollowed := true, recurses := true, apart := false }
def OctetsReadsSaid : Prop := octetsReadsRow.holds Try.pinned (OpenSpec.ofChange octetsReadsSpec)

/-- ITS FALSE NEIGHBOUR: 'it returns false'. Refute it at one input. -/
def octetsReadsWrong : ChangeSpec := { name := "octetsReads", fn := fun _ => fun
  | [d1, d2] => { results := [.lit (.bool false)], args := [d1, d2] }
  | _ => none }
def OctetsReadsWrongFalsely : Prop := octetsReadsRow.holds Try.pinned (OpenSpec.ofChange octetsReadsWrong)

/-- 'halftonelaw02.OctetsWhole': WHATEVER THE INPUT: true; the input reads as it did. -/
def octetsWholeSpec : ChangeSpec := { name := "octetsWhole", fn := fun _ => fun
  | [d1, d2] => { results := [.lit (.bool true)], args := [d1, d2] }
  | _ => none }
def octetsWholeRow : OpenClaim := { program := "ytjmgffiplkkgpaa", sum := "266fb84c892676afbeb0eef150821c4859c47b26533d3e02d4e94cdc3bc3ca55", func := "halftone/halftonelaw02.OctetsWhole", spec := "octetsWhole", unfollowed := true, recurses := true, apart := false }
def OctetsWholeSaid : Prop := octetsWholeRow.holds Try.pinned (OpenSpec.ofChange octetsWholeSpec)

/-- ITS FALSE NEIGHBOUR: 'it returns false'. Refute it at one input. -/
def octetsWholeWrong : ChangeSpec := { name := "octetsWhole", fn := fun _ => fun
  | [d1, d2] => { results := [.lit (.bool false)], args := [d1, d2] }
  | _ => none }
def OctetsWholeWrongFalsely : Prop := octetsWholeRow.holds Try.pinned (OpenSpec.ofChange octetsWholeWrong)

/-- 'halftonelaw02.OctetsNil': WHATEVER THE INPUT: true; the input reads as it did. -/
def octetsNilSpec : ChangeSpec := { name := "octetsNil", fn := fun _ => fun
  | [d1, d2] => { results := [.lit (.bool true)], args := [d1, d2] }
  | _ => none }
def octetsNilRow : OpenClaim := { program := "ytjmgffiplkkgpaa", sum := "266fb84c892676afbeb0eef150821c4859c47b26533d3e02d4e94cdc3bc3ca55", func := "halftone/halftonelaw02.OctetsNil", spec := "octetsNil", unfollowed := true, recurses := true, apart := false }
def OctetsNilSaid : Prop := octetsNilRow.holds Try.pinned (OpenSpec.ofChange octetsNilSpec)

/-- ITS FALSE NEIGHBOUR: 'it returns false'. Refute it at one input. -/
def octetsNilWrong : ChangeSpec := { name := "octetsNil", fn := fun _ => fun
  | [d1, d2] => { results := [.lit (.bool false)], args := [d1, d2] }
  | _ => none }
def OctetsNilWrongFalsely : Prop := octetsNilRow.holds Try.pinned (OpenSpec.ofChange octetsNilWrong)

/-- 'halftonelaw02.OctetsPuts': WHATEVER THE INPUT: true; the input reads as it did. -/
def octetsPutsSpec : ChangeSpec := { name := "octetsPuts", fn := fun _ => fun
  | [d1, d2] => { results := [.lit (.bool true)], args := [d1, d2] }
  | _ => none }
def octetsPutsRow : OpenClaim := { program := "ytjmgffiplkkgpaa", sum := "266fb84c892676afbeb0eef150821c4859c47b26533d3e02d4e94cdc3bc3ca55", func := "halftone/halftonelaw02.OctetsPuts", spec := "octetsPuts", unfollowed := true, recurses := true, apart := false }
def OctetsPutsSaid : Prop := octetsPutsRow.holds Try.pinned (OpenSpec.ofChange octetsPutsSpec)

/-- ITS FALSE NEIGHBOUR: 'it returns false'. Refute it at one input. -/
def octetsPutsWrong : ChangeSpec := { name := "octetsPuts", fn := fun _ => fun
  | [d1, d2] => { results := [.lit (.bool false)], args := [d1, d2] }
  | _ => none }
def OctetsPutsWrongFalsely : Prop := octetsPutsRow.holds Try.pinned (OpenSpec.ofChange octetsPutsWrong)

/-- 'halftonelaw02.OctetsBack': WHATEVER THE INPUT: true; the input reads as it did. -/
def octetsBackSpec : ChangeSpec := { name := "octetsBack", fn := fun _ => fun
  | [d1, d2, d3, d4] => { results := [.lit (.bool true)], args := [d1, d2, d3, d4] }
  | _ => none }
def octetsBackRow : OpenClaim := { program := "ytjmgffiplkkgpaa", sum := "266fb84c892676afbeb0eef150821c4859c47b26533d3e02d4e94cdc3bc3ca55", func := "halftone/halftonelaw02.OctetsBack", spec := "octetsBack", unfollowed := true, recurses := true, apart := false }
def OctetsBackSaid : Prop := octetsBackRow.holds Try.pinned (OpenSpec.ofChange octetsBackSpec)

/-- ITS FALSE NEIGHBOUR: 'it returns false'. Refute it at one input. -/
def octetsBackWrong : ChangeSpec := { name := "octetsBack", fn := fun _ => fun
  | [d1, d2, d3, d4] => { results := [.lit (.bool false)], args := [d1, d2, d3, d4] }
  | _ => none }
def OctetsBackWrongFalsely : Prop := octetsBackRow.holds Try.pinned (OpenSpec.ofChange octetsBackWrong)

/-- 'halftonelaw01.BitsWrites': WHATEVER THE INPUT: true; the input reads as it did. -/
def bitsWritesSpec : ChangeSpec := { name := "bitsWrites", fn := fun _ => fun
  | [d] => { results := [.lit (.bool true)], args := [d] }
  | _ => none }
def bitsWritesRow : OpenClaim := { program := "ytjmgffiplkkgpaa", sum := "266fb84c892676afbeb0eef150821c4859c47b26533d3e02d4e94cdc3bc3ca55", func := "halftone/halftonelaw01.BitsWrites", spec := "bitsWrites", apart := false }
def BitsWritesSaid : Prop := bitsWritesRow.holds Try.pinned (OpenSpec.ofChange bitsWritesSpec)

/-- ITS FALSE NEIGHBOUR: 'it returns false'. Refute it at one input. -/
def bitsWritesWrong : ChangeSpec := { name := "bitsWrites", fn := fun _ => fun
  | [d] => { results := [.lit (.bool false)], args := [d] }
  | _ => none }
def BitsWritesWrongFalsely : Prop := bitsWritesRow.holds Try.pinned (OpenSpec.ofChange bitsWritesWrong)

/-- 'halftonelaw01.BitsBack': WHATEVER THE INPUT: true; the input reads as it did. -/
def bitsBackSpec : ChangeSpec := { name := "bitsBack", fn := fun _ => fun
  | [d] => { results := [.lit (.bool true)], args := [d] }
  | _ => none }
def bitsBackRow : OpenClaim := { program := "ytjmgffiplkkgpaa", sum := "266fb84c892676afbeb0eef150821c4859c47b26533d3e02d4e94cdc3bc3ca55", func := "halftone/halftonelaw01.BitsBack", spec := "bitsBack", apart := false }
def BitsBackSaid : Prop := bitsBackRow.holds Try.pinned (OpenSpec.ofChange bitsBackSpec)

/-- ITS FALSE NEIGHBOUR: 'it returns false'. Refute it at one input. -/
def bitsBackWrong : ChangeSpec := { name := "bitsBack", fn := fun _ => fun
  | [d] => { results := [.lit (.bool false)], args := [d] }
  | _ => none }
def BitsBackWrongFalsely : Prop := bitsBackRow.holds Try.pinned (OpenSpec.ofChange bitsBackWrong)

/-- 'halftonelaw01.BitsReads': WHATEVER THE INPUT: true; the input reads as it did. -/
def bitsReadsSpec : ChangeSpec := { name := "bitsReads", fn := fun _ => fun
  | [d] => { results := [.lit (.bool true)], args := [d] }
  | _ => none }
def bitsReadsRow : OpenClaim := { program := "ytjmgffiplkkgpaa", sum := "266fb84c892676afbeb0eef150821c4859c47b26533d3e02d4e94cdc3bc3ca55", func := "halftone/halftonelaw01.BitsReads", spec := "bitsReads", apart := false }
def BitsReadsSaid : Prop := bitsReadsRow.holds Try.pinned (OpenSpec.ofChange bitsReadsSpec)

/-- ITS FALSE NEIGHBOUR: 'it returns false'. Refute it at one input. -/
def bitsReadsWrong : ChangeSpec := { name := "bitsReads", fn := fun _ => fun
  | [d] => { results := [.lit (.bool false)], args := [d] }
  | _ => none }
def BitsReadsWrongFalsely : Prop := bitsReadsRow.holds Try.pinned (OpenSpec.ofChange bitsReadsWrong)

/-- 'halftonelaw01.BitsNil': WHATEVER THE INPUT: true; the input reads as it did. -/
def bitsNilSpec : ChangeSpec := { name := "bitsNil", fn := fun _ => fun
  | [d1, d2, d3] => { results := [.lit (.bool true)], args := [d1, d2, d3] }
  | _ => none }
def bitsNilRow : OpenClaim := { program := "ytjmgffiplkkgpaa", sum := "266fb84c892676afbeb0eef150821c4859c47b26533d3e02d4e94cdc3bc3ca55", func := "halftone/halftonelaw01.BitsNil", spec := "bitsNil", apart := false }
def BitsNilSaid : Prop := bitsNilRow.holds Try.pinned (OpenSpec.ofChange bitsNilSpec)

/-- ITS FALSE NEIGHBOUR: 'it returns false'. Refute it at one input. -/
def bitsNilWrong : ChangeSpec := { name := "bitsNil", fn := fun _ => fun
  | [d1, d2, d3] => { results := [.lit (.bool false)], args := [d1, d2, d3] }
  | _ => none }
def BitsNilWrongFalsely : Prop := bitsNilRow.holds Try.pinned (OpenSpec.ofChange bitsNilWrong)

/- THE SECOND FORM. 'bulk': how many values and letters a reading holds, each counted each time it is reached (what is shared counts as often as it is met; a slice's spare places count too). A statement '..UptoSaid' is the law's where the arguments, and the package variables that the reading takes, are together of bulk at most 1048576: NARROWER than '..Said'. Prove '..Said' where nothing that the law and all that it calls make is longer than what came in: it says more and counts as full. Else prove '..UptoSaid'. A law counts once. -/
mutual
def uptoBulk {H : Type} : DataW H → Nat
  | .lit (.string bytes) => bytes.length + 1
  | .lit _ => 1
  | .nil => 1
  | .ptr d => uptoBulk d + 1
  | .slice elems spare => uptoBulkAll elems + uptoBulkAll spare + 1
  | .agg parts => uptoBulkAll parts + 1
  | .iface _ d => uptoBulk d + 1
  | .map entries => uptoBulkEntries entries + 1
  | .held _ => 1
def uptoBulkAll {H : Type} : List (DataW H) → Nat
  | [] => 0
  | d :: r => uptoBulk d + uptoBulkAll r
def uptoBulkEntries {H : Type} : List (Lit × DataW H) → Nat
  | [] => 0
  | x :: r => uptoBulkEntry x + uptoBulkEntries r
def uptoBulkEntry {H : Type} : Lit × DataW H → Nat
  | (.string bytes, d) => bytes.length + uptoBulk d + 1
  | (_, d) => uptoBulk d + 1
 end
def uptoSmall : (H : Type) → List (DataW H) → Bool := fun _ ds => decide (uptoBulkAll ds ≤ 1048576)
def OpenSpec.upto (s : _root_.Go.ChangeSpec) : _root_.Go.OpenSpec := { _root_.Go.OpenSpec.ofChange s with cond := some uptoSmall }

/-- 'halftonelaw02.OctetsNumbers', WHERE WHAT IT READS IS OF BULK AT MOST 1048576: true; the input reads as it did. -/
def octetsNumbersUptoRow : OpenClaim := { program := "ytjmgffiplkkgpaa", sum := "266fb84c892676afbeb0eef150821c4859c47b26533d3e02d4e94cdc3bc3ca55", func := "halftone/halftonelaw02.OctetsNumbers", spec := "octetsNumbers", unfollowed := true, recurses := true, apart := false, narrowed := true }
def OctetsNumbersUptoSaid : Prop := octetsNumbersUptoRow.holds Try.pinned (OpenSpec.upto octetsNumbersSpec)

/-- 'halftonelaw01.BitsCuts', WHERE WHAT IT READS IS OF BULK AT MOST 1048576: true; the input reads as it did. -/
def bitsCutsUptoRow : OpenClaim := { program := "ytjmgffiplkkgpaa", sum := "266fb84c892676afbeb0eef150821c4859c47b26533d3e02d4e94cdc3bc3ca55", func := "halftone/halftonelaw01.BitsCuts", spec := "bitsCuts", apart := false, narrowed := true }
def BitsCutsUptoSaid : Prop := bitsCutsUptoRow.holds Try.pinned (OpenSpec.upto bitsCutsSpec)

/-- 'halftonelaw02.OctetsReads', WHERE WHAT IT READS IS OF BULK AT MOST 1048576: true; the input reads as it did. -/
def octetsReadsUptoRow : OpenClaim := { program := "ytjmgffiplkkgpaa", sum := "266fb84c892676afbeb0eef150821c4859c47b26533d3e02d4e94cdc3bc3ca55", func := "halftone/halftonelaw02.OctetsReads", spec := "octetsReads", unfollowed := true, recurses := true, apart := false, narrowed := true }
def OctetsReadsUptoSaid : Prop := octetsReadsUptoRow.holds Try.pinned (OpenSpec.upto octetsReadsSpec)

/-- 'halftonelaw02.OctetsWhole', WHERE WHAT IT READS IS OF BULK AT MOST 1048576: true; the input reads as it did. -/
def octetsWholeUptoRow : OpenClaim := { program := "ytjmgffiplkkgpaa", sum := "266fb84c892676afbeb0eef150821c4859c47b26533d3e02d4e94cdc3bc3ca55", func := "halftone/halftonelaw02.OctetsWhole", spec := "octetsWhole", unfollowed := true, recurses := true, apart := false, narrowed := true }
def OctetsWholeUptoSaid : Prop := octetsWholeUptoRow.holds Try.pinned (OpenSpec.upto octetsWholeSpec)

/-- 'halftonelaw02.OctetsNil', WHERE WHAT IT READS IS OF BULK AT MOST 1048576: true; the input reads as it did. -/
def octetsNilUptoRow : OpenClaim := { program := "ytjmgffiplkkgpaa", sum := "266fb84c892676afbeb0eef150821c4859c47b26533d3e02d4e94cdc3bc3ca55", func := "halftone/halftonelaw02.OctetsNil", spec := "octetsNil", unfollowed := true, recurses := true, apart := false, narrowed := true }
def OctetsNilUptoSaid : Prop := octetsNilUptoRow.holds Try.pinned (OpenSpec.upto octetsNilSpec)

/-- 'halftonelaw02.OctetsPuts', WHERE WHAT IT READS IS OF BULK AT MOST 1048576: true; the input reads as it did. -/
def octetsPutsUptoRow : OpenClaim := { program := "ytjmgffiplkkgpaa", sum := "266fb84c892676afbeb0eef150821c4859c47b26533d3e02d4e94cdc3bc3ca55", func := "halftone/halftonelaw02.OctetsPuts", spec := "octetsPuts", unfollowed := true, recurses := true, apart := false, narrowed := true }
def OctetsPutsUptoSaid : Prop := octetsPutsUptoRow.holds Try.pinned (OpenSpec.upto octetsPutsSpec)

/-- 'halftonelaw02.OctetsBack', WHERE WHAT IT READS IS OF BULK AT MOST 1048576: true; the input reads as it did. -/
def octetsBackUptoRow : OpenClaim := { program := "ytjmgffiplkkgpaa", sum := "266fb84c892676afbeb0eef150821c4859c47b26533d3e02d4e94cdc3bc3ca55", func := "halftone/halftonelaw02.OctetsBack", spec := "octetsBack", unfollowed := true, recurses := true, apart := false, narrowed := true }
def OctetsBackUptoSaid : Prop := octetsBackUptoRow.holds Try.pinned (OpenSpec.upto octetsBackSpec)

/-- 'halftonelaw01.BitsWrites', WHERE WHAT IT READS IS OF BULK AT MOST 1048576: true; the input reads as it did. -/
def bitsWritesUptoRow : OpenClaim := { program := "ytjmgffiplkkgpaa", sum := "266fb84c892676afbeb0eef150821c4859c47b26533d3e02d4e94cdc3bc3ca55", func := "halftone/halftonelaw01.BitsWrites", spec := "bitsWrites", apart := false, narrowed := true }
def BitsWritesUptoSaid : Prop := bitsWritesUptoRow.holds Try.pinned (OpenSpec.upto bitsWritesSpec)

/-- 'halftonelaw01.BitsBack', WHERE WHAT IT READS IS OF BULK AT MOST 1048576: true; the input reads as it did. -/
def bitsBackUptoRow : OpenClaim := { program := "ytjmgffiplkkgpaa", sum := "266fb84c892676afbeb0eef150821c4859c47b26533d3e02d4e94cdc3bc3ca55", func := "halftone/halftonelaw01.BitsBack", spec := "bitsBack", apart := false, narrowed := true }
def BitsBackUptoSaid : Prop := bitsBackUptoRow.holds Try.pinned (OpenSpec.upto bitsBackSpec)

/-- 'halftonelaw01.BitsReads', WHERE WHAT IT READS IS OF BULK AT MOST 1048576: true; the input reads as it did. -/
def bitsReadsUptoRow : OpenClaim := { program := "ytjmgffiplkkgpaa", sum := "266fb84c892676afbeb0eef150821c4859c47b26533d3e02d4e94cdc3bc3ca55", func := "halftone/halftonelaw01.BitsReads", spec := "bitsReads", apart := false, narrowed := true }
def BitsReadsUptoSaid : Prop := bitsReadsUptoRow.holds Try.pinned (OpenSpec.upto bitsReadsSpec)

/-- 'halftonelaw01.BitsNil', WHERE WHAT IT READS IS OF BULK AT MOST 1048576: true; the input reads as it did. -/
def bitsNilUptoRow : OpenClaim := { program := "ytjmgffiplkkgpaa", sum := "266fb84c892676afbeb0eef150821c4859c47b26533d3e02d4e94cdc3bc3ca55", func := "halftone/halftonelaw01.BitsNil", spec := "bitsNil", apart := false, narrowed := true }
def BitsNilUptoSaid : Prop := bitsNilUptoRow.holds Try.pinned (OpenSpec.upto bitsNilSpec)

end Rows
end Go.Proofs.Ytjmgffiplkkgpaa

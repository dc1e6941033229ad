/-
  No cell of these rows narrows 'for every input' (looked for: loops, veiled, ifaces, maps, wideKeys, modest, calm, conditions, laid).
  DERIVED. THE GIVEN ROWS OF THIS SEAT. 6 by the template 'for every input the law returns true; each argument reads behind the call as it read before'; 0 by the template 'total and deterministic' (their statements: YtponiapdpecioaaTotals.lean).
  GIVEN WITH THE SEED: the statements are not yours to turn. If you find one false, say at which input.
  Laid BY PROGRAM, IN A SANDBOX (cutbox-rows.mjs): the forced cells as the released guide's own fill.sh prints them over the translation 95d66326c3befebd… (all of the seat's roots in one cut). By AI agents, Wed Nov 11 2026. No macro, syntax, notation, axiom, sorry.
-/
import Derived.Test.YtponiapdpecioaaChecked
import GoSem.Claim
import GoSem.ClaimJoined
import GoSem.ClaimMapViews
import Derived.JoinedTies
import Derived.KernelRfl
namespace Go.Proofs.Ytponiapdpecioaa
/- THE CELL 'sum', in the pinned program and in every row, IS THE sha256 OF THE DUMP (.gsa) THAT YtponiapdpecioaaProg.lean LOADS. Nothing in Lean hashes anything: it is a label: what it is worth is what the hold of that sum in a sandbox is worth. -/
noncomputable def Try.pinned : Pinned := { name := "ytponiapdpecioaa", sum := "95d66326c3befebd0ff2f43d41fa24241e83867f51f2f06deb0e1a9a3ad48030", checked := Try.checked }
namespace Rows
def none {H : Type} : Left H := { results := [], args := [] }

/-- 'halftonelaw25.TokenWrites': WHATEVER THE INPUT: true; the input reads as it did. -/
def tokenWritesSpec : ChangeSpec := { name := "tokenWrites", fn := fun _ => fun
  | [d] => { results := [.lit (.bool true)], args := [d] }
  | _ => none }
def tokenWritesRow : OpenClaim := { program := "ytponiapdpecioaa", sum := "95d66326c3befebd0ff2f43d41fa24241e83867f51f2f06deb0e1a9a3ad48030", func := "halftone/halftonelaw25.TokenWrites", spec := "tokenWrites", unfollowed := true, recurses := true, apart := false }
def TokenWritesSaid : Prop := tokenWritesRow.holds Try.pinned (OpenSpec.ofChange tokenWritesSpec)

/-- ITS FALSE NEIGHBOUR: 'it returns false'. Refute it at one input. -/
def tokenWritesWrong : ChangeSpec := { name := "tokenWrites", fn := fun _ => fun
  | [d] => { results := [.lit (.bool false)], args := [d] }
  | _ => none }
def TokenWritesWrongFalsely : Prop := tokenWritesRow.holds Try.pinned (OpenSpec.ofChange tokenWritesWrong)

/-- 'halftonelaw25.TokenReads': WHATEVER THE INPUT: true; the input reads as it did. -/
def tokenReadsSpec : ChangeSpec := { name := "tokenReads", fn := fun _ => fun
  | [d] => { results := [.lit (.bool true)], args := [d] }
  | _ => none }
def tokenReadsRow : OpenClaim := { program := "ytponiapdpecioaa", sum := "95d66326c3befebd0ff2f43d41fa24241e83867f51f2f06deb0e1a9a3ad48030", func := "halftone/halftonelaw25.TokenReads", spec := "tokenReads", unfollowed := true, recurses := true, apart := false }
def TokenReadsSaid : Prop := tokenReadsRow.holds Try.pinned (OpenSpec.ofChange tokenReadsSpec)

/-- ITS FALSE NEIGHBOUR: 'it returns false'. Refute it at one input. -/
def tokenReadsWrong : ChangeSpec := { name := "tokenReads", fn := fun _ => fun
  | [d] => { results := [.lit (.bool false)], args := [d] }
  | _ => none }
def TokenReadsWrongFalsely : Prop := tokenReadsRow.holds Try.pinned (OpenSpec.ofChange tokenReadsWrong)

/-- 'halftonelaw25.TokenBack': WHATEVER THE INPUT: true; the input reads as it did. -/
def tokenBackSpec : ChangeSpec := { name := "tokenBack", fn := fun _ => fun
  | [d1, d2, d3] => { results := [.lit (.bool true)], args := [d1, d2, d3] }
  | _ => none }
def tokenBackRow : OpenClaim := { program := "ytponiapdpecioaa", sum := "95d66326c3befebd0ff2f43d41fa24241e83867f51f2f06deb0e1a9a3ad48030", func := "halftone/halftonelaw25.TokenBack", spec := "tokenBack", unfollowed := true, recurses := true, apart := false }
def TokenBackSaid : Prop := tokenBackRow.holds Try.pinned (OpenSpec.ofChange tokenBackSpec)

/-- ITS FALSE NEIGHBOUR: 'it returns false'. Refute it at one input. -/
def tokenBackWrong : ChangeSpec := { name := "tokenBack", fn := fun _ => fun
  | [d1, d2, d3] => { results := [.lit (.bool false)], args := [d1, d2, d3] }
  | _ => none }
def TokenBackWrongFalsely : Prop := tokenBackRow.holds Try.pinned (OpenSpec.ofChange tokenBackWrong)

/-- 'halftonelaw25.TokenPlays': WHATEVER THE INPUT: true; the input reads as it did. -/
def tokenPlaysSpec : ChangeSpec := { name := "tokenPlays", fn := fun _ => fun
  | [d] => { results := [.lit (.bool true)], args := [d] }
  | _ => none }
def tokenPlaysRow : OpenClaim := { program := "ytponiapdpecioaa", sum := "95d66326c3befebd0ff2f43d41fa24241e83867f51f2f06deb0e1a9a3ad48030", func := "halftone/halftonelaw25.TokenPlays", spec := "tokenPlays", unfollowed := true, recurses := true, apart := false }
def TokenPlaysSaid : Prop := tokenPlaysRow.holds Try.pinned (OpenSpec.ofChange tokenPlaysSpec)

/-- ITS FALSE NEIGHBOUR: 'it returns false'. Refute it at one input. -/
def tokenPlaysWrong : ChangeSpec := { name := "tokenPlays", fn := fun _ => fun
  | [d] => { results := [.lit (.bool false)], args := [d] }
  | _ => none }
def TokenPlaysWrongFalsely : Prop := tokenPlaysRow.holds Try.pinned (OpenSpec.ofChange tokenPlaysWrong)

/-- 'halftonelaw25.TokenCrash': WHATEVER THE INPUT: true; the input reads as it did. -/
def tokenCrashSpec : ChangeSpec := { name := "tokenCrash", fn := fun _ => fun
  | [d1, d2, d3, d4] => { results := [.lit (.bool true)], args := [d1, d2, d3, d4] }
  | _ => none }
def tokenCrashRow : OpenClaim := { program := "ytponiapdpecioaa", sum := "95d66326c3befebd0ff2f43d41fa24241e83867f51f2f06deb0e1a9a3ad48030", func := "halftone/halftonelaw25.TokenCrash", spec := "tokenCrash", unfollowed := true, recurses := true, apart := false }
def TokenCrashSaid : Prop := tokenCrashRow.holds Try.pinned (OpenSpec.ofChange tokenCrashSpec)

/-- ITS FALSE NEIGHBOUR: 'it returns false'. Refute it at one input. -/
def tokenCrashWrong : ChangeSpec := { name := "tokenCrash", fn := fun _ => fun
  | [d1, d2, d3, d4] => { results := [.lit (.bool false)], args := [d1, d2, d3, d4] }
  | _ => none }
def TokenCrashWrongFalsely : Prop := tokenCrashRow.holds Try.pinned (OpenSpec.ofChange tokenCrashWrong)

/-- 'halftonelaw25.TokenNil': WHATEVER THE INPUT: true; the input reads as it did. -/
def tokenNilSpec : ChangeSpec := { name := "tokenNil", fn := fun _ => fun
  | [d1, d2] => { results := [.lit (.bool true)], args := [d1, d2] }
  | _ => none }
def tokenNilRow : OpenClaim := { program := "ytponiapdpecioaa", sum := "95d66326c3befebd0ff2f43d41fa24241e83867f51f2f06deb0e1a9a3ad48030", func := "halftone/halftonelaw25.TokenNil", spec := "tokenNil", unfollowed := true, recurses := true, apart := false }
def TokenNilSaid : Prop := tokenNilRow.holds Try.pinned (OpenSpec.ofChange tokenNilSpec)

/-- ITS FALSE NEIGHBOUR: 'it returns false'. Refute it at one input. -/
def tokenNilWrong : ChangeSpec := { name := "tokenNil", fn := fun _ => fun
  | [d1, d2] => { results := [.lit (.bool false)], args := [d1, d2] }
  | _ => none }
def TokenNilWrongFalsely : Prop := tokenNilRow.holds Try.pinned (OpenSpec.ofChange tokenNilWrong)

/- THE SECOND FORM. 'bulk': how many values and letters a reading holds, each counted each time it is reached (what is shared counts as often as it is met; a slice's spare places count too). A statement '..UptoSaid' is the law's where the arguments, and the package variables that the reading takes, are together of bulk at most 1048576: NARROWER than '..Said'. Prove '..Said' where nothing that the law and all that it calls make is longer than what came in: it says more and counts as full. Else prove '..UptoSaid'. A law counts once. -/
mutual
def uptoBulk {H : Type} : DataW H → Nat
  | .lit (.string bytes) => bytes.length + 1
  | .lit _ => 1
  | .nil => 1
  | .ptr d => uptoBulk d + 1
  | .slice elems spare => uptoBulkAll elems + uptoBulkAll spare + 1
  | .agg parts => uptoBulkAll parts + 1
  | .iface _ d => uptoBulk d + 1
  | .map entries => uptoBulkEntries entries + 1
  | .held _ => 1
def uptoBulkAll {H : Type} : List (DataW H) → Nat
  | [] => 0
  | d :: r => uptoBulk d + uptoBulkAll r
def uptoBulkEntries {H : Type} : List (Lit × DataW H) → Nat
  | [] => 0
  | x :: r => uptoBulkEntry x + uptoBulkEntries r
def uptoBulkEntry {H : Type} : Lit × DataW H → Nat
  | (.string bytes, d) => bytes.length + uptoBulk d + 1
  | (_, d) => uptoBulk d + 1
 end
def uptoSmall : (H : Type) → List (DataW H) → Bool := fun _ ds => decide (uptoBulkAll ds ≤ 1048576)
def OpenSpec.upto (s : _root_.Go.ChangeSpec) : _root_.Go.OpenSpec := { _root_.Go.OpenSpec.ofChange s with cond := some uptoSmall }

/-- 'halftonelaw25.TokenWrites', WHERE WHAT IT READS IS OF BULK AT MOST 1048576: true; the input reads as it did. -/
def tokenWritesUptoRow : OpenClaim := { program := "ytponiapdpecioaa", sum := "95d66326c3befebd0ff2f43d41fa24241e83867f51f2f06deb0e1a9a3ad48030", func := "halftone/halftonelaw25.TokenWrites", spec := "tokenWrites", unfollowed := true, recurses := true, apart := false, narrowed := true }
def TokenWritesUptoSaid : Prop := tokenWritesUptoRow.holds Try.pinned (OpenSpec.upto tokenWritesSpec)

/-- 'halftonelaw25.TokenReads', WHERE WHAT IT READS IS OF BULK AT MOST 1048576: true; the input reads as it did. -/
def tokenReadsUptoRow : OpenClaim := { program := "ytponiapdpecioaa", sum := "95d66326c3befebd0ff2f43d41fa24241e83867f51f2f06deb0e1a9a3ad48030", func := "halftone/halftonelaw25.TokenReads", spec := "tokenReads", unfollowed := true, recurses := true, apart := false, narrowed := true }
def TokenReadsUptoSaid : Prop := tokenReadsUptoRow.holds Try.pinned (OpenSpec.upto tokenReadsSpec)

/-- 'halftonelaw25.TokenBack', WHERE WHAT IT READS IS OF BULK AT MOST 1048576: true; the input reads as it did. -/
def tokenBackUptoRow : OpenClaim := { program := "ytponiapdpecioaa", sum := "95d66326c3befebd0ff2f43d41fa24241e83867f51f2f06deb0e1a9a3ad48030", func := "halftone/halftonelaw25.TokenBack", spec := "tokenBack", unfollowed := true, recurses := true, apart := false, narrowed := true }
def TokenBackUptoSaid : Prop := tokenBackUptoRow.holds Try.pinned (OpenSpec.upto tokenBackSpec)

/-- 'halftonelaw25.TokenPlays', WHERE WHAT IT READS IS OF BULK AT MOST 1048576: true; the input reads as it did. -/
def tokenPlaysUptoRow : OpenClaim := { program := "ytponiapdpecioaa", sum := "95d66326c3befebd0ff2f43d41fa24241e83867f51f2f06deb0e1a9a3ad48030", func := "halftone/halftonelaw25.TokenPlays", spec := "tokenPlays", unfollowed := true, recurses := true, apart := false, narrowed := true }
def TokenPlaysUptoSaid : Prop := tokenPlaysUptoRow.holds Try.pinned (OpenSpec.upto tokenPlaysSpec)

/-- 'halftonelaw25.TokenCrash', WHERE WHAT IT READS IS OF BULK AT MOST 1048576: true; the input reads as it did. -/
def tokenCrashUptoRow : OpenClaim := { program := "ytponiapdpecioaa", sum := "95d66326c3befebd0ff2f43d41fa24241e83867f51f2f06deb0e1a9a3ad48030", func := "halftone/halftonelaw25.TokenCrash", spec := "tokenCrash", unfollowed := true, recurses := true, apart := false, narrowed := true }
def TokenCrashUptoSaid : Prop := tokenCrashUptoRow.holds Try.pinned (OpenSpec.upto tokenCrashSpec)

/-- 'halftonelaw25.TokenNil', WHERE WHAT IT READS IS OF BULK AT MOST 1048576: true; the input reads as it did. -/
def tokenNilUptoRow : OpenClaim := { program := "ytponiapdpecioaa", sum := "95d66326c3befebd0ff2f43d41fa24241e83867f51f2f06deb0e1a9a3ad48030", func := "halftone/halftonelaw25.TokenNil", spec := "tokenNil", unfollowed := true, recurses := true, apart := false, narrowed := true }
def TokenNilUptoSaid : Prop := tokenNilUptoRow.holds Try.pinned (OpenSpec.upto tokenNilSpec)

end Rows
end Go.Proofs.Ytponiapdpecioaa

/-
  No cell of these rows narrows 'for every input' (looked for: loops, veiled, ifaces, maps, wideKeys, modest, calm, conditions, laid).
  DERIVED. THE GIVEN ROWS OF THIS SEAT. 11 by the template 'for every input the law returns true; each argument reads behind the call as it read before'; 0 by the template 'total and deterministic' (their statements: YtkhglmmidgfliaaTotals.lean).
  GIVEN WITH THE SEED: the statements are not yours to turn. If you find one false, say at which input.
  Laid BY PROGRAM, IN A SANDBOX (cutbox-rows.mjs): the forced cells as the released guide's own fill.sh prints them over the translation 9dc55efbd912609d… (all of the seat's roots in one cut). By AI agents, Wed Nov 11 2026. No macro, syntax, notation, axiom, sorry.
-/
import Derived.Test.YtkhglmmidgfliaaChecked
import GoSem.Claim
import GoSem.ClaimJoined
import GoSem.ClaimMapViews
import Derived.JoinedTies
import Derived.KernelRfl
namespace Go.Proofs.Ytkhglmmidgfliaa
/- THE CELL 'sum', in the pinned program and in every row, IS THE sha256 OF THE DUMP (.gsa) THAT YtkhglmmidgfliaaProg.lean LOADS. Nothing in Lean hashes anything: it is a label: what it is worth is what the hold of that sum in a sandbox is worth. -/
noncomputable def Try.pinned : Pinned := { name := "ytkhglmmidgfliaa", sum := "9dc55efbd912609ddfaae6911037eb25230538f27fcd5967dd3b5533c7b68bfc", checked := Try.checked }
namespace Rows
def none {H : Type} : Left H := { results := [], args := [] }

/-- 'halftonelaw14.AdamPasses': WHATEVER THE INPUT: true; the input reads as it did. -/
def adamPassesSpec : ChangeSpec := { name := "adamPasses", fn := fun _ => fun
  | [d1, d2, d3] => { results := [.lit (.bool true)], args := [d1, d2, d3] }
  | _ => none }
def adamPassesRow : OpenClaim := { program := "ytkhglmmidgfliaa", sum := "9dc55efbd912609ddfaae6911037eb25230538f27fcd5967dd3b5533c7b68bfc", func := "halftone/halftonelaw14.AdamPasses", spec := "adamPasses", unfollowed := true, recurses := true, apart := false }
def AdamPassesSaid : Prop := adamPassesRow.holds Try.pinned (OpenSpec.ofChange adamPassesSpec)

/-- ITS FALSE NEIGHBOUR: 'it returns false'. Refute it at one input. -/
def adamPassesWrong : ChangeSpec := { name := "adamPasses", fn := fun _ => fun
  | [d1, d2, d3] => { results := [.lit (.bool false)], args := [d1, d2, d3] }
  | _ => none }
def AdamPassesWrongFalsely : Prop := adamPassesRow.holds Try.pinned (OpenSpec.ofChange adamPassesWrong)

/-- 'halftonelaw14.AdamLines': WHATEVER THE INPUT: true; the input reads as it did. -/
def adamLinesSpec : ChangeSpec := { name := "adamLines", fn := fun _ => fun
  | [d1, d2, d3] => { results := [.lit (.bool true)], args := [d1, d2, d3] }
  | _ => none }
def adamLinesRow : OpenClaim := { program := "ytkhglmmidgfliaa", sum := "9dc55efbd912609ddfaae6911037eb25230538f27fcd5967dd3b5533c7b68bfc", func := "halftone/halftonelaw14.AdamLines", spec := "adamLines", unfollowed := true, recurses := true, apart := false }
def AdamLinesSaid : Prop := adamLinesRow.holds Try.pinned (OpenSpec.ofChange adamLinesSpec)

/-- ITS FALSE NEIGHBOUR: 'it returns false'. Refute it at one input. -/
def adamLinesWrong : ChangeSpec := { name := "adamLines", fn := fun _ => fun
  | [d1, d2, d3] => { results := [.lit (.bool false)], args := [d1, d2, d3] }
  | _ => none }
def AdamLinesWrongFalsely : Prop := adamLinesRow.holds Try.pinned (OpenSpec.ofChange adamLinesWrong)

/-- 'halftonelaw14.AdamBytes': WHATEVER THE INPUT: true; the input reads as it did. -/
def adamBytesSpec : ChangeSpec := { name := "adamBytes", fn := fun _ => fun
  | [d1, d2] => { results := [.lit (.bool true)], args := [d1, d2] }
  | _ => none }
def adamBytesRow : OpenClaim := { program := "ytkhglmmidgfliaa", sum := "9dc55efbd912609ddfaae6911037eb25230538f27fcd5967dd3b5533c7b68bfc", func := "halftone/halftonelaw14.AdamBytes", spec := "adamBytes", unfollowed := true, recurses := true, apart := false }
def AdamBytesSaid : Prop := adamBytesRow.holds Try.pinned (OpenSpec.ofChange adamBytesSpec)

/-- ITS FALSE NEIGHBOUR: 'it returns false'. Refute it at one input. -/
def adamBytesWrong : ChangeSpec := { name := "adamBytes", fn := fun _ => fun
  | [d1, d2] => { results := [.lit (.bool false)], args := [d1, d2] }
  | _ => none }
def AdamBytesWrongFalsely : Prop := adamBytesRow.holds Try.pinned (OpenSpec.ofChange adamBytesWrong)

/-- 'halftonelaw14.AdamOnce': WHATEVER THE INPUT: true; the input reads as it did. -/
def adamOnceSpec : ChangeSpec := { name := "adamOnce", fn := fun _ => fun
  | [d1, d2, d3] => { results := [.lit (.bool true)], args := [d1, d2, d3] }
  | _ => none }
def adamOnceRow : OpenClaim := { program := "ytkhglmmidgfliaa", sum := "9dc55efbd912609ddfaae6911037eb25230538f27fcd5967dd3b5533c7b68bfc", func := "halftone/halftonelaw14.AdamOnce", spec := "adamOnce", unfollowed := true, recurses := true, apart := false }
def AdamOnceSaid : Prop := adamOnceRow.holds Try.pinned (OpenSpec.ofChange adamOnceSpec)

/-- ITS FALSE NEIGHBOUR: 'it returns false'. Refute it at one input. -/
def adamOnceWrong : ChangeSpec := { name := "adamOnce", fn := fun _ => fun
  | [d1, d2, d3] => { results := [.lit (.bool false)], args := [d1, d2, d3] }
  | _ => none }
def AdamOnceWrongFalsely : Prop := adamOnceRow.holds Try.pinned (OpenSpec.ofChange adamOnceWrong)

/-- 'halftonelaw14.AdamLeft': WHATEVER THE INPUT: true; the input reads as it did. -/
def adamLeftSpec : ChangeSpec := { name := "adamLeft", fn := fun _ => fun
  | [d1, d2, d3, d4] => { results := [.lit (.bool true)], args := [d1, d2, d3, d4] }
  | _ => none }
def adamLeftRow : OpenClaim := { program := "ytkhglmmidgfliaa", sum := "9dc55efbd912609ddfaae6911037eb25230538f27fcd5967dd3b5533c7b68bfc", func := "halftone/halftonelaw14.AdamLeft", spec := "adamLeft", unfollowed := true, recurses := true, apart := false }
def AdamLeftSaid : Prop := adamLeftRow.holds Try.pinned (OpenSpec.ofChange adamLeftSpec)

/-- ITS FALSE NEIGHBOUR: 'it returns false'. Refute it at one input. -/
def adamLeftWrong : ChangeSpec := { name := "adamLeft", fn := fun _ => fun
  | [d1, d2, d3, d4] => { results := [.lit (.bool false)], args := [d1, d2, d3, d4] }
  | _ => none }
def AdamLeftWrongFalsely : Prop := adamLeftRow.holds Try.pinned (OpenSpec.ofChange adamLeftWrong)

/-- 'halftonelaw12.HeadMay': WHATEVER THE INPUT: true; the input reads as it did. -/
def headMaySpec : ChangeSpec := { name := "headMay", fn := fun _ => fun
  | [d] => { results := [.lit (.bool true)], args := [d] }
  | _ => none }
def headMayRow : OpenClaim := { program := "ytkhglmmidgfliaa", sum := "9dc55efbd912609ddfaae6911037eb25230538f27fcd5967dd3b5533c7b68bfc", func := "halftone/halftonelaw12.HeadMay", spec := "headMay", unfollowed := true, recurses := true, apart := false }
def HeadMaySaid : Prop := headMayRow.holds Try.pinned (OpenSpec.ofChange headMaySpec)

/-- ITS FALSE NEIGHBOUR: 'it returns false'. Refute it at one input. -/
def headMayWrong : ChangeSpec := { name := "headMay", fn := fun _ => fun
  | [d] => { results := [.lit (.bool false)], args := [d] }
  | _ => none }
def HeadMayWrongFalsely : Prop := headMayRow.holds Try.pinned (OpenSpec.ofChange headMayWrong)

/-- 'halftonelaw12.HeadWrites': WHATEVER THE INPUT: true; the input reads as it did. -/
def headWritesSpec : ChangeSpec := { name := "headWrites", fn := fun _ => fun
  | [d1, d2, d3] => { results := [.lit (.bool true)], args := [d1, d2, d3] }
  | _ => none }
def headWritesRow : OpenClaim := { program := "ytkhglmmidgfliaa", sum := "9dc55efbd912609ddfaae6911037eb25230538f27fcd5967dd3b5533c7b68bfc", func := "halftone/halftonelaw12.HeadWrites", spec := "headWrites", unfollowed := true, recurses := true, apart := false }
def HeadWritesSaid : Prop := headWritesRow.holds Try.pinned (OpenSpec.ofChange headWritesSpec)

/-- ITS FALSE NEIGHBOUR: 'it returns false'. Refute it at one input. -/
def headWritesWrong : ChangeSpec := { name := "headWrites", fn := fun _ => fun
  | [d1, d2, d3] => { results := [.lit (.bool false)], args := [d1, d2, d3] }
  | _ => none }
def HeadWritesWrongFalsely : Prop := headWritesRow.holds Try.pinned (OpenSpec.ofChange headWritesWrong)

/-- 'halftonelaw12.HeadClears': WHATEVER THE INPUT: true; the input reads as it did. -/
def headClearsSpec : ChangeSpec := { name := "headClears", fn := fun _ => fun
  | [d1, d2, d3] => { results := [.lit (.bool true)], args := [d1, d2, d3] }
  | _ => none }
def headClearsRow : OpenClaim := { program := "ytkhglmmidgfliaa", sum := "9dc55efbd912609ddfaae6911037eb25230538f27fcd5967dd3b5533c7b68bfc", func := "halftone/halftonelaw12.HeadClears", spec := "headClears", unfollowed := true, recurses := true, apart := false }
def HeadClearsSaid : Prop := headClearsRow.holds Try.pinned (OpenSpec.ofChange headClearsSpec)

/-- ITS FALSE NEIGHBOUR: 'it returns false'. Refute it at one input. -/
def headClearsWrong : ChangeSpec := { name := "headClears", fn := fun _ => fun
  | [d1, d2, d3] => { results := [.lit (.bool false)], args := [d1, d2, d3] }
  | _ => none }
def HeadClearsWrongFalsely : Prop := headClearsRow.holds Try.pinned (OpenSpec.ofChange headClearsWrong)

/-- 'halftonelaw12.HeadTints': WHATEVER THE INPUT: true; the input reads as it did. -/
def headTintsSpec : ChangeSpec := { name := "headTints", fn := fun _ => fun
  | [d1, d2, d3] => { results := [.lit (.bool true)], args := [d1, d2, d3] }
  | _ => none }
def headTintsRow : OpenClaim := { program := "ytkhglmmidgfliaa", sum := "9dc55efbd912609ddfaae6911037eb25230538f27fcd5967dd3b5533c7b68bfc", func := "halftone/halftonelaw12.HeadTints", spec := "headTints", unfollowed := true, recurses := true, apart := false }
def HeadTintsSaid : Prop := headTintsRow.holds Try.pinned (OpenSpec.ofChange headTintsSpec)

/-- ITS FALSE NEIGHBOUR: 'it returns false'. Refute it at one input. -/
def headTintsWrong : ChangeSpec := { name := "headTints", fn := fun _ => fun
  | [d1, d2, d3] => { results := [.lit (.bool false)], args := [d1, d2, d3] }
  | _ => none }
def HeadTintsWrongFalsely : Prop := headTintsRow.holds Try.pinned (OpenSpec.ofChange headTintsWrong)

/-- 'halftonelaw12.HeadReads': WHATEVER THE INPUT: true; the input reads as it did. -/
def headReadsSpec : ChangeSpec := { name := "headReads", fn := fun _ => fun
  | [d1, d2] => { results := [.lit (.bool true)], args := [d1, d2] }
  | _ => none }
def headReadsRow : OpenClaim := { program := "ytkhglmmidgfliaa", sum := "9dc55efbd912609ddfaae6911037eb25230538f27fcd5967dd3b5533c7b68bfc", func := "halftone/halftonelaw12.HeadReads", spec := "headReads", unfollowed := true, recurses := true, apart := false }
def HeadReadsSaid : Prop := headReadsRow.holds Try.pinned (OpenSpec.ofChange headReadsSpec)

/-- ITS FALSE NEIGHBOUR: 'it returns false'. Refute it at one input. -/
def headReadsWrong : ChangeSpec := { name := "headReads", fn := fun _ => fun
  | [d1, d2] => { results := [.lit (.bool false)], args := [d1, d2] }
  | _ => none }
def HeadReadsWrongFalsely : Prop := headReadsRow.holds Try.pinned (OpenSpec.ofChange headReadsWrong)

/-- 'halftonelaw12.HeadBack': WHATEVER THE INPUT: true; the input reads as it did. -/
def headBackSpec : ChangeSpec := { name := "headBack", fn := fun _ => fun
  | [d1, d2, d3] => { results := [.lit (.bool true)], args := [d1, d2, d3] }
  | _ => none }
def headBackRow : OpenClaim := { program := "ytkhglmmidgfliaa", sum := "9dc55efbd912609ddfaae6911037eb25230538f27fcd5967dd3b5533c7b68bfc", func := "halftone/halftonelaw12.HeadBack", spec := "headBack", unfollowed := true, recurses := true, apart := false }
def HeadBackSaid : Prop := headBackRow.holds Try.pinned (OpenSpec.ofChange headBackSpec)

/-- ITS FALSE NEIGHBOUR: 'it returns false'. Refute it at one input. -/
def headBackWrong : ChangeSpec := { name := "headBack", fn := fun _ => fun
  | [d1, d2, d3] => { results := [.lit (.bool false)], args := [d1, d2, d3] }
  | _ => none }
def HeadBackWrongFalsely : Prop := headBackRow.holds Try.pinned (OpenSpec.ofChange headBackWrong)

/- THE SECOND FORM. 'bulk': how many values and letters a reading holds, each counted each time it is reached (what is shared counts as often as it is met; a slice's spare places count too). A statement '..UptoSaid' is the law's where the arguments, and the package variables that the reading takes, are together of bulk at most 1048576: NARROWER than '..Said'. Prove '..Said' where nothing that the law and all that it calls make is longer than what came in: it says more and counts as full. Else prove '..UptoSaid'. A law counts once. -/
mutual
def uptoBulk {H : Type} : DataW H → Nat
  | .lit (.string bytes) => bytes.length + 1
  | .lit _ => 1
  | .nil => 1
  | .ptr d => uptoBulk d + 1
  | .slice elems spare => uptoBulkAll elems + uptoBulkAll spare + 1
  | .agg parts => uptoBulkAll parts + 1
  | .iface _ d => uptoBulk d + 1
  | .map entries => uptoBulkEntries entries + 1
  | .held _ => 1
def uptoBulkAll {H : Type} : List (DataW H) → Nat
  | [] => 0
  | d :: r => uptoBulk d + uptoBulkAll r
def uptoBulkEntries {H : Type} : List (Lit × DataW H) → Nat
  | [] => 0
  | x :: r => uptoBulkEntry x + uptoBulkEntries r
def uptoBulkEntry {H : Type} : Lit × DataW H → Nat
  | (.string bytes, d) => bytes.length + uptoBulk d + 1
  | (_, d) => uptoBulk d + 1
 end
def uptoSmall : (H : Type) → List (DataW H) → Bool := fun _ ds => decide (uptoBulkAll ds ≤ 1048576)
def OpenSpec.upto (s : _root_.Go.ChangeSpec) : _root_.Go.OpenSpec := { _root_.Go.OpenSpec.ofChange s with cond := some uptoSmall }

/-- 'halftonelaw14.AdamPasses', WHERE WHAT IT READS IS OF BULK AT MOST 1048576: true; the input reads as it did. -/
def adamPassesUptoRow : OpenClaim := { program := "ytkhglmmidgfliaa", sum := "9dc55efbd912609ddfaae6911037eb25230538f27fcd5967dd3b5533c7b68bfc", func := "halftone/halftonelaw14.AdamPasses", spec := "adamPasses", unfollowed := true, recurses := true, apart := false, narrowed := true }
def AdamPassesUptoSaid : Prop := adamPassesUptoRow.holds Try.pinned (OpenSpec.upto adamPassesSpec)

/-- 'halftonelaw14.AdamLines', WHERE WHAT IT READS IS OF BULK AT MOST 1048576: true; the input reads as it did. -/
def adamLinesUptoRow : OpenClaim := { program := "ytkhglmmidgfliaa", sum := "9dc55efbd912609ddfaae6911037eb25230538f27fcd5967dd3b5533c7b68bfc", func := "halftone/halftonelaw14.AdamLines", spec := "adamLines", unfollowed := true, recurses := true, apart := false, narrowed := true }
def AdamLinesUptoSaid : Prop := adamLinesUptoRow.holds Try.pinned (OpenSpec.upto adamLinesSpec)

/-- 'halftonelaw14.AdamBytes', WHERE WHAT IT READS IS OF BULK AT MOST 1048576: true; the input reads as it did. -/
def adamBytesUptoRow : OpenClaim := { program := "ytkhglmmidgfliaa", sum := "9dc55efbd912609ddfaae6911037eb25230538f27fcd5967dd3b5533c7b68bfc", func := "halftone/halftonelaw14.AdamBytes", spec := "adamBytes", unfollowed := true, recurses := true, apart := false, narrowed := true }
def AdamBytesUptoSaid : Prop := adamBytesUptoRow.holds Try.pinned (OpenSpec.upto adamBytesSpec)

/-- 'halftonelaw14.AdamOnce', WHERE WHAT IT READS IS OF BULK AT MOST 1048576: true; the input reads as it did. -/
def adamOnceUptoRow : OpenClaim := { program := "ytkhglmmidgfliaa", sum := "9dc55efbd912609ddfaae6911037eb25230538f27fcd5967dd3b5533c7b68bfc", func := "halftone/halftonelaw14.AdamOnce", spec := "adamOnce", unfollowed := true, recurses := true, apart := false, narrowed := true }
def AdamOnceUptoSaid : Prop := adamOnceUptoRow.holds Try.pinned (OpenSpec.upto adamOnceSpec)

/-- 'halftonelaw14.AdamLeft', WHERE WHAT IT READS IS OF BULK AT MOST 1048576: true; the input reads as it did. -/
def adamLeftUptoRow : OpenClaim := { program := "ytkhglmmidgfliaa", sum := "9dc55efbd912609ddfaae6911037eb25230538f27fcd5967dd3b5533c7b68bfc", func := "halftone/halftonelaw14.AdamLeft", spec := "adamLeft", unfollowed := true, recurses := true, apart := false, narrowed := true }
def AdamLeftUptoSaid : Prop := adamLeftUptoRow.holds Try.pinned (OpenSpec.upto adamLeftSpec)

/-- 'halftonelaw12.HeadMay', WHERE WHAT IT READS IS OF BULK AT MOST 1048576: true; the input reads as it did. -/
def headMayUptoRow : OpenClaim := { program := "ytkhglmmidgfliaa", sum := "9dc55efbd912609ddfaae6911037eb25230538f27fcd5967dd3b5533c7b68bfc", func := "halftone/halftonelaw12.HeadMay", spec := "headMay", unfollowed := true, recurses := true, apart := false, narrowed := true }
def HeadMayUptoSaid : Prop := headMayUptoRow.holds Try.pinned (OpenSpec.upto headMaySpec)

/-- 'halftonelaw12.HeadWrites', WHERE WHAT IT READS IS OF BULK AT MOST 1048576: true; the input reads as it did. -/
def headWritesUptoRow : OpenClaim := { program := "ytkhglmmidgfliaa", sum := "9dc55efbd912609ddfaae6911037eb25230538f27fcd5967dd3b5533c7b68bfc", func := "halftone/halftonelaw12.HeadWrites", spec := "headWrites", unfollowed := true, recurses := true, apart := false, narrowed := true }
def HeadWritesUptoSaid : Prop := headWritesUptoRow.holds Try.pinned (OpenSpec.upto headWritesSpec)

/-- 'halftonelaw12.HeadClears', WHERE WHAT IT READS IS OF BULK AT MOST 1048576: true; the input reads as it did. -/
def headClearsUptoRow : OpenClaim := { program := "ytkhglmmidgfliaa", sum := "9dc55efbd912609ddfaae6911037eb25230538f27fcd5967dd3b5533c7b68bfc", func := "halftone/halftonelaw12.HeadClears", spec := "headClears", unfollowed := true, recurses := true, apart := false, narrowed := true }
def HeadClearsUptoSaid : Prop := headClearsUptoRow.holds Try.pinned (OpenSpec.upto headClearsSpec)

/-- 'halftonelaw12.HeadTints', WHERE WHAT IT READS IS OF BULK AT MOST 1048576: true; the input reads as it did. -/
def headTintsUptoRow : OpenClaim := { program := "ytkhglmmidgfliaa", sum := "9dc55efbd912609ddfaae6911037eb25230538f27fcd5967dd3b5533c7b68bfc", func := "halftone/halftonelaw12.HeadTints", spec := "headTints", unfollowed := true, recurses := true, apart := false, narrowed := true }
def HeadTintsUptoSaid : Prop := headTintsUptoRow.holds Try.pinned (OpenSpec.upto headTintsSpec)

/-- 'halftonelaw12.HeadReads', WHERE WHAT IT READS IS OF BULK AT MOST 1048576: true; the input reads as it did. -/
def headReadsUptoRow : OpenClaim := { program := "ytkhglmmidgfliaa", sum := "9dc55efbd912609ddfaae6911037eb25230538f27fcd5967dd3b5533c7b68bfc", func := "halftone/halftonelaw12.HeadReads", spec := "headReads", unfollowed := true, recurses := true, apart := false, narrowed := true }
def HeadReadsUptoSaid : Prop := headReadsUptoRow.holds Try.pinned (OpenSpec.upto headReadsSpec)

/-- 'halftonelaw12.HeadBack', WHERE WHAT IT READS IS OF BULK AT MOST 1048576: true; the input reads as it did. -/
def headBackUptoRow : OpenClaim := { program := "ytkhglmmidgfliaa", sum := "9dc55efbd912609ddfaae6911037eb25230538f27fcd5967dd3b5533c7b68bfc", func := "halftone/halftonelaw12.HeadBack", spec := "headBack", unfollowed := true, recurses := true, apart := false, narrowed := true }
def HeadBackUptoSaid : Prop := headBackUptoRow.holds Try.pinned (OpenSpec.upto headBackSpec)

end Rows
end Go.Proofs.Ytkhglmmidgfliaa

/-
  No cell of these rows narrows 'for every input' (looked for: loops, veiled, ifaces, maps, wideKeys, modest, calm, conditions, laid).
  DERIVED. THE GIVEN ROWS OF THIS SEAT. 5 by the template 'for every input the law returns true; each argument reads behind the call as it read before'; 0 by the template 'total and deterministic' (their statements: YtamkfjbdcjkchaaTotals.lean).
  GIVEN WITH THE SEED: the statements are not yours to turn. If you find one false, say at which input.
  Laid BY PROGRAM, IN A SANDBOX (cutbox-rows.mjs): the forced cells as the released guide's own fill.sh prints them over the translation c342acfaa3f3540e… (all of the seat's roots in one cut). By AI agents, Wed Nov 11 2026. No macro, syntax, notation, axiom, sorry.
-/
import Derived.Test.YtamkfjbdcjkchaaChecked
import GoSem.Claim
import GoSem.ClaimJoined
import GoSem.ClaimMapViews
import Derived.JoinedTies
import Derived.KernelRfl
namespace Go.Proofs.Ytamkfjbdcjkchaa
/- THE CELL 'sum', in the pinned program and in every row, IS THE sha256 OF THE DUMP (.gsa) THAT YtamkfjbdcjkchaaProg.lean LOADS. Nothing in Lean hashes anything: it is a label: what it is worth is what the hold of that sum in a sandbox is worth. -/
noncomputable def Try.pinned : Pinned := { name := "ytamkfjbdcjkchaa", sum := "c342acfaa3f3540ee7a04abf56e286a465d203db0489d31c6b7d3283eec767c8", checked := Try.checked }
namespace Rows
def none {H : Type} : Left H := { results := [], args := [] }

/-- 'halftonelaw22.SegmentWrites': WHATEVER THE INPUT: true; the input reads as it did. -/
def segmentWritesSpec : ChangeSpec := { name := "segmentWrites", fn := fun _ => fun
  | [d] => { results := [.lit (.bool true)], args := [d] }
  | _ => none }
def segmentWritesRow : OpenClaim := { program := "ytamkfjbdcjkchaa", sum := "c342acfaa3f3540ee7a04abf56e286a465d203db0489d31c6b7d3283eec767c8", func := "halftone/halftonelaw22.SegmentWrites", spec := "segmentWrites", unfollowed := true, recurses := true, apart := false }
def SegmentWritesSaid : Prop := segmentWritesRow.holds Try.pinned (OpenSpec.ofChange segmentWritesSpec)

/-- ITS FALSE NEIGHBOUR: 'it returns false'. Refute it at one input. -/
def segmentWritesWrong : ChangeSpec := { name := "segmentWrites", fn := fun _ => fun
  | [d] => { results := [.lit (.bool false)], args := [d] }
  | _ => none }
def SegmentWritesWrongFalsely : Prop := segmentWritesRow.holds Try.pinned (OpenSpec.ofChange segmentWritesWrong)

/-- 'halftonelaw22.SegmentReads': WHATEVER THE INPUT: true; the input reads as it did. -/
def segmentReadsSpec : ChangeSpec := { name := "segmentReads", fn := fun _ => fun
  | [d] => { results := [.lit (.bool true)], args := [d] }
  | _ => none }
def segmentReadsRow : OpenClaim := { program := "ytamkfjbdcjkchaa", sum := "c342acfaa3f3540ee7a04abf56e286a465d203db0489d31c6b7d3283eec767c8", func := "halftone/halftonelaw22.SegmentReads", spec := "segmentReads", unfollowed := true, recurses := true, apart := false }
def SegmentReadsSaid : Prop := segmentReadsRow.holds Try.pinned (OpenSpec.ofChange segmentReadsSpec)

/-- ITS FALSE NEIGHBOUR: 'it returns false'. Refute it at one input. -/
def segmentReadsWrong : ChangeSpec := { name := "segmentReads", fn := fun _ => fun
  | [d] => { results := [.lit (.bool false)], args := [d] }
  | _ => none }
def SegmentReadsWrongFalsely : Prop := segmentReadsRow.holds Try.pinned (OpenSpec.ofChange segmentReadsWrong)

/-- 'halftonelaw22.SegmentSealed': WHATEVER THE INPUT: true; the input reads as it did. -/
def segmentSealedSpec : ChangeSpec := { name := "segmentSealed", fn := fun _ => fun
  | [d] => { results := [.lit (.bool true)], args := [d] }
  | _ => none }
def segmentSealedRow : OpenClaim := { program := "ytamkfjbdcjkchaa", sum := "c342acfaa3f3540ee7a04abf56e286a465d203db0489d31c6b7d3283eec767c8", func := "halftone/halftonelaw22.SegmentSealed", spec := "segmentSealed", unfollowed := true, recurses := true, apart := false }
def SegmentSealedSaid : Prop := segmentSealedRow.holds Try.pinned (OpenSpec.ofChange segmentSealedSpec)

/-- ITS FALSE NEIGHBOUR: 'it returns false'. Refute it at one input. -/
def segmentSealedWrong : ChangeSpec := { name := "segmentSealed", fn := fun _ => fun
  | [d] => { results := [.lit (.bool false)], args := [d] }
  | _ => none }
def SegmentSealedWrongFalsely : Prop := segmentSealedRow.holds Try.pinned (OpenSpec.ofChange segmentSealedWrong)

/-- 'halftonelaw22.SegmentBack': WHATEVER THE INPUT: true; the input reads as it did. -/
def segmentBackSpec : ChangeSpec := { name := "segmentBack", fn := fun _ => fun
  | [d] => { results := [.lit (.bool true)], args := [d] }
  | _ => none }
def segmentBackRow : OpenClaim := { program := "ytamkfjbdcjkchaa", sum := "c342acfaa3f3540ee7a04abf56e286a465d203db0489d31c6b7d3283eec767c8", func := "halftone/halftonelaw22.SegmentBack", spec := "segmentBack", unfollowed := true, recurses := true, apart := false }
def SegmentBackSaid : Prop := segmentBackRow.holds Try.pinned (OpenSpec.ofChange segmentBackSpec)

/-- ITS FALSE NEIGHBOUR: 'it returns false'. Refute it at one input. -/
def segmentBackWrong : ChangeSpec := { name := "segmentBack", fn := fun _ => fun
  | [d] => { results := [.lit (.bool false)], args := [d] }
  | _ => none }
def SegmentBackWrongFalsely : Prop := segmentBackRow.holds Try.pinned (OpenSpec.ofChange segmentBackWrong)

/-- 'halftonelaw22.SegmentTurned': WHATEVER THE INPUT: true; the input reads as it did. -/
def segmentTurnedSpec : ChangeSpec := { name := "segmentTurned", fn := fun _ => fun
  | [d1, d2, d3] => { results := [.lit (.bool true)], args := [d1, d2, d3] }
  | _ => none }
def segmentTurnedRow : OpenClaim := { program := "ytamkfjbdcjkchaa", sum := "c342acfaa3f3540ee7a04abf56e286a465d203db0489d31c6b7d3283eec767c8", func := "halftone/halftonelaw22.SegmentTurned", spec := "segmentTurned", unfollowed := true, recurses := true, apart := false }
def SegmentTurnedSaid : Prop := segmentTurnedRow.holds Try.pinned (OpenSpec.ofChange segmentTurnedSpec)

/-- ITS FALSE NEIGHBOUR: 'it returns false'. Refute it at one input. -/
def segmentTurnedWrong : ChangeSpec := { name := "segmentTurned", fn := fun _ => fun
  | [d1, d2, d3] => { results := [.lit (.bool false)], args := [d1, d2, d3] }
  | _ => none }
def SegmentTurnedWrongFalsely : Prop := segmentTurnedRow.holds Try.pinned (OpenSpec.ofChange segmentTurnedWrong)

/- THE SECOND FORM. 'bulk': how many values and letters a reading holds, each counted each time it is reached (what is shared counts as often as it is met; a slice's spare places count too). A statement '..UptoSaid' is the law's where the arguments, and the package variables that the reading takes, are together of bulk at most 1048576: NARROWER than '..Said'. Prove '..Said' where nothing that the law and all that it calls make is longer than what came in: it says more and counts as full. Else prove '..UptoSaid'. A law counts once. -/
mutual
def uptoBulk {H : Type} : DataW H → Nat
  | .lit (.string bytes) => bytes.length + 1
  | .lit _ => 1
  | .nil => 1
  | .ptr d => uptoBulk d + 1
  | .slice elems spare => uptoBulkAll elems + uptoBulkAll spare + 1
  | .agg parts => uptoBulkAll parts + 1
  | .iface _ d => uptoBulk d + 1
  | .map entries => uptoBulkEntries entries + 1
  | .held _ => 1
def uptoBulkAll {H : Type} : List (DataW H) → Nat
  | [] => 0
  | d :: r => uptoBulk d + uptoBulkAll r
def uptoBulkEntries {H : Type} : List (Lit × DataW H) → Nat
  | [] => 0
  | x :: r => uptoBulkEntry x + uptoBulkEntries r
def uptoBulkEntry {H : Type} : Lit × DataW H → Nat
  | (.string bytes, d) => bytes.length + uptoBulk d + 1
  | (_, d) => uptoBulk d + 1
 end
def uptoSmall : (H : Type) → List (DataW H) → Bool := fun _ ds => decide (uptoBulkAll ds ≤ 1048576)
def OpenSpec.upto (s : _root_.Go.ChangeSpec) : _root_.Go.OpenSpec := { _root_.Go.OpenSpec.ofChange s with cond := some uptoSmall }

/-- 'halftonelaw22.SegmentWrites', WHERE WHAT IT READS IS OF BULK AT MOST 1048576: true; the input reads as it did. -/
def segmentWritesUptoRow : OpenClaim := { program := "ytamkfjbdcjkchaa", sum := "c342acfaa3f3540ee7a04abf56e286a465d203db0489d31c6b7d3283eec767c8", func := "halftone/halftonelaw22.SegmentWrites", spec := "segmentWrites", unfollowed := true, recurses := true, apart := false, narrowed := true }
def SegmentWritesUptoSaid : Prop := segmentWritesUptoRow.holds Try.pinned (OpenSpec.upto segmentWritesSpec)

/-- 'halftonelaw22.SegmentReads', WHERE WHAT IT READS IS OF BULK AT MOST 1048576: true; the input reads as it did. -/
def segmentReadsUptoRow : OpenClaim := { program := "ytamkfjbdcjkchaa", sum := "c342acfaa3f3540ee7a04abf56e286a465d203db0489d31c6b7d3283eec767c8", func := "halftone/halftonelaw22.SegmentReads", spec := "segmentReads", unfollowed := true, recurses := true, apart := false, narrowed := true }
def SegmentReadsUptoSaid : Prop := segmentReadsUptoRow.holds Try.pinned (OpenSpec.upto segmentReadsSpec)

/-- 'halftonelaw22.SegmentSealed', WHERE WHAT IT READS IS OF BULK AT MOST 1048576: true; the input reads as it did. -/
def segmentSealedUptoRow : OpenClaim := { program := "ytamkfjbdcjkchaa", sum := "c342acfaa3f3540ee7a04abf56e286a465d203db0489d31c6b7d3283eec767c8", func := "halftone/halftonelaw22.SegmentSealed", spec := "segmentSealed", unfollowed := true, recurses := true, apart := false, narrowed := true }
def SegmentSealedUptoSaid : Prop := segmentSealedUptoRow.holds Try.pinned (OpenSpec.upto segmentSealedSpec)

/-- 'halftonelaw22.SegmentBack', WHERE WHAT IT READS IS OF BULK AT MOST 1048576: true; the input reads as it did. -/
def segmentBackUptoRow : OpenClaim := { program := "ytamkfjbdcjkchaa", sum := "c342acfaa3f3540ee7a04abf56e286a465d203db0489d31c6b7d3283eec767c8", func := "halftone/halftonelaw22.SegmentBack", spec := "segmentBack", unfollowed := true, recurses := true, apart := false, narrowed := true }
def SegmentBackUptoSaid : Prop := segmentBackUptoRow.holds Try.pinned (OpenSpec.upto segmentBackSpec)

/-- 'halftonelaw22.SegmentTurned', WHERE WHAT IT READS IS OF BULK AT MOST 1048576: true; the input reads as it did. -/
def segmentTurnedUptoRow : OpenClaim := { program := "ytamkfjbdcjkchaa", sum := "c342acfaa3f3540ee7a04abf56e286a465d203db0489d31c6b7d3283eec767c8", func := "halftone/halftonelaw22.SegmentTurned", spec := "segmentTurned", unfollowed := true, recurses := true, apart := false, narrowed := true }
def SegmentTurnedUptoSaid : Prop := segmentTurnedUptoRow.holds Try.pinned (OpenSpec.upto segmentTurnedSpec)

end Rows
end Go.Proofs.Ytamkfjbdcjkchaa

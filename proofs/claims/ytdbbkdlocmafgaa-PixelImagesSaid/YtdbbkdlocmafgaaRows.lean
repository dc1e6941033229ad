/-
  No cell of these rows narrows 'for every input' (looked for: loops, veiled, ifaces, maps, wideKeys, modest, calm, conditions, laid).
  DERIVED. THE GIVEN ROWS OF THIS SEAT. 7 by the template 'for every input the law returns true; each argument reads behind the call as it read before'; 0 by the template 'total and deterministic' (their statements: YtdbbkdlocmafgaaTotals.lean).
  GIVEN WITH THE SEED: the statements are not yours to turn. If you find one false, say at which input.
  Laid BY PROGRAM, IN A SANDBOX (cutbox-rows.mjs): the forced cells as the released guide's own fill.sh prints them over the translation 986f95c2eb9d0721… (all of the seat's roots in one cut). By AI agents, Wed Nov 11 2026. No macro, syntax, notation, axiom, sorry.
-/
import Derived.Test.YtdbbkdlocmafgaaChecked
import GoSem.Claim
import GoSem.ClaimJoined
import GoSem.ClaimMapViews
import Derived.JoinedTies
import Derived.KernelRfl
namespace Go.Proofs.Ytdbbkdlocmafgaa
/- THE CELL 'sum', in the pinned program and in every row, IS THE sha256 OF THE DUMP (.gsa) THAT YtdbbkdlocmafgaaProg.lean LOADS. Nothing in Lean hashes anything: it is a label: what it is worth is what the hold of that sum in a sandbox is worth. -/
noncomputable def Try.pinned : Pinned := { name := "ytdbbkdlocmafgaa", sum := "986f95c2eb9d0721852c2eb489f83a2d8dfe3b871b19dfdb89b2b066203efb2a", checked := Try.checked }
namespace Rows
def none {H : Type} : Left H := { results := [], args := [] }

/-- 'halftonelaw15.PixelPacks': WHATEVER THE INPUT: true; the input reads as it did. -/
def pixelPacksSpec : ChangeSpec := { name := "pixelPacks", fn := fun _ => fun
  | [d1, d2] => { results := [.lit (.bool true)], args := [d1, d2] }
  | _ => none }
def pixelPacksRow : OpenClaim := { program := "ytdbbkdlocmafgaa", sum := "986f95c2eb9d0721852c2eb489f83a2d8dfe3b871b19dfdb89b2b066203efb2a", func := "halftone/halftonelaw15.PixelPacks", spec := "pixelPacks", unfollowed := true, recurses := true, apart := false }
def PixelPacksSaid : Prop := pixelPacksRow.holds Try.pinned (OpenSpec.ofChange pixelPacksSpec)

/-- ITS FALSE NEIGHBOUR: 'it returns false'. Refute it at one input. -/
def pixelPacksWrong : ChangeSpec := { name := "pixelPacks", fn := fun _ => fun
  | [d1, d2] => { results := [.lit (.bool false)], args := [d1, d2] }
  | _ => none }
def PixelPacksWrongFalsely : Prop := pixelPacksRow.holds Try.pinned (OpenSpec.ofChange pixelPacksWrong)

/-- 'halftonelaw15.PixelColors': WHATEVER THE INPUT: true; the input reads as it did. -/
def pixelColorsSpec : ChangeSpec := { name := "pixelColors", fn := fun _ => fun
  | [d1, d2] => { results := [.lit (.bool true)], args := [d1, d2] }
  | _ => none }
def pixelColorsRow : OpenClaim := { program := "ytdbbkdlocmafgaa", sum := "986f95c2eb9d0721852c2eb489f83a2d8dfe3b871b19dfdb89b2b066203efb2a", func := "halftone/halftonelaw15.PixelColors", spec := "pixelColors", unfollowed := true, recurses := true, apart := false }
def PixelColorsSaid : Prop := pixelColorsRow.holds Try.pinned (OpenSpec.ofChange pixelColorsSpec)

/-- ITS FALSE NEIGHBOUR: 'it returns false'. Refute it at one input. -/
def pixelColorsWrong : ChangeSpec := { name := "pixelColors", fn := fun _ => fun
  | [d1, d2] => { results := [.lit (.bool false)], args := [d1, d2] }
  | _ => none }
def PixelColorsWrongFalsely : Prop := pixelColorsRow.holds Try.pinned (OpenSpec.ofChange pixelColorsWrong)

/-- 'halftonelaw15.PixelRises': WHATEVER THE INPUT: true; the input reads as it did. -/
def pixelRisesSpec : ChangeSpec := { name := "pixelRises", fn := fun _ => fun
  | [d1, d2, d3] => { results := [.lit (.bool true)], args := [d1, d2, d3] }
  | _ => none }
def pixelRisesRow : OpenClaim := { program := "ytdbbkdlocmafgaa", sum := "986f95c2eb9d0721852c2eb489f83a2d8dfe3b871b19dfdb89b2b066203efb2a", func := "halftone/halftonelaw15.PixelRises", spec := "pixelRises", unfollowed := true, recurses := true, apart := false }
def PixelRisesSaid : Prop := pixelRisesRow.holds Try.pinned (OpenSpec.ofChange pixelRisesSpec)

/-- ITS FALSE NEIGHBOUR: 'it returns false'. Refute it at one input. -/
def pixelRisesWrong : ChangeSpec := { name := "pixelRises", fn := fun _ => fun
  | [d1, d2, d3] => { results := [.lit (.bool false)], args := [d1, d2, d3] }
  | _ => none }
def PixelRisesWrongFalsely : Prop := pixelRisesRow.holds Try.pinned (OpenSpec.ofChange pixelRisesWrong)

/-- 'halftonelaw15.PixelChecks': WHATEVER THE INPUT: true; the input reads as it did. -/
def pixelChecksSpec : ChangeSpec := { name := "pixelChecks", fn := fun _ => fun
  | [d] => { results := [.lit (.bool true)], args := [d] }
  | _ => none }
def pixelChecksRow : OpenClaim := { program := "ytdbbkdlocmafgaa", sum := "986f95c2eb9d0721852c2eb489f83a2d8dfe3b871b19dfdb89b2b066203efb2a", func := "halftone/halftonelaw15.PixelChecks", spec := "pixelChecks", unfollowed := true, recurses := true, apart := false }
def PixelChecksSaid : Prop := pixelChecksRow.holds Try.pinned (OpenSpec.ofChange pixelChecksSpec)

/-- ITS FALSE NEIGHBOUR: 'it returns false'. Refute it at one input. -/
def pixelChecksWrong : ChangeSpec := { name := "pixelChecks", fn := fun _ => fun
  | [d] => { results := [.lit (.bool false)], args := [d] }
  | _ => none }
def PixelChecksWrongFalsely : Prop := pixelChecksRow.holds Try.pinned (OpenSpec.ofChange pixelChecksWrong)

/-- 'halftonelaw15.PixelUnpacks': WHATEVER THE INPUT: true; the input reads as it did. -/
def pixelUnpacksSpec : ChangeSpec := { name := "pixelUnpacks", fn := fun _ => fun
  | [d1, d2, d3] => { results := [.lit (.bool true)], args := [d1, d2, d3] }
  | _ => none }
def pixelUnpacksRow : OpenClaim := { program := "ytdbbkdlocmafgaa", sum := "986f95c2eb9d0721852c2eb489f83a2d8dfe3b871b19dfdb89b2b066203efb2a", func := "halftone/halftonelaw15.PixelUnpacks", spec := "pixelUnpacks", unfollowed := true, recurses := true, apart := false }
def PixelUnpacksSaid : Prop := pixelUnpacksRow.holds Try.pinned (OpenSpec.ofChange pixelUnpacksSpec)

/-- ITS FALSE NEIGHBOUR: 'it returns false'. Refute it at one input. -/
def pixelUnpacksWrong : ChangeSpec := { name := "pixelUnpacks", fn := fun _ => fun
  | [d1, d2, d3] => { results := [.lit (.bool false)], args := [d1, d2, d3] }
  | _ => none }
def PixelUnpacksWrongFalsely : Prop := pixelUnpacksRow.holds Try.pinned (OpenSpec.ofChange pixelUnpacksWrong)

/-- 'halftonelaw15.PixelBack': WHATEVER THE INPUT: true; the input reads as it did. -/
def pixelBackSpec : ChangeSpec := { name := "pixelBack", fn := fun _ => fun
  | [d1, d2, d3] => { results := [.lit (.bool true)], args := [d1, d2, d3] }
  | _ => none }
def pixelBackRow : OpenClaim := { program := "ytdbbkdlocmafgaa", sum := "986f95c2eb9d0721852c2eb489f83a2d8dfe3b871b19dfdb89b2b066203efb2a", func := "halftone/halftonelaw15.PixelBack", spec := "pixelBack", unfollowed := true, recurses := true, apart := false }
def PixelBackSaid : Prop := pixelBackRow.holds Try.pinned (OpenSpec.ofChange pixelBackSpec)

/-- ITS FALSE NEIGHBOUR: 'it returns false'. Refute it at one input. -/
def pixelBackWrong : ChangeSpec := { name := "pixelBack", fn := fun _ => fun
  | [d1, d2, d3] => { results := [.lit (.bool false)], args := [d1, d2, d3] }
  | _ => none }
def PixelBackWrongFalsely : Prop := pixelBackRow.holds Try.pinned (OpenSpec.ofChange pixelBackWrong)

/-- 'halftonelaw15.PixelImages': WHATEVER THE INPUT: true; the input reads as it did. -/
def pixelImagesSpec : ChangeSpec := { name := "pixelImages", fn := fun _ => fun
  | [d] => { results := [.lit (.bool true)], args := [d] }
  | _ => none }
def pixelImagesRow : OpenClaim := { program := "ytdbbkdlocmafgaa", sum := "986f95c2eb9d0721852c2eb489f83a2d8dfe3b871b19dfdb89b2b066203efb2a", func := "halftone/halftonelaw15.PixelImages", spec := "pixelImages", unfollowed := true, recurses := true, apart := false }
def PixelImagesSaid : Prop := pixelImagesRow.holds Try.pinned (OpenSpec.ofChange pixelImagesSpec)

/-- ITS FALSE NEIGHBOUR: 'it returns false'. Refute it at one input. -/
def pixelImagesWrong : ChangeSpec := { name := "pixelImages", fn := fun _ => fun
  | [d] => { results := [.lit (.bool false)], args := [d] }
  | _ => none }
def PixelImagesWrongFalsely : Prop := pixelImagesRow.holds Try.pinned (OpenSpec.ofChange pixelImagesWrong)

/- THE SECOND FORM. 'bulk': how many values and letters a reading holds, each counted each time it is reached (what is shared counts as often as it is met; a slice's spare places count too). A statement '..UptoSaid' is the law's where the arguments, and the package variables that the reading takes, are together of bulk at most 1048576: NARROWER than '..Said'. Prove '..Said' where nothing that the law and all that it calls make is longer than what came in: it says more and counts as full. Else prove '..UptoSaid'. A law counts once. -/
mutual
def uptoBulk {H : Type} : DataW H → Nat
  | .lit (.string bytes) => bytes.length + 1
  | .lit _ => 1
  | .nil => 1
  | .ptr d => uptoBulk d + 1
  | .slice elems spare => uptoBulkAll elems + uptoBulkAll spare + 1
  | .agg parts => uptoBulkAll parts + 1
  | .iface _ d => uptoBulk d + 1
  | .map entries => uptoBulkEntries entries + 1
  | .held _ => 1
def uptoBulkAll {H : Type} : List (DataW H) → Nat
  | [] => 0
  | d :: r => uptoBulk d + uptoBulkAll r
def uptoBulkEntries {H : Type} : List (Lit × DataW H) → Nat
  | [] => 0
  | x :: r => uptoBulkEntry x + uptoBulkEntries r
def uptoBulkEntry {H : Type} : Lit × DataW H → Nat
  | (.string bytes, d) => bytes.length + uptoBulk d + 1
  | (_, d) => uptoBulk d + 1
 end
def uptoSmall : (H : Type) → List (DataW H) → Bool := fun _ ds => decide (uptoBulkAll ds ≤ 1048576)
def OpenSpec.upto (s : _root_.Go.ChangeSpec) : _root_.Go.OpenSpec := { _root_.Go.OpenSpec.ofChange s with cond := some uptoSmall }

/-- 'halftonelaw15.PixelPacks', WHERE WHAT IT READS IS OF BULK AT MOST 1048576: true; the input reads as it did. -/
def pixelPacksUptoRow : OpenClaim := { program := "ytdbbkdlocmafgaa", sum := "986f95c2eb9d0721852c2eb489f83a2d8dfe3b871b19dfdb89b2b066203efb2a", func := "halftone/halftonelaw15.PixelPacks", spec := "pixelPacks", unfollowed := true, recurses := true, apart := false, narrowed := true }
def PixelPacksUptoSaid : Prop := pixelPacksUptoRow.holds Try.pinned (OpenSpec.upto pixelPacksSpec)

/-- 'halftonelaw15.PixelColors', WHERE WHAT IT READS IS OF BULK AT MOST 1048576: true; the input reads as it did. -/
def pixelColorsUptoRow : OpenClaim := { program := "ytdbbkdlocmafgaa", sum := "986f95c2eb9d0721852c2eb489f83a2d8dfe3b871b19dfdb89b2b066203efb2a", func := "halftone/halftonelaw15.PixelColors", spec := "pixelColors", unfollowed := true, recurses := true, apart := false, narrowed := true }
def PixelColorsUptoSaid : Prop := pixelColorsUptoRow.holds Try.pinned (OpenSpec.upto pixelColorsSpec)

/-- 'halftonelaw15.PixelRises', WHERE WHAT IT READS IS OF BULK AT MOST 1048576: true; the input reads as it did. -/
def pixelRisesUptoRow : OpenClaim := { program := "ytdbbkdlocmafgaa", sum := "986f95c2eb9d0721852c2eb489f83a2d8dfe3b871b19dfdb89b2b066203efb2a", func := "halftone/halftonelaw15.PixelRises", spec := "pixelRises", unfollowed := true, recurses := true, apart := false, narrowed := true }
def PixelRisesUptoSaid : Prop := pixelRisesUptoRow.holds Try.pinned (OpenSpec.upto pixelRisesSpec)

/-- 'halftonelaw15.PixelChecks', WHERE WHAT IT READS IS OF BULK AT MOST 1048576: true; the input reads as it did. -/
def pixelChecksUptoRow : OpenClaim := { program := "ytdbbkdlocmafgaa", sum := "986f95c2eb9d0721852c2eb489f83a2d8dfe3b871b19dfdb89b2b066203efb2a", func := "halftone/halftonelaw15.PixelChecks", spec := "pixelChecks", unfollowed := true, recurses := true, apart := false, narrowed := true }
def PixelChecksUptoSaid : Prop := pixelChecksUptoRow.holds Try.pinned (OpenSpec.upto pixelChecksSpec)

/-- 'halftonelaw15.PixelUnpacks', WHERE WHAT IT READS IS OF BULK AT MOST 1048576: true; the input reads as it did. -/
def pixelUnpacksUptoRow : OpenClaim := { program := "ytdbbkdlocmafgaa", sum := "986f95c2eb9d0721852c2eb489f83a2d8dfe3b871b19dfdb89b2b066203efb2a", func := "halftone/halftonelaw15.PixelUnpacks", spec := "pixelUnpacks", unfollowed := true, recurses := true, apart := false, narrowed := true }
def PixelUnpacksUptoSaid : Prop := pixelUnpacksUptoRow.holds Try.pinned (OpenSpec.upto pixelUnpacksSpec)

/-- 'halftonelaw15.PixelBack', WHERE WHAT IT READS IS OF BULK AT MOST 1048576: true; the input reads as it did. -/
def pixelBackUptoRow : OpenClaim := { program := "ytdbbkdlocmafgaa", sum := "986f95c2eb9d0721852c2eb489f83a2d8dfe3b871b19dfdb89b2b066203efb2a", func := "halftone/halftonelaw15.PixelBack", spec := "pixelBack", unfollowed := true, recurses := true, apart := false, narrowed := true }
def PixelBackUptoSaid : Prop := pixelBackUptoRow.holds Try.pinned (OpenSpec.upto pixelBackSpec)

/-- 'halftonelaw15.PixelImages', WHERE WHAT IT READS IS OF BULK AT MOST 1048576: true; the input reads as it did. -/
def pixelImagesUptoRow : OpenClaim := { program := "ytdbbkdlocmafgaa", sum := "986f95c2eb9d0721852c2eb489f83a2d8dfe3b871b19dfdb89b2b066203efb2a", func := "halftone/halftonelaw15.PixelImages", spec := "pixelImages", unfollowed := true, recurses := true, apart := false, narrowed := true }
def PixelImagesUptoSaid : Prop := pixelImagesUptoRow.holds Try.pinned (OpenSpec.upto pixelImagesSpec)

end Rows
end Go.Proofs.Ytdbbkdlocmafgaa

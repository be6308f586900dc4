/-
  No cell of these rows narrows 'for every input' (looked for: loops, veiled, ifaces, maps, wideKeys, modest, calm, conditions, laid).
  DERIVED. THE GIVEN ROWS OF THIS SEAT. 8 by the template 'for every input the law returns true; each argument reads behind the call as it read before'; 0 by the template 'total and deterministic' (their statements: YthblifjeecdhcaaTotals.lean).
  GIVEN WITH THE SEED: the statements are not yours to turn. If you find one false, say at which input.
  Laid BY PROGRAM, IN A SANDBOX (cutbox-rows.mjs): the forced cells as the released guide's own fill.sh prints them over the translation 010f0a5f3ee4eada… (all of the seat's roots in one cut). By AI agents, Wed Nov 11 2026. No macro, syntax, notation, axiom, sorry.
-/
import Derived.Test.YthblifjeecdhcaaChecked
import GoSem.Claim
import GoSem.ClaimJoined
import GoSem.ClaimMapViews
import Derived.JoinedTies
import Derived.KernelRfl
namespace Go.Proofs.Ythblifjeecdhcaa
/- THE CELL 'sum', in the pinned program and in every row, IS THE sha256 OF THE DUMP (.gsa) THAT YthblifjeecdhcaaProg.lean LOADS. Nothing in Lean hashes anything: it is a label: what it is worth is what the hold of that sum in a sandbox is worth. -/
noncomputable def Try.pinned : Pinned := { name := "ythblifjeecdhcaa", sum := "010f0a5f3ee4eadaf6e29c2d26d2edbf1ee356cb05e438e8d9bdeb5138bd13b9", checked := Try.checked }
namespace Rows
def none {H : Type} : Left H := { results := [], args := [] }

/-- 'lookoutlaw30.KmvAdds': WHATEVER THE INPUT: true; the input reads as it did. -/
def kmvAddsSpec : ChangeSpec := { name := "kmvAdds", fn := fun _ => fun
  | [d1, d2, d3] => { results := [.lit (.bool true)], args := [d1, d2, d3] }
  | _ => none }
def kmvAddsRow : OpenClaim := { program := "ythblifjeecdhcaa", sum := "010f0a5f3ee4eadaf6e29c2d26d2edbf1ee356cb05e438e8d9bdeb5138bd13b9", func := "lookout/lookoutlaw30.KmvAdds", spec := "kmvAdds", inPlace := ["slices.overlaps[int]"], unfollowed := true, recurses := true, apart := false }
def KmvAddsSaid : Prop := kmvAddsRow.holds Try.pinned (OpenSpec.ofChange kmvAddsSpec)

/-- ITS FALSE NEIGHBOUR: 'it returns false'. Refute it at one input. -/
def kmvAddsWrong : ChangeSpec := { name := "kmvAdds", fn := fun _ => fun
  | [d1, d2, d3] => { results := [.lit (.bool false)], args := [d1, d2, d3] }
  | _ => none }
def KmvAddsWrongFalsely : Prop := kmvAddsRow.holds Try.pinned (OpenSpec.ofChange kmvAddsWrong)

/-- 'lookoutlaw30.KmvRepeats': WHATEVER THE INPUT: true; the input reads as it did. -/
def kmvRepeatsSpec : ChangeSpec := { name := "kmvRepeats", fn := fun _ => fun
  | [d1, d2] => { results := [.lit (.bool true)], args := [d1, d2] }
  | _ => none }
def kmvRepeatsRow : OpenClaim := { program := "ythblifjeecdhcaa", sum := "010f0a5f3ee4eadaf6e29c2d26d2edbf1ee356cb05e438e8d9bdeb5138bd13b9", func := "lookout/lookoutlaw30.KmvRepeats", spec := "kmvRepeats", inPlace := ["slices.overlaps[int]"], unfollowed := true, recurses := true, apart := false }
def KmvRepeatsSaid : Prop := kmvRepeatsRow.holds Try.pinned (OpenSpec.ofChange kmvRepeatsSpec)

/-- ITS FALSE NEIGHBOUR: 'it returns false'. Refute it at one input. -/
def kmvRepeatsWrong : ChangeSpec := { name := "kmvRepeats", fn := fun _ => fun
  | [d1, d2] => { results := [.lit (.bool false)], args := [d1, d2] }
  | _ => none }
def KmvRepeatsWrongFalsely : Prop := kmvRepeatsRow.holds Try.pinned (OpenSpec.ofChange kmvRepeatsWrong)

/-- 'lookoutlaw30.KmvMerge': WHATEVER THE INPUT: true; the input reads as it did. -/
def kmvMergeSpec : ChangeSpec := { name := "kmvMerge", fn := fun _ => fun
  | [d1, d2] => { results := [.lit (.bool true)], args := [d1, d2] }
  | _ => none }
def kmvMergeRow : OpenClaim := { program := "ythblifjeecdhcaa", sum := "010f0a5f3ee4eadaf6e29c2d26d2edbf1ee356cb05e438e8d9bdeb5138bd13b9", func := "lookout/lookoutlaw30.KmvMerge", spec := "kmvMerge", inPlace := ["slices.overlaps[int]"], unfollowed := true, recurses := true, apart := false }
def KmvMergeSaid : Prop := kmvMergeRow.holds Try.pinned (OpenSpec.ofChange kmvMergeSpec)

/-- ITS FALSE NEIGHBOUR: 'it returns false'. Refute it at one input. -/
def kmvMergeWrong : ChangeSpec := { name := "kmvMerge", fn := fun _ => fun
  | [d1, d2] => { results := [.lit (.bool false)], args := [d1, d2] }
  | _ => none }
def KmvMergeWrongFalsely : Prop := kmvMergeRow.holds Try.pinned (OpenSpec.ofChange kmvMergeWrong)

/-- 'lookoutlaw30.KmvMonoid': WHATEVER THE INPUT: true; the input reads as it did. -/
def kmvMonoidSpec : ChangeSpec := { name := "kmvMonoid", fn := fun _ => fun
  | [d1, d2, d3] => { results := [.lit (.bool true)], args := [d1, d2, d3] }
  | _ => none }
def kmvMonoidRow : OpenClaim := { program := "ythblifjeecdhcaa", sum := "010f0a5f3ee4eadaf6e29c2d26d2edbf1ee356cb05e438e8d9bdeb5138bd13b9", func := "lookout/lookoutlaw30.KmvMonoid", spec := "kmvMonoid", inPlace := ["slices.overlaps[int]"], unfollowed := true, recurses := true, apart := false }
def KmvMonoidSaid : Prop := kmvMonoidRow.holds Try.pinned (OpenSpec.ofChange kmvMonoidSpec)

/-- ITS FALSE NEIGHBOUR: 'it returns false'. Refute it at one input. -/
def kmvMonoidWrong : ChangeSpec := { name := "kmvMonoid", fn := fun _ => fun
  | [d1, d2, d3] => { results := [.lit (.bool false)], args := [d1, d2, d3] }
  | _ => none }
def KmvMonoidWrongFalsely : Prop := kmvMonoidRow.holds Try.pinned (OpenSpec.ofChange kmvMonoidWrong)

/-- 'lookoutlaw30.KmvUnions': WHATEVER THE INPUT: true; the input reads as it did. -/
def kmvUnionsSpec : ChangeSpec := { name := "kmvUnions", fn := fun _ => fun
  | [d1, d2, d3] => { results := [.lit (.bool true)], args := [d1, d2, d3] }
  | _ => none }
def kmvUnionsRow : OpenClaim := { program := "ythblifjeecdhcaa", sum := "010f0a5f3ee4eadaf6e29c2d26d2edbf1ee356cb05e438e8d9bdeb5138bd13b9", func := "lookout/lookoutlaw30.KmvUnions", spec := "kmvUnions", inPlace := ["slices.overlaps[int]"], unfollowed := true, recurses := true, apart := false }
def KmvUnionsSaid : Prop := kmvUnionsRow.holds Try.pinned (OpenSpec.ofChange kmvUnionsSpec)

/-- ITS FALSE NEIGHBOUR: 'it returns false'. Refute it at one input. -/
def kmvUnionsWrong : ChangeSpec := { name := "kmvUnions", fn := fun _ => fun
  | [d1, d2, d3] => { results := [.lit (.bool false)], args := [d1, d2, d3] }
  | _ => none }
def KmvUnionsWrongFalsely : Prop := kmvUnionsRow.holds Try.pinned (OpenSpec.ofChange kmvUnionsWrong)

/-- 'lookoutlaw30.KmvEstimates': WHATEVER THE INPUT: true; the input reads as it did. -/
def kmvEstimatesSpec : ChangeSpec := { name := "kmvEstimates", fn := fun _ => fun
  | [d1, d2] => { results := [.lit (.bool true)], args := [d1, d2] }
  | _ => none }
def kmvEstimatesRow : OpenClaim := { program := "ythblifjeecdhcaa", sum := "010f0a5f3ee4eadaf6e29c2d26d2edbf1ee356cb05e438e8d9bdeb5138bd13b9", func := "lookout/lookoutlaw30.KmvEstimates", spec := "kmvEstimates", inPlace := ["slices.overlaps[int]", "internal/abi.NoEscape"], unfollowed := true, recurses := true, apart := false }
def KmvEstimatesSaid : Prop := kmvEstimatesRow.holds Try.pinned (OpenSpec.ofChange kmvEstimatesSpec)

/-- ITS FALSE NEIGHBOUR: 'it returns false'. Refute it at one input. -/
def kmvEstimatesWrong : ChangeSpec := { name := "kmvEstimates", fn := fun _ => fun
  | [d1, d2] => { results := [.lit (.bool false)], args := [d1, d2] }
  | _ => none }
def KmvEstimatesWrongFalsely : Prop := kmvEstimatesRow.holds Try.pinned (OpenSpec.ofChange kmvEstimatesWrong)

/-- 'lookoutlaw30.KmvRoundTrip': WHATEVER THE INPUT: true; the input reads as it did. -/
def kmvRoundTripSpec : ChangeSpec := { name := "kmvRoundTrip", fn := fun _ => fun
  | [d1, d2] => { results := [.lit (.bool true)], args := [d1, d2] }
  | _ => none }
def kmvRoundTripRow : OpenClaim := { program := "ythblifjeecdhcaa", sum := "010f0a5f3ee4eadaf6e29c2d26d2edbf1ee356cb05e438e8d9bdeb5138bd13b9", func := "lookout/lookoutlaw30.KmvRoundTrip", spec := "kmvRoundTrip", inPlace := ["slices.overlaps[int]", "internal/abi.NoEscape"], unfollowed := true, recurses := true, apart := false }
def KmvRoundTripSaid : Prop := kmvRoundTripRow.holds Try.pinned (OpenSpec.ofChange kmvRoundTripSpec)

/-- ITS FALSE NEIGHBOUR: 'it returns false'. Refute it at one input. -/
def kmvRoundTripWrong : ChangeSpec := { name := "kmvRoundTrip", fn := fun _ => fun
  | [d1, d2] => { results := [.lit (.bool false)], args := [d1, d2] }
  | _ => none }
def KmvRoundTripWrongFalsely : Prop := kmvRoundTripRow.holds Try.pinned (OpenSpec.ofChange kmvRoundTripWrong)

/-- 'lookoutlaw30.KmvContents': WHATEVER THE INPUT: true; the input reads as it did. -/
def kmvContentsSpec : ChangeSpec := { name := "kmvContents", fn := fun _ => fun
  | [d1, d2] => { results := [.lit (.bool true)], args := [d1, d2] }
  | _ => none }
def kmvContentsRow : OpenClaim := { program := "ythblifjeecdhcaa", sum := "010f0a5f3ee4eadaf6e29c2d26d2edbf1ee356cb05e438e8d9bdeb5138bd13b9", func := "lookout/lookoutlaw30.KmvContents", spec := "kmvContents", inPlace := ["slices.overlaps[int]"], unfollowed := true, recurses := true, apart := false }
def KmvContentsSaid : Prop := kmvContentsRow.holds Try.pinned (OpenSpec.ofChange kmvContentsSpec)

/-- ITS FALSE NEIGHBOUR: 'it returns false'. Refute it at one input. -/
def kmvContentsWrong : ChangeSpec := { name := "kmvContents", fn := fun _ => fun
  | [d1, d2] => { results := [.lit (.bool false)], args := [d1, d2] }
  | _ => none }
def KmvContentsWrongFalsely : Prop := kmvContentsRow.holds Try.pinned (OpenSpec.ofChange kmvContentsWrong)

/- THE SECOND FORM. 'bulk': how many values and letters a reading holds, each counted each time it is reached (what is shared counts as often as it is met; a slice's spare places count too). A statement '..UptoSaid' is the law's where the arguments, and the package variables that the reading takes, are together of bulk at most 1048576: NARROWER than '..Said'. Prove '..Said' where nothing that the law and all that it calls make is longer than what came in: it says more and counts as full. Else prove '..UptoSaid'. A law counts once. -/
mutual
def uptoBulk {H : Type} : DataW H → Nat
  | .lit (.string bytes) => bytes.length + 1
  | .lit _ => 1
  | .nil => 1
  | .ptr d => uptoBulk d + 1
  | .slice elems spare => uptoBulkAll elems + uptoBulkAll spare + 1
  | .agg parts => uptoBulkAll parts + 1
  | .iface _ d => uptoBulk d + 1
  | .map entries => uptoBulkEntries entries + 1
  | .held _ => 1
def uptoBulkAll {H : Type} : List (DataW H) → Nat
  | [] => 0
  | d :: r => uptoBulk d + uptoBulkAll r
def uptoBulkEntries {H : Type} : List (Lit × DataW H) → Nat
  | [] => 0
  | x :: r => uptoBulkEntry x + uptoBulkEntries r
def uptoBulkEntry {H : Type} : Lit × DataW H → Nat
  | (.string bytes, d) => bytes.length + uptoBulk d + 1
  | (_, d) => uptoBulk d + 1
 end
def uptoSmall : (H : Type) → List (DataW H) → Bool := fun _ ds => decide (uptoBulkAll ds ≤ 1048576)
def OpenSpec.upto (s : _root_.Go.ChangeSpec) : _root_.Go.OpenSpec := { _root_.Go.OpenSpec.ofChange s with cond := some uptoSmall }

/-- 'lookoutlaw30.KmvAdds', WHERE WHAT IT READS IS OF BULK AT MOST 1048576: true; the input reads as it did. -/
def kmvAddsUptoRow : OpenClaim := { program := "ythblifjeecdhcaa", sum := "010f0a5f3ee4eadaf6e29c2d26d2edbf1ee356cb05e438e8d9bdeb5138bd13b9", func := "lookout/lookoutlaw30.KmvAdds", spec := "kmvAdds", inPlace := ["slices.overlaps[int]"], unfollowed := true, recurses := true, apart := false, narrowed := true }
def KmvAddsUptoSaid : Prop := kmvAddsUptoRow.holds Try.pinned (OpenSpec.upto kmvAddsSpec)

/-- 'lookoutlaw30.KmvRepeats', WHERE WHAT IT READS IS OF BULK AT MOST 1048576: true; the input reads as it did. -/
def kmvRepeatsUptoRow : OpenClaim := { program := "ythblifjeecdhcaa", sum := "010f0a5f3ee4eadaf6e29c2d26d2edbf1ee356cb05e438e8d9bdeb5138bd13b9", func := "lookout/lookoutlaw30.KmvRepeats", spec := "kmvRepeats", inPlace := ["slices.overlaps[int]"], unfollowed := true, recurses := true, apart := false, narrowed := true }
def KmvRepeatsUptoSaid : Prop := kmvRepeatsUptoRow.holds Try.pinned (OpenSpec.upto kmvRepeatsSpec)

/-- 'lookoutlaw30.KmvMerge', WHERE WHAT IT READS IS OF BULK AT MOST 1048576: true; the input reads as it did. -/
def kmvMergeUptoRow : OpenClaim := { program := "ythblifjeecdhcaa", sum := "010f0a5f3ee4eadaf6e29c2d26d2edbf1ee356cb05e438e8d9bdeb5138bd13b9", func := "lookout/lookoutlaw30.KmvMerge", spec := "kmvMerge", inPlace := ["slices.overlaps[int]"], unfollowed := true, recurses := true, apart := false, narrowed := true }
def KmvMergeUptoSaid : Prop := kmvMergeUptoRow.holds Try.pinned (OpenSpec.upto kmvMergeSpec)

/-- 'lookoutlaw30.KmvMonoid', WHERE WHAT IT READS IS OF BULK AT MOST 1048576: true; the input reads as it did. -/
def kmvMonoidUptoRow : OpenClaim := { program := "ythblifjeecdhcaa", sum := "010f0a5f3ee4eadaf6e29c2d26d2edbf1ee356cb05e438e8d9bdeb5138bd13b9", func := "lookout/lookoutlaw30.KmvMonoid", spec := "kmvMonoid", inPlace := ["slices.overlaps[int]"], unfollowed := true, recurses := true, apart := false, narrowed := true }
def KmvMonoidUptoSaid : Prop := kmvMonoidUptoRow.holds Try.pinned (OpenSpec.upto kmvMonoidSpec)

/-- 'lookoutlaw30.KmvUnions', WHERE WHAT IT READS IS OF BULK AT MOST 1048576: true; the input reads as it did. -/
def kmvUnionsUptoRow : OpenClaim := { program := "ythblifjeecdhcaa", sum := "010f0a5f3ee4eadaf6e29c2d26d2edbf1ee356cb05e438e8d9bdeb5138bd13b9", func := "lookout/lookoutlaw30.KmvUnions", spec := "kmvUnions", inPlace := ["slices.overlaps[int]"], unfollowed := true, recurses := true, apart := false, narrowed := true }
def KmvUnionsUptoSaid : Prop := kmvUnionsUptoRow.holds Try.pinned (OpenSpec.upto kmvUnionsSpec)

/-- 'lookoutlaw30.KmvEstimates', WHERE WHAT IT READS IS OF BULK AT MOST 1048576: true; the input reads as it did. -/
def kmvEstimatesUptoRow : OpenClaim := { program := "ythblifjeecdhcaa", sum := "010f0a5f3ee4eadaf6e29c2d26d2edbf1ee356cb05e438e8d9bdeb5138bd13b9", func := "lookout/lookoutlaw30.KmvEstimates", spec := "kmvEstimates", inPlace := ["slices.overlaps[int]", "internal/abi.NoEscape"], unfollowed := true, recurses := true, apart := false, narrowed := true }
def KmvEstimatesUptoSaid : Prop := kmvEstimatesUptoRow.holds Try.pinned (OpenSpec.upto kmvEstimatesSpec)

/-- 'lookoutlaw30.KmvRoundTrip', WHERE WHAT IT READS IS OF BULK AT MOST 1048576: true; the input reads as it did. -/
def kmvRoundTripUptoRow : OpenClaim := { program := "ythblifjeecdhcaa", sum := "010f0a5f3ee4eadaf6e29c2d26d2edbf1ee356cb05e438e8d9bdeb5138bd13b9", func := "lookout/lookoutlaw30.KmvRoundTrip", spec := "kmvRoundTrip", inPlace := ["slices.overlaps[int]", "internal/abi.NoEscape"], unfollowed := true, recurses := true, apart := false, narrowed := true }
def KmvRoundTripUptoSaid : Prop := kmvRoundTripUptoRow.holds Try.pinned (OpenSpec.upto kmvRoundTripSpec)

/-- 'lookoutlaw30.KmvContents', WHERE WHAT IT READS IS OF BULK AT MOST 1048576: true; the input reads as it did. -/
def kmvContentsUptoRow : OpenClaim := { program := "ythblifjeecdhcaa", sum := "010f0a5f3ee4eadaf6e29c2d26d2edbf1ee356cb05e438e8d9bdeb5138bd13b9", func := "lookout/lookoutlaw30.KmvContents", spec := "kmvContents", inPlace := ["slices.overlaps[int]"], unfollowed := true, recurses := true, apart := false, narrowed := true }
def KmvContentsUptoSaid : Prop := kmvContentsUptoRow.holds Try.pinned (OpenSpec.upto kmvContentsSpec)

end Rows
end Go.Proofs.Ythblifjeecdhcaa

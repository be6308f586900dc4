/-
  No cell of these rows narrows 'for every input' (looked for: loops, veiled, ifaces, maps, wideKeys, modest, calm, conditions, laid).
  DERIVED. THE GIVEN ROWS OF THIS SEAT. 9 by the template 'for every input the law returns true; each argument reads behind the call as it read before'; 0 by the template 'total and deterministic' (their statements: YtclgfbhkmhhenaaTotals.lean).
  GIVEN WITH THE SEED: the statements are not yours to turn. If you find one false, say at which input.
  Laid BY PROGRAM, IN A SANDBOX (cutbox-rows.mjs): the forced cells as the released guide's own fill.sh prints them over the translation 592370835e2f1eb7… (all of the seat's roots in one cut). By AI agents, Wed Nov 11 2026. No macro, syntax, notation, axiom, sorry.
-/
import Derived.Test.YtclgfbhkmhhenaaChecked
import GoSem.Claim
import GoSem.ClaimJoined
import GoSem.ClaimMapViews
import Derived.JoinedTies
import Derived.KernelRfl
namespace Go.Proofs.Ytclgfbhkmhhenaa
/- THE CELL 'sum', in the pinned program and in every row, IS THE sha256 OF THE DUMP (.gsa) THAT YtclgfbhkmhhenaaProg.lean LOADS. Nothing in Lean hashes anything: it is a label: what it is worth is what the hold of that sum in a sandbox is worth. -/
noncomputable def Try.pinned : Pinned := { name := "ytclgfbhkmhhenaa", sum := "592370835e2f1eb724dc8311de3f6de0314420919dd0c9c203ef0adc1ed32282", checked := Try.checked }
namespace Rows
def none {H : Type} : Left H := { results := [], args := [] }

/-- 'lookoutlaw12.LoghistBuckets': WHATEVER THE INPUT: true; the input reads as it did. -/
def loghistBucketsSpec : ChangeSpec := { name := "loghistBuckets", fn := fun _ => fun
  | [d1, d2, d3] => { results := [.lit (.bool true)], args := [d1, d2, d3] }
  | _ => none }
def loghistBucketsRow : OpenClaim := { program := "ytclgfbhkmhhenaa", sum := "592370835e2f1eb724dc8311de3f6de0314420919dd0c9c203ef0adc1ed32282", func := "lookout/lookoutlaw12.LoghistBuckets", spec := "loghistBuckets", unfollowed := true, recurses := true, apart := false }
def LoghistBucketsSaid : Prop := loghistBucketsRow.holds Try.pinned (OpenSpec.ofChange loghistBucketsSpec)

/-- ITS FALSE NEIGHBOUR: 'it returns false'. Refute it at one input. -/
def loghistBucketsWrong : ChangeSpec := { name := "loghistBuckets", fn := fun _ => fun
  | [d1, d2, d3] => { results := [.lit (.bool false)], args := [d1, d2, d3] }
  | _ => none }
def LoghistBucketsWrongFalsely : Prop := loghistBucketsRow.holds Try.pinned (OpenSpec.ofChange loghistBucketsWrong)

/-- 'lookoutlaw12.LoghistWidths': WHATEVER THE INPUT: true; the input reads as it did. -/
def loghistWidthsSpec : ChangeSpec := { name := "loghistWidths", fn := fun _ => fun
  | [d1, d2, d3] => { results := [.lit (.bool true)], args := [d1, d2, d3] }
  | _ => none }
def loghistWidthsRow : OpenClaim := { program := "ytclgfbhkmhhenaa", sum := "592370835e2f1eb724dc8311de3f6de0314420919dd0c9c203ef0adc1ed32282", func := "lookout/lookoutlaw12.LoghistWidths", spec := "loghistWidths", unfollowed := true, recurses := true, apart := false }
def LoghistWidthsSaid : Prop := loghistWidthsRow.holds Try.pinned (OpenSpec.ofChange loghistWidthsSpec)

/-- ITS FALSE NEIGHBOUR: 'it returns false'. Refute it at one input. -/
def loghistWidthsWrong : ChangeSpec := { name := "loghistWidths", fn := fun _ => fun
  | [d1, d2, d3] => { results := [.lit (.bool false)], args := [d1, d2, d3] }
  | _ => none }
def LoghistWidthsWrongFalsely : Prop := loghistWidthsRow.holds Try.pinned (OpenSpec.ofChange loghistWidthsWrong)

/-- 'lookoutlaw12.LoghistMerge': WHATEVER THE INPUT: true; the input reads as it did. -/
def loghistMergeSpec : ChangeSpec := { name := "loghistMerge", fn := fun _ => fun
  | [d1, d2] => { results := [.lit (.bool true)], args := [d1, d2] }
  | _ => none }
def loghistMergeRow : OpenClaim := { program := "ytclgfbhkmhhenaa", sum := "592370835e2f1eb724dc8311de3f6de0314420919dd0c9c203ef0adc1ed32282", func := "lookout/lookoutlaw12.LoghistMerge", spec := "loghistMerge", unfollowed := true, recurses := true, apart := false }
def LoghistMergeSaid : Prop := loghistMergeRow.holds Try.pinned (OpenSpec.ofChange loghistMergeSpec)

/-- ITS FALSE NEIGHBOUR: 'it returns false'. Refute it at one input. -/
def loghistMergeWrong : ChangeSpec := { name := "loghistMerge", fn := fun _ => fun
  | [d1, d2] => { results := [.lit (.bool false)], args := [d1, d2] }
  | _ => none }
def LoghistMergeWrongFalsely : Prop := loghistMergeRow.holds Try.pinned (OpenSpec.ofChange loghistMergeWrong)

/-- 'lookoutlaw12.LoghistAdd': WHATEVER THE INPUT: true; the input reads as it did. -/
def loghistAddSpec : ChangeSpec := { name := "loghistAdd", fn := fun _ => fun
  | [d1, d2, d3, d4] => { results := [.lit (.bool true)], args := [d1, d2, d3, d4] }
  | _ => none }
def loghistAddRow : OpenClaim := { program := "ytclgfbhkmhhenaa", sum := "592370835e2f1eb724dc8311de3f6de0314420919dd0c9c203ef0adc1ed32282", func := "lookout/lookoutlaw12.LoghistAdd", spec := "loghistAdd", unfollowed := true, recurses := true, apart := false }
def LoghistAddSaid : Prop := loghistAddRow.holds Try.pinned (OpenSpec.ofChange loghistAddSpec)

/-- ITS FALSE NEIGHBOUR: 'it returns false'. Refute it at one input. -/
def loghistAddWrong : ChangeSpec := { name := "loghistAdd", fn := fun _ => fun
  | [d1, d2, d3, d4] => { results := [.lit (.bool false)], args := [d1, d2, d3, d4] }
  | _ => none }
def LoghistAddWrongFalsely : Prop := loghistAddRow.holds Try.pinned (OpenSpec.ofChange loghistAddWrong)

/-- 'lookoutlaw12.LoghistQuantile': WHATEVER THE INPUT: true; the input reads as it did. -/
def loghistQuantileSpec : ChangeSpec := { name := "loghistQuantile", fn := fun _ => fun
  | [d1, d2, d3] => { results := [.lit (.bool true)], args := [d1, d2, d3] }
  | _ => none }
def loghistQuantileRow : OpenClaim := { program := "ytclgfbhkmhhenaa", sum := "592370835e2f1eb724dc8311de3f6de0314420919dd0c9c203ef0adc1ed32282", func := "lookout/lookoutlaw12.LoghistQuantile", spec := "loghistQuantile", unfollowed := true, recurses := true, apart := false }
def LoghistQuantileSaid : Prop := loghistQuantileRow.holds Try.pinned (OpenSpec.ofChange loghistQuantileSpec)

/-- ITS FALSE NEIGHBOUR: 'it returns false'. Refute it at one input. -/
def loghistQuantileWrong : ChangeSpec := { name := "loghistQuantile", fn := fun _ => fun
  | [d1, d2, d3] => { results := [.lit (.bool false)], args := [d1, d2, d3] }
  | _ => none }
def LoghistQuantileWrongFalsely : Prop := loghistQuantileRow.holds Try.pinned (OpenSpec.ofChange loghistQuantileWrong)

/-- 'lookoutlaw12.LoghistAscends': WHATEVER THE INPUT: true; the input reads as it did. -/
def loghistAscendsSpec : ChangeSpec := { name := "loghistAscends", fn := fun _ => fun
  | [d1, d2, d3] => { results := [.lit (.bool true)], args := [d1, d2, d3] }
  | _ => none }
def loghistAscendsRow : OpenClaim := { program := "ytclgfbhkmhhenaa", sum := "592370835e2f1eb724dc8311de3f6de0314420919dd0c9c203ef0adc1ed32282", func := "lookout/lookoutlaw12.LoghistAscends", spec := "loghistAscends", unfollowed := true, recurses := true, apart := false }
def LoghistAscendsSaid : Prop := loghistAscendsRow.holds Try.pinned (OpenSpec.ofChange loghistAscendsSpec)

/-- ITS FALSE NEIGHBOUR: 'it returns false'. Refute it at one input. -/
def loghistAscendsWrong : ChangeSpec := { name := "loghistAscends", fn := fun _ => fun
  | [d1, d2, d3] => { results := [.lit (.bool false)], args := [d1, d2, d3] }
  | _ => none }
def LoghistAscendsWrongFalsely : Prop := loghistAscendsRow.holds Try.pinned (OpenSpec.ofChange loghistAscendsWrong)

/-- 'lookoutlaw12.LoghistOrders': WHATEVER THE INPUT: true; the input reads as it did. -/
def loghistOrdersSpec : ChangeSpec := { name := "loghistOrders", fn := fun _ => fun
  | [d1, d2, d3, d4, d5] => { results := [.lit (.bool true)], args := [d1, d2, d3, d4, d5] }
  | _ => none }
def loghistOrdersRow : OpenClaim := { program := "ytclgfbhkmhhenaa", sum := "592370835e2f1eb724dc8311de3f6de0314420919dd0c9c203ef0adc1ed32282", func := "lookout/lookoutlaw12.LoghistOrders", spec := "loghistOrders", unfollowed := true, recurses := true, apart := false }
def LoghistOrdersSaid : Prop := loghistOrdersRow.holds Try.pinned (OpenSpec.ofChange loghistOrdersSpec)

/-- ITS FALSE NEIGHBOUR: 'it returns false'. Refute it at one input. -/
def loghistOrdersWrong : ChangeSpec := { name := "loghistOrders", fn := fun _ => fun
  | [d1, d2, d3, d4, d5] => { results := [.lit (.bool false)], args := [d1, d2, d3, d4, d5] }
  | _ => none }
def LoghistOrdersWrongFalsely : Prop := loghistOrdersRow.holds Try.pinned (OpenSpec.ofChange loghistOrdersWrong)

/-- 'lookoutlaw12.LoghistReduced': WHATEVER THE INPUT: true; the input reads as it did. -/
def loghistReducedSpec : ChangeSpec := { name := "loghistReduced", fn := fun _ => fun
  | [d1, d2, d3, d4] => { results := [.lit (.bool true)], args := [d1, d2, d3, d4] }
  | _ => none }
def loghistReducedRow : OpenClaim := { program := "ytclgfbhkmhhenaa", sum := "592370835e2f1eb724dc8311de3f6de0314420919dd0c9c203ef0adc1ed32282", func := "lookout/lookoutlaw12.LoghistReduced", spec := "loghistReduced", unfollowed := true, recurses := true, apart := false }
def LoghistReducedSaid : Prop := loghistReducedRow.holds Try.pinned (OpenSpec.ofChange loghistReducedSpec)

/-- ITS FALSE NEIGHBOUR: 'it returns false'. Refute it at one input. -/
def loghistReducedWrong : ChangeSpec := { name := "loghistReduced", fn := fun _ => fun
  | [d1, d2, d3, d4] => { results := [.lit (.bool false)], args := [d1, d2, d3, d4] }
  | _ => none }
def LoghistReducedWrongFalsely : Prop := loghistReducedRow.holds Try.pinned (OpenSpec.ofChange loghistReducedWrong)

/-- 'lookoutlaw12.LoghistBounds': WHATEVER THE INPUT: true; the input reads as it did. -/
def loghistBoundsSpec : ChangeSpec := { name := "loghistBounds", fn := fun _ => fun
  | [d1, d2, d3, d4] => { results := [.lit (.bool true)], args := [d1, d2, d3, d4] }
  | _ => none }
def loghistBoundsRow : OpenClaim := { program := "ytclgfbhkmhhenaa", sum := "592370835e2f1eb724dc8311de3f6de0314420919dd0c9c203ef0adc1ed32282", func := "lookout/lookoutlaw12.LoghistBounds", spec := "loghistBounds", unfollowed := true, recurses := true, apart := false }
def LoghistBoundsSaid : Prop := loghistBoundsRow.holds Try.pinned (OpenSpec.ofChange loghistBoundsSpec)

/-- ITS FALSE NEIGHBOUR: 'it returns false'. Refute it at one input. -/
def loghistBoundsWrong : ChangeSpec := { name := "loghistBounds", fn := fun _ => fun
  | [d1, d2, d3, d4] => { results := [.lit (.bool false)], args := [d1, d2, d3, d4] }
  | _ => none }
def LoghistBoundsWrongFalsely : Prop := loghistBoundsRow.holds Try.pinned (OpenSpec.ofChange loghistBoundsWrong)

/- THE SECOND FORM. 'bulk': how many values and letters a reading holds, each counted each time it is reached (what is shared counts as often as it is met; a slice's spare places count too). A statement '..UptoSaid' is the law's where the arguments, and the package variables that the reading takes, are together of bulk at most 1048576: NARROWER than '..Said'. Prove '..Said' where nothing that the law and all that it calls make is longer than what came in: it says more and counts as full. Else prove '..UptoSaid'. A law counts once. -/
mutual
def uptoBulk {H : Type} : DataW H → Nat
  | .lit (.string bytes) => bytes.length + 1
  | .lit _ => 1
  | .nil => 1
  | .ptr d => uptoBulk d + 1
  | .slice elems spare => uptoBulkAll elems + uptoBulkAll spare + 1
  | .agg parts => uptoBulkAll parts + 1
  | .iface _ d => uptoBulk d + 1
  | .map entries => uptoBulkEntries entries + 1
  | .held _ => 1
def uptoBulkAll {H : Type} : List (DataW H) → Nat
  | [] => 0
  | d :: r => uptoBulk d + uptoBulkAll r
def uptoBulkEntries {H : Type} : List (Lit × DataW H) → Nat
  | [] => 0
  | x :: r => uptoBulkEntry x + uptoBulkEntries r
def uptoBulkEntry {H : Type} : Lit × DataW H → Nat
  | (.string bytes, d) => bytes.length + uptoBulk d + 1
  | (_, d) => uptoBulk d + 1
 end
def uptoSmall : (H : Type) → List (DataW H) → Bool := fun _ ds => decide (uptoBulkAll ds ≤ 1048576)
def OpenSpec.upto (s : _root_.Go.ChangeSpec) : _root_.Go.OpenSpec := { _root_.Go.OpenSpec.ofChange s with cond := some uptoSmall }

/-- 'lookoutlaw12.LoghistBuckets', WHERE WHAT IT READS IS OF BULK AT MOST 1048576: true; the input reads as it did. -/
def loghistBucketsUptoRow : OpenClaim := { program := "ytclgfbhkmhhenaa", sum := "592370835e2f1eb724dc8311de3f6de0314420919dd0c9c203ef0adc1ed32282", func := "lookout/lookoutlaw12.LoghistBuckets", spec := "loghistBuckets", unfollowed := true, recurses := true, apart := false, narrowed := true }
def LoghistBucketsUptoSaid : Prop := loghistBucketsUptoRow.holds Try.pinned (OpenSpec.upto loghistBucketsSpec)

/-- 'lookoutlaw12.LoghistWidths', WHERE WHAT IT READS IS OF BULK AT MOST 1048576: true; the input reads as it did. -/
def loghistWidthsUptoRow : OpenClaim := { program := "ytclgfbhkmhhenaa", sum := "592370835e2f1eb724dc8311de3f6de0314420919dd0c9c203ef0adc1ed32282", func := "lookout/lookoutlaw12.LoghistWidths", spec := "loghistWidths", unfollowed := true, recurses := true, apart := false, narrowed := true }
def LoghistWidthsUptoSaid : Prop := loghistWidthsUptoRow.holds Try.pinned (OpenSpec.upto loghistWidthsSpec)

/-- 'lookoutlaw12.LoghistMerge', WHERE WHAT IT READS IS OF BULK AT MOST 1048576: true; the input reads as it did. -/
def loghistMergeUptoRow : OpenClaim := { program := "ytclgfbhkmhhenaa", sum := "592370835e2f1eb724dc8311de3f6de0314420919dd0c9c203ef0adc1ed32282", func := "lookout/lookoutlaw12.LoghistMerge", spec := "loghistMerge", unfollowed := true, recurses := true, apart := false, narrowed := true }
def LoghistMergeUptoSaid : Prop := loghistMergeUptoRow.holds Try.pinned (OpenSpec.upto loghistMergeSpec)

/-- 'lookoutlaw12.LoghistAdd', WHERE WHAT IT READS IS OF BULK AT MOST 1048576: true; the input reads as it did. -/
def loghistAddUptoRow : OpenClaim := { program := "ytclgfbhkmhhenaa", sum := "592370835e2f1eb724dc8311de3f6de0314420919dd0c9c203ef0adc1ed32282", func := "lookout/lookoutlaw12.LoghistAdd", spec := "loghistAdd", unfollowed := true, recurses := true, apart := false, narrowed := true }
def LoghistAddUptoSaid : Prop := loghistAddUptoRow.holds Try.pinned (OpenSpec.upto loghistAddSpec)

/-- 'lookoutlaw12.LoghistQuantile', WHERE WHAT IT READS IS OF BULK AT MOST 1048576: true; the input reads as it did. -/
def loghistQuantileUptoRow : OpenClaim := { program := "ytclgfbhkmhhenaa", sum := "592370835e2f1eb724dc8311de3f6de0314420919dd0c9c203ef0adc1ed32282", func := "lookout/lookoutlaw12.LoghistQuantile", spec := "loghistQuantile", unfollowed := true, recurses := true, apart := false, narrowed := true }
def LoghistQuantileUptoSaid : Prop := loghistQuantileUptoRow.holds Try.pinned (OpenSpec.upto loghistQuantileSpec)

/-- 'lookoutlaw12.LoghistAscends', WHERE WHAT IT READS IS OF BULK AT MOST 1048576: true; the input reads as it did. -/
def loghistAscendsUptoRow : OpenClaim := { program := "ytclgfbhkmhhenaa", sum := "592370835e2f1eb724dc8311de3f6de0314420919dd0c9c203ef0adc1ed32282", func := "lookout/lookoutlaw12.LoghistAscends", spec := "loghistAscends", unfollowed := true, recurses := true, apart := false, narrowed := true }
def LoghistAscendsUptoSaid : Prop := loghistAscendsUptoRow.holds Try.pinned (OpenSpec.upto loghistAscendsSpec)

/-- 'lookoutlaw12.LoghistOrders', WHERE WHAT IT READS IS OF BULK AT MOST 1048576: true; the input reads as it did. -/
def loghistOrdersUptoRow : OpenClaim := { program := "ytclgfbhkmhhenaa", sum := "592370835e2f1eb724dc8311de3f6de0314420919dd0c9c203ef0adc1ed32282", func := "lookout/lookoutlaw12.LoghistOrders", spec := "loghistOrders", unfollowed := true, recurses := true, apart := false, narrowed := true }
def LoghistOrdersUptoSaid : Prop := loghistOrdersUptoRow.holds Try.pinned (OpenSpec.upto loghistOrdersSpec)

/-- 'lookoutlaw12.LoghistReduced', WHERE WHAT IT READS IS OF BULK AT MOST 1048576: true; the input reads as it did. -/
def loghistReducedUptoRow : OpenClaim := { program := "ytclgfbhkmhhenaa", sum := "592370835e2f1eb724dc8311de3f6de0314420919dd0c9c203ef0adc1ed32282", func := "lookout/lookoutlaw12.LoghistReduced", spec := "loghistReduced", unfollowed := true, recurses := true, apart := false, narrowed := true }
def LoghistReducedUptoSaid : Prop := loghistReducedUptoRow.holds Try.pinned (OpenSpec.upto loghistReducedSpec)

/-- 'lookoutlaw12.LoghistBounds', WHERE WHAT IT READS IS OF BULK AT MOST 1048576: true; the input reads as it did. -/
def loghistBoundsUptoRow : OpenClaim := { program := "ytclgfbhkmhhenaa", sum := "592370835e2f1eb724dc8311de3f6de0314420919dd0c9c203ef0adc1ed32282", func := "lookout/lookoutlaw12.LoghistBounds", spec := "loghistBounds", unfollowed := true, recurses := true, apart := false, narrowed := true }
def LoghistBoundsUptoSaid : Prop := loghistBoundsUptoRow.holds Try.pinned (OpenSpec.upto loghistBoundsSpec)

end Rows
end Go.Proofs.Ytclgfbhkmhhenaa

/-
  No cell of these rows narrows 'for every input' (looked for: loops, veiled, ifaces, maps, wideKeys, modest, calm, conditions, laid).
  DERIVED. THE GIVEN ROWS OF THIS SEAT. 9 by the template 'for every input the law returns true; each argument reads behind the call as it read before'; 0 by the template 'total and deterministic' (their statements: YtdmdhpnlalekfaaTotals.lean).
  GIVEN WITH THE SEED: the statements are not yours to turn. If you find one false, say at which input.
  Laid BY PROGRAM, IN A SANDBOX (cutbox-rows.mjs): the forced cells as the released guide's own fill.sh prints them over the translation 198dcdfc572c3bb7… (all of the seat's roots in one cut). By AI agents, Wed Nov 11 2026. No macro, syntax, notation, axiom, sorry.
-/
import Derived.Test.YtdmdhpnlalekfaaChecked
import GoSem.Claim
import GoSem.ClaimJoined
import GoSem.ClaimMapViews
import Derived.JoinedTies
import Derived.KernelRfl
namespace Go.Proofs.Ytdmdhpnlalekfaa
/- THE CELL 'sum', in the pinned program and in every row, IS THE sha256 OF THE DUMP (.gsa) THAT YtdmdhpnlalekfaaProg.lean LOADS. Nothing in Lean hashes anything: it is a label: what it is worth is what the hold of that sum in a sandbox is worth. -/
noncomputable def Try.pinned : Pinned := { name := "ytdmdhpnlalekfaa", sum := "198dcdfc572c3bb7153119113bd8e1599a0d0a2ee2a1f19ed64460bbebdf624a", checked := Try.checked }
namespace Rows
def none {H : Type} : Left H := { results := [], args := [] }

/-- 'lookoutlaw08.PostingsDecode': WHATEVER THE INPUT: true; the input reads as it did. -/
def postingsDecodeSpec : ChangeSpec := { name := "postingsDecode", fn := fun _ => fun
  | [d] => { results := [.lit (.bool true)], args := [d] }
  | _ => none }
def postingsDecodeRow : OpenClaim := { program := "ytdmdhpnlalekfaa", sum := "198dcdfc572c3bb7153119113bd8e1599a0d0a2ee2a1f19ed64460bbebdf624a", func := "lookout/lookoutlaw08.PostingsDecode", spec := "postingsDecode", inPlace := ["internal/abi.NoEscape"], unfollowed := true, recurses := true, apart := false }
def PostingsDecodeSaid : Prop := postingsDecodeRow.holds Try.pinned (OpenSpec.ofChange postingsDecodeSpec)

/-- ITS FALSE NEIGHBOUR: 'it returns false'. Refute it at one input. -/
def postingsDecodeWrong : ChangeSpec := { name := "postingsDecode", fn := fun _ => fun
  | [d] => { results := [.lit (.bool false)], args := [d] }
  | _ => none }
def PostingsDecodeWrongFalsely : Prop := postingsDecodeRow.holds Try.pinned (OpenSpec.ofChange postingsDecodeWrong)

/-- 'lookoutlaw08.PostingsSets': WHATEVER THE INPUT: true; the input reads as it did. -/
def postingsSetsSpec : ChangeSpec := { name := "postingsSets", fn := fun _ => fun
  | [d1, d2, d3] => { results := [.lit (.bool true)], args := [d1, d2, d3] }
  | _ => none }
def postingsSetsRow : OpenClaim := { program := "ytdmdhpnlalekfaa", sum := "198dcdfc572c3bb7153119113bd8e1599a0d0a2ee2a1f19ed64460bbebdf624a", func := "lookout/lookoutlaw08.PostingsSets", spec := "postingsSets", inPlace := ["internal/abi.NoEscape"], unfollowed := true, recurses := true, apart := false }
def PostingsSetsSaid : Prop := postingsSetsRow.holds Try.pinned (OpenSpec.ofChange postingsSetsSpec)

/-- ITS FALSE NEIGHBOUR: 'it returns false'. Refute it at one input. -/
def postingsSetsWrong : ChangeSpec := { name := "postingsSets", fn := fun _ => fun
  | [d1, d2, d3] => { results := [.lit (.bool false)], args := [d1, d2, d3] }
  | _ => none }
def PostingsSetsWrongFalsely : Prop := postingsSetsRow.holds Try.pinned (OpenSpec.ofChange postingsSetsWrong)

/-- 'lookoutlaw08.PostingsEncode': WHATEVER THE INPUT: true; the input reads as it did. -/
def postingsEncodeSpec : ChangeSpec := { name := "postingsEncode", fn := fun _ => fun
  | [d] => { results := [.lit (.bool true)], args := [d] }
  | _ => none }
def postingsEncodeRow : OpenClaim := { program := "ytdmdhpnlalekfaa", sum := "198dcdfc572c3bb7153119113bd8e1599a0d0a2ee2a1f19ed64460bbebdf624a", func := "lookout/lookoutlaw08.PostingsEncode", spec := "postingsEncode", inPlace := ["internal/abi.NoEscape"], unfollowed := true, recurses := true, apart := false }
def PostingsEncodeSaid : Prop := postingsEncodeRow.holds Try.pinned (OpenSpec.ofChange postingsEncodeSpec)

/-- ITS FALSE NEIGHBOUR: 'it returns false'. Refute it at one input. -/
def postingsEncodeWrong : ChangeSpec := { name := "postingsEncode", fn := fun _ => fun
  | [d] => { results := [.lit (.bool false)], args := [d] }
  | _ => none }
def PostingsEncodeWrongFalsely : Prop := postingsEncodeRow.holds Try.pinned (OpenSpec.ofChange postingsEncodeWrong)

/-- 'lookoutlaw08.PostingsAlgebra': WHATEVER THE INPUT: true; the input reads as it did. -/
def postingsAlgebraSpec : ChangeSpec := { name := "postingsAlgebra", fn := fun _ => fun
  | [d1, d2, d3] => { results := [.lit (.bool true)], args := [d1, d2, d3] }
  | _ => none }
def postingsAlgebraRow : OpenClaim := { program := "ytdmdhpnlalekfaa", sum := "198dcdfc572c3bb7153119113bd8e1599a0d0a2ee2a1f19ed64460bbebdf624a", func := "lookout/lookoutlaw08.PostingsAlgebra", spec := "postingsAlgebra", inPlace := ["internal/abi.NoEscape"], unfollowed := true, recurses := true, apart := false }
def PostingsAlgebraSaid : Prop := postingsAlgebraRow.holds Try.pinned (OpenSpec.ofChange postingsAlgebraSpec)

/-- ITS FALSE NEIGHBOUR: 'it returns false'. Refute it at one input. -/
def postingsAlgebraWrong : ChangeSpec := { name := "postingsAlgebra", fn := fun _ => fun
  | [d1, d2, d3] => { results := [.lit (.bool false)], args := [d1, d2, d3] }
  | _ => none }
def PostingsAlgebraWrongFalsely : Prop := postingsAlgebraRow.holds Try.pinned (OpenSpec.ofChange postingsAlgebraWrong)

/-- 'lookoutlaw08.PostingsSeek': WHATEVER THE INPUT: true; the input reads as it did. -/
def postingsSeekSpec : ChangeSpec := { name := "postingsSeek", fn := fun _ => fun
  | [d1, d2] => { results := [.lit (.bool true)], args := [d1, d2] }
  | _ => none }
def postingsSeekRow : OpenClaim := { program := "ytdmdhpnlalekfaa", sum := "198dcdfc572c3bb7153119113bd8e1599a0d0a2ee2a1f19ed64460bbebdf624a", func := "lookout/lookoutlaw08.PostingsSeek", spec := "postingsSeek", inPlace := ["internal/abi.NoEscape"], unfollowed := true, recurses := true, apart := false }
def PostingsSeekSaid : Prop := postingsSeekRow.holds Try.pinned (OpenSpec.ofChange postingsSeekSpec)

/-- ITS FALSE NEIGHBOUR: 'it returns false'. Refute it at one input. -/
def postingsSeekWrong : ChangeSpec := { name := "postingsSeek", fn := fun _ => fun
  | [d1, d2] => { results := [.lit (.bool false)], args := [d1, d2] }
  | _ => none }
def PostingsSeekWrongFalsely : Prop := postingsSeekRow.holds Try.pinned (OpenSpec.ofChange postingsSeekWrong)

/-- 'lookoutlaw08.PostingsCanonical': WHATEVER THE INPUT: true; the input reads as it did. -/
def postingsCanonicalSpec : ChangeSpec := { name := "postingsCanonical", fn := fun _ => fun
  | [d1, d2] => { results := [.lit (.bool true)], args := [d1, d2] }
  | _ => none }
def postingsCanonicalRow : OpenClaim := { program := "ytdmdhpnlalekfaa", sum := "198dcdfc572c3bb7153119113bd8e1599a0d0a2ee2a1f19ed64460bbebdf624a", func := "lookout/lookoutlaw08.PostingsCanonical", spec := "postingsCanonical", inPlace := ["internal/abi.NoEscape"], unfollowed := true, recurses := true, apart := false }
def PostingsCanonicalSaid : Prop := postingsCanonicalRow.holds Try.pinned (OpenSpec.ofChange postingsCanonicalSpec)

/-- ITS FALSE NEIGHBOUR: 'it returns false'. Refute it at one input. -/
def postingsCanonicalWrong : ChangeSpec := { name := "postingsCanonical", fn := fun _ => fun
  | [d1, d2] => { results := [.lit (.bool false)], args := [d1, d2] }
  | _ => none }
def PostingsCanonicalWrongFalsely : Prop := postingsCanonicalRow.holds Try.pinned (OpenSpec.ofChange postingsCanonicalWrong)

/-- 'lookoutlaw08.PostingsMembers': WHATEVER THE INPUT: true; the input reads as it did. -/
def postingsMembersSpec : ChangeSpec := { name := "postingsMembers", fn := fun _ => fun
  | [d1, d2, d3] => { results := [.lit (.bool true)], args := [d1, d2, d3] }
  | _ => none }
def postingsMembersRow : OpenClaim := { program := "ytdmdhpnlalekfaa", sum := "198dcdfc572c3bb7153119113bd8e1599a0d0a2ee2a1f19ed64460bbebdf624a", func := "lookout/lookoutlaw08.PostingsMembers", spec := "postingsMembers", inPlace := ["internal/abi.NoEscape"], unfollowed := true, recurses := true, apart := false }
def PostingsMembersSaid : Prop := postingsMembersRow.holds Try.pinned (OpenSpec.ofChange postingsMembersSpec)

/-- ITS FALSE NEIGHBOUR: 'it returns false'. Refute it at one input. -/
def postingsMembersWrong : ChangeSpec := { name := "postingsMembers", fn := fun _ => fun
  | [d1, d2, d3] => { results := [.lit (.bool false)], args := [d1, d2, d3] }
  | _ => none }
def PostingsMembersWrongFalsely : Prop := postingsMembersRow.holds Try.pinned (OpenSpec.ofChange postingsMembersWrong)

/-- 'lookoutlaw08.PostingsMerge': WHATEVER THE INPUT: true; the input reads as it did. -/
def postingsMergeSpec : ChangeSpec := { name := "postingsMerge", fn := fun _ => fun
  | [d] => { results := [.lit (.bool true)], args := [d] }
  | _ => none }
def postingsMergeRow : OpenClaim := { program := "ytdmdhpnlalekfaa", sum := "198dcdfc572c3bb7153119113bd8e1599a0d0a2ee2a1f19ed64460bbebdf624a", func := "lookout/lookoutlaw08.PostingsMerge", spec := "postingsMerge", inPlace := ["internal/abi.NoEscape"], unfollowed := true, recurses := true, apart := false }
def PostingsMergeSaid : Prop := postingsMergeRow.holds Try.pinned (OpenSpec.ofChange postingsMergeSpec)

/-- ITS FALSE NEIGHBOUR: 'it returns false'. Refute it at one input. -/
def postingsMergeWrong : ChangeSpec := { name := "postingsMerge", fn := fun _ => fun
  | [d] => { results := [.lit (.bool false)], args := [d] }
  | _ => none }
def PostingsMergeWrongFalsely : Prop := postingsMergeRow.holds Try.pinned (OpenSpec.ofChange postingsMergeWrong)

/-- 'lookoutlaw08.PostingsOrders': WHATEVER THE INPUT: true; the input reads as it did. -/
def postingsOrdersSpec : ChangeSpec := { name := "postingsOrders", fn := fun _ => fun
  | [d] => { results := [.lit (.bool true)], args := [d] }
  | _ => none }
def postingsOrdersRow : OpenClaim := { program := "ytdmdhpnlalekfaa", sum := "198dcdfc572c3bb7153119113bd8e1599a0d0a2ee2a1f19ed64460bbebdf624a", func := "lookout/lookoutlaw08.PostingsOrders", spec := "postingsOrders", inPlace := ["internal/abi.NoEscape"], unfollowed := true, recurses := true, apart := false }
def PostingsOrdersSaid : Prop := postingsOrdersRow.holds Try.pinned (OpenSpec.ofChange postingsOrdersSpec)

/-- ITS FALSE NEIGHBOUR: 'it returns false'. Refute it at one input. -/
def postingsOrdersWrong : ChangeSpec := { name := "postingsOrders", fn := fun _ => fun
  | [d] => { results := [.lit (.bool false)], args := [d] }
  | _ => none }
def PostingsOrdersWrongFalsely : Prop := postingsOrdersRow.holds Try.pinned (OpenSpec.ofChange postingsOrdersWrong)

/- THE SECOND FORM. 'bulk': how many values and letters a reading holds, each counted each time it is reached (what is shared counts as often as it is met; a slice's spare places count too). A statement '..UptoSaid' is the law's where the arguments, and the package variables that the reading takes, are together of bulk at most 1048576: NARROWER than '..Said'. Prove '..Said' where nothing that the law and all that it calls make is longer than what came in: it says more and counts as full. Else prove '..UptoSaid'. A law counts once. -/
mutual
def uptoBulk {H : Type} : DataW H → Nat
  | .lit (.string bytes) => bytes.length + 1
  | .lit _ => 1
  | .nil => 1
  | .ptr d => uptoBulk d + 1
  | .slice elems spare => uptoBulkAll elems + uptoBulkAll spare + 1
  | .agg parts => uptoBulkAll parts + 1
  | .iface _ d => uptoBulk d + 1
  | .map entries => uptoBulkEntries entries + 1
  | .held _ => 1
def uptoBulkAll {H : Type} : List (DataW H) → Nat
  | [] => 0
  | d :: r => uptoBulk d + uptoBulkAll r
def uptoBulkEntries {H : Type} : List (Lit × DataW H) → Nat
  | [] => 0
  | x :: r => uptoBulkEntry x + uptoBulkEntries r
def uptoBulkEntry {H : Type} : Lit × DataW H → Nat
  | (.string bytes, d) => bytes.length + uptoBulk d + 1
  | (_, d) => uptoBulk d + 1
 end
def uptoSmall : (H : Type) → List (DataW H) → Bool := fun _ ds => decide (uptoBulkAll ds ≤ 1048576)
def OpenSpec.upto (s : _root_.Go.ChangeSpec) : _root_.Go.OpenSpec := { _root_.Go.OpenSpec.ofChange s with cond := some uptoSmall }

/-- 'lookoutlaw08.PostingsDecode', WHERE WHAT IT READS IS OF BULK AT MOST 1048576: true; the input reads as it did. -/
def postingsDecodeUptoRow : OpenClaim := { program := "ytdmdhpnlalekfaa", sum := "198dcdfc572c3bb7153119113bd8e1599a0d0a2ee2a1f19ed64460bbebdf624a", func := "lookout/lookoutlaw08.PostingsDecode", spec := "postingsDecode", inPlace := ["internal/abi.NoEscape"], unfollowed := true, recurses := true, apart := false, narrowed := true }
def PostingsDecodeUptoSaid : Prop := postingsDecodeUptoRow.holds Try.pinned (OpenSpec.upto postingsDecodeSpec)

/-- 'lookoutlaw08.PostingsSets', WHERE WHAT IT READS IS OF BULK AT MOST 1048576: true; the input reads as it did. -/
def postingsSetsUptoRow : OpenClaim := { program := "ytdmdhpnlalekfaa", sum := "198dcdfc572c3bb7153119113bd8e1599a0d0a2ee2a1f19ed64460bbebdf624a", func := "lookout/lookoutlaw08.PostingsSets", spec := "postingsSets", inPlace := ["internal/abi.NoEscape"], unfollowed := true, recurses := true, apart := false, narrowed := true }
def PostingsSetsUptoSaid : Prop := postingsSetsUptoRow.holds Try.pinned (OpenSpec.upto postingsSetsSpec)

/-- 'lookoutlaw08.PostingsEncode', WHERE WHAT IT READS IS OF BULK AT MOST 1048576: true; the input reads as it did. -/
def postingsEncodeUptoRow : OpenClaim := { program := "ytdmdhpnlalekfaa", sum := "198dcdfc572c3bb7153119113bd8e1599a0d0a2ee2a1f19ed64460bbebdf624a", func := "lookout/lookoutlaw08.PostingsEncode", spec := "postingsEncode", inPlace := ["internal/abi.NoEscape"], unfollowed := true, recurses := true, apart := false, narrowed := true }
def PostingsEncodeUptoSaid : Prop := postingsEncodeUptoRow.holds Try.pinned (OpenSpec.upto postingsEncodeSpec)

/-- 'lookoutlaw08.PostingsAlgebra', WHERE WHAT IT READS IS OF BULK AT MOST 1048576: true; the input reads as it did. -/
def postingsAlgebraUptoRow : OpenClaim := { program := "ytdmdhpnlalekfaa", sum := "198dcdfc572c3bb7153119113bd8e1599a0d0a2ee2a1f19ed64460bbebdf624a", func := "lookout/lookoutlaw08.PostingsAlgebra", spec := "postingsAlgebra", inPlace := ["internal/abi.NoEscape"], unfollowed := true, recurses := true, apart := false, narrowed := true }
def PostingsAlgebraUptoSaid : Prop := postingsAlgebraUptoRow.holds Try.pinned (OpenSpec.upto postingsAlgebraSpec)

/-- 'lookoutlaw08.PostingsSeek', WHERE WHAT IT READS IS OF BULK AT MOST 1048576: true; the input reads as it did. -/
def postingsSeekUptoRow : OpenClaim := { program := "ytdmdhpnlalekfaa", sum := "198dcdfc572c3bb7153119113bd8e1599a0d0a2ee2a1f19ed64460bbebdf624a", func := "lookout/lookoutlaw08.PostingsSeek", spec := "postingsSeek", inPlace := ["internal/abi.NoEscape"], unfollowed := true, recurses := true, apart := false, narrowed := true }
def PostingsSeekUptoSaid : Prop := postingsSeekUptoRow.holds Try.pinned (OpenSpec.upto postingsSeekSpec)

/-- 'lookoutlaw08.PostingsCanonical', WHERE WHAT IT READS IS OF BULK AT MOST 1048576: true; the input reads as it did. -/
def postingsCanonicalUptoRow : OpenClaim := { program := "ytdmdhpnlalekfaa", sum := "198dcdfc572c3bb7153119113bd8e1599a0d0a2ee2a1f19ed64460bbebdf624a", func := "lookout/lookoutlaw08.PostingsCanonical", spec := "postingsCanonical", inPlace := ["internal/abi.NoEscape"], unfollowed := true, recurses := true, apart := false, narrowed := true }
def PostingsCanonicalUptoSaid : Prop := postingsCanonicalUptoRow.holds Try.pinned (OpenSpec.upto postingsCanonicalSpec)

/-- 'lookoutlaw08.PostingsMembers', WHERE WHAT IT READS IS OF BULK AT MOST 1048576: true; the input reads as it did. -/
def postingsMembersUptoRow : OpenClaim := { program := "ytdmdhpnlalekfaa", sum := "198dcdfc572c3bb7153119113bd8e1599a0d0a2ee2a1f19ed64460bbebdf624a", func := "lookout/lookoutlaw08.PostingsMembers", spec := "postingsMembers", inPlace := ["internal/abi.NoEscape"], unfollowed := true, recurses := true, apart := false, narrowed := true }
def PostingsMembersUptoSaid : Prop := postingsMembersUptoRow.holds Try.pinned (OpenSpec.upto postingsMembersSpec)

/-- 'lookoutlaw08.PostingsMerge', WHERE WHAT IT READS IS OF BULK AT MOST 1048576: true; the input reads as it did. -/
def postingsMergeUptoRow : OpenClaim := { program := "ytdmdhpnlalekfaa", sum := "198dcdfc572c3bb7153119113bd8e1599a0d0a2ee2a1f19ed64460bbebdf624a", func := "lookout/lookoutlaw08.PostingsMerge", spec := "postingsMerge", inPlace := ["internal/abi.NoEscape"], unfollowed := true, recurses := true, apart := false, narrowed := true }
def PostingsMergeUptoSaid : Prop := postingsMergeUptoRow.holds Try.pinned (OpenSpec.upto postingsMergeSpec)

/-- 'lookoutlaw08.PostingsOrders', WHERE WHAT IT READS IS OF BULK AT MOST 1048576: true; the input reads as it did. -/
def postingsOrdersUptoRow : OpenClaim := { program := "ytdmdhpnlalekfaa", sum := "198dcdfc572c3bb7153119113bd8e1599a0d0a2ee2a1f19ed64460bbebdf624a", func := "lookout/lookoutlaw08.PostingsOrders", spec := "postingsOrders", inPlace := ["internal/abi.NoEscape"], unfollowed := true, recurses := true, apart := false, narrowed := true }
def PostingsOrdersUptoSaid : Prop := postingsOrdersUptoRow.holds Try.pinned (OpenSpec.upto postingsOrdersSpec)

end Rows
end Go.Proofs.Ytdmdhpnlalekfaa

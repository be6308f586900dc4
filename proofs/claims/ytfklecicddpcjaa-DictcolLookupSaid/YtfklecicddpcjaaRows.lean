/-
  No cell of these rows narrows 'for every input' (looked for: loops, veiled, ifaces, maps, wideKeys, modest, calm, conditions, laid).
  DERIVED. THE GIVEN ROWS OF THIS SEAT. 8 by the template 'for every input the law returns true; each argument reads behind the call as it read before'; 0 by the template 'total and deterministic' (their statements: YtfklecicddpcjaaTotals.lean).
  GIVEN WITH THE SEED: the statements are not yours to turn. If you find one false, say at which input.
  Laid BY PROGRAM, IN A SANDBOX (cutbox-rows.mjs): the forced cells as the released guide's own fill.sh prints them over the translation 3c30c236962b2f99… (all of the seat's roots in one cut). By AI agents, Wed Nov 11 2026. No macro, syntax, notation, axiom, sorry.
-/
import Derived.Test.YtfklecicddpcjaaChecked
import GoSem.Claim
import GoSem.ClaimJoined
import GoSem.ClaimMapViews
import Derived.JoinedTies
import Derived.KernelRfl
namespace Go.Proofs.Ytfklecicddpcjaa
/- THE CELL 'sum', in the pinned program and in every row, IS THE sha256 OF THE DUMP (.gsa) THAT YtfklecicddpcjaaProg.lean LOADS. Nothing in Lean hashes anything: it is a label: what it is worth is what the hold of that sum in a sandbox is worth. -/
noncomputable def Try.pinned : Pinned := { name := "ytfklecicddpcjaa", sum := "3c30c236962b2f990cc6728ecc571685536833503522d8f1bcc973e515ba0c3b", checked := Try.checked }
namespace Rows
def none {H : Type} : Left H := { results := [], args := [] }

/-- 'lookoutlaw10.DictcolEncode': WHATEVER THE INPUT: true; the input reads as it did. -/
def dictcolEncodeSpec : ChangeSpec := { name := "dictcolEncode", fn := fun _ => fun
  | [d] => { results := [.lit (.bool true)], args := [d] }
  | _ => none }
def dictcolEncodeRow : OpenClaim := { program := "ytfklecicddpcjaa", sum := "3c30c236962b2f990cc6728ecc571685536833503522d8f1bcc973e515ba0c3b", func := "lookout/lookoutlaw10.DictcolEncode", spec := "dictcolEncode", unfollowed := true, recurses := true, apart := false }
def DictcolEncodeSaid : Prop := dictcolEncodeRow.holds Try.pinned (OpenSpec.ofChange dictcolEncodeSpec)

/-- ITS FALSE NEIGHBOUR: 'it returns false'. Refute it at one input. -/
def dictcolEncodeWrong : ChangeSpec := { name := "dictcolEncode", fn := fun _ => fun
  | [d] => { results := [.lit (.bool false)], args := [d] }
  | _ => none }
def DictcolEncodeWrongFalsely : Prop := dictcolEncodeRow.holds Try.pinned (OpenSpec.ofChange dictcolEncodeWrong)

/-- 'lookoutlaw10.DictcolLong': WHATEVER THE INPUT: true; the input reads as it did. -/
def dictcolLongSpec : ChangeSpec := { name := "dictcolLong", fn := fun _ => fun
  | [d1, d2] => { results := [.lit (.bool true)], args := [d1, d2] }
  | _ => none }
def dictcolLongRow : OpenClaim := { program := "ytfklecicddpcjaa", sum := "3c30c236962b2f990cc6728ecc571685536833503522d8f1bcc973e515ba0c3b", func := "lookout/lookoutlaw10.DictcolLong", spec := "dictcolLong", unfollowed := true, recurses := true, apart := false }
def DictcolLongSaid : Prop := dictcolLongRow.holds Try.pinned (OpenSpec.ofChange dictcolLongSpec)

/-- ITS FALSE NEIGHBOUR: 'it returns false'. Refute it at one input. -/
def dictcolLongWrong : ChangeSpec := { name := "dictcolLong", fn := fun _ => fun
  | [d1, d2] => { results := [.lit (.bool false)], args := [d1, d2] }
  | _ => none }
def DictcolLongWrongFalsely : Prop := dictcolLongRow.holds Try.pinned (OpenSpec.ofChange dictcolLongWrong)

/-- 'lookoutlaw10.DictcolRoundTrip': WHATEVER THE INPUT: true; the input reads as it did. -/
def dictcolRoundTripSpec : ChangeSpec := { name := "dictcolRoundTrip", fn := fun _ => fun
  | [d] => { results := [.lit (.bool true)], args := [d] }
  | _ => none }
def dictcolRoundTripRow : OpenClaim := { program := "ytfklecicddpcjaa", sum := "3c30c236962b2f990cc6728ecc571685536833503522d8f1bcc973e515ba0c3b", func := "lookout/lookoutlaw10.DictcolRoundTrip", spec := "dictcolRoundTrip", unfollowed := true, recurses := true, apart := false }
def DictcolRoundTripSaid : Prop := dictcolRoundTripRow.holds Try.pinned (OpenSpec.ofChange dictcolRoundTripSpec)

/-- ITS FALSE NEIGHBOUR: 'it returns false'. Refute it at one input. -/
def dictcolRoundTripWrong : ChangeSpec := { name := "dictcolRoundTrip", fn := fun _ => fun
  | [d] => { results := [.lit (.bool false)], args := [d] }
  | _ => none }
def DictcolRoundTripWrongFalsely : Prop := dictcolRoundTripRow.holds Try.pinned (OpenSpec.ofChange dictcolRoundTripWrong)

/-- 'lookoutlaw10.DictcolCanonical': WHATEVER THE INPUT: true; the input reads as it did. -/
def dictcolCanonicalSpec : ChangeSpec := { name := "dictcolCanonical", fn := fun _ => fun
  | [d] => { results := [.lit (.bool true)], args := [d] }
  | _ => none }
def dictcolCanonicalRow : OpenClaim := { program := "ytfklecicddpcjaa", sum := "3c30c236962b2f990cc6728ecc571685536833503522d8f1bcc973e515ba0c3b", func := "lookout/lookoutlaw10.DictcolCanonical", spec := "dictcolCanonical", unfollowed := true, recurses := true, apart := false }
def DictcolCanonicalSaid : Prop := dictcolCanonicalRow.holds Try.pinned (OpenSpec.ofChange dictcolCanonicalSpec)

/-- ITS FALSE NEIGHBOUR: 'it returns false'. Refute it at one input. -/
def dictcolCanonicalWrong : ChangeSpec := { name := "dictcolCanonical", fn := fun _ => fun
  | [d] => { results := [.lit (.bool false)], args := [d] }
  | _ => none }
def DictcolCanonicalWrongFalsely : Prop := dictcolCanonicalRow.holds Try.pinned (OpenSpec.ofChange dictcolCanonicalWrong)

/-- 'lookoutlaw10.DictcolRepeats': WHATEVER THE INPUT: true; the input reads as it did. -/
def dictcolRepeatsSpec : ChangeSpec := { name := "dictcolRepeats", fn := fun _ => fun
  | [d] => { results := [.lit (.bool true)], args := [d] }
  | _ => none }
def dictcolRepeatsRow : OpenClaim := { program := "ytfklecicddpcjaa", sum := "3c30c236962b2f990cc6728ecc571685536833503522d8f1bcc973e515ba0c3b", func := "lookout/lookoutlaw10.DictcolRepeats", spec := "dictcolRepeats", unfollowed := true, recurses := true, apart := false }
def DictcolRepeatsSaid : Prop := dictcolRepeatsRow.holds Try.pinned (OpenSpec.ofChange dictcolRepeatsSpec)

/-- ITS FALSE NEIGHBOUR: 'it returns false'. Refute it at one input. -/
def dictcolRepeatsWrong : ChangeSpec := { name := "dictcolRepeats", fn := fun _ => fun
  | [d] => { results := [.lit (.bool false)], args := [d] }
  | _ => none }
def DictcolRepeatsWrongFalsely : Prop := dictcolRepeatsRow.holds Try.pinned (OpenSpec.ofChange dictcolRepeatsWrong)

/-- 'lookoutlaw10.DictcolDecode': WHATEVER THE INPUT: true; the input reads as it did. -/
def dictcolDecodeSpec : ChangeSpec := { name := "dictcolDecode", fn := fun _ => fun
  | [d1, d2, d3] => { results := [.lit (.bool true)], args := [d1, d2, d3] }
  | _ => none }
def dictcolDecodeRow : OpenClaim := { program := "ytfklecicddpcjaa", sum := "3c30c236962b2f990cc6728ecc571685536833503522d8f1bcc973e515ba0c3b", func := "lookout/lookoutlaw10.DictcolDecode", spec := "dictcolDecode", unfollowed := true, recurses := true, apart := false }
def DictcolDecodeSaid : Prop := dictcolDecodeRow.holds Try.pinned (OpenSpec.ofChange dictcolDecodeSpec)

/-- ITS FALSE NEIGHBOUR: 'it returns false'. Refute it at one input. -/
def dictcolDecodeWrong : ChangeSpec := { name := "dictcolDecode", fn := fun _ => fun
  | [d1, d2, d3] => { results := [.lit (.bool false)], args := [d1, d2, d3] }
  | _ => none }
def DictcolDecodeWrongFalsely : Prop := dictcolDecodeRow.holds Try.pinned (OpenSpec.ofChange dictcolDecodeWrong)

/-- 'lookoutlaw10.DictcolDistinct': WHATEVER THE INPUT: true; the input reads as it did. -/
def dictcolDistinctSpec : ChangeSpec := { name := "dictcolDistinct", fn := fun _ => fun
  | [d] => { results := [.lit (.bool true)], args := [d] }
  | _ => none }
def dictcolDistinctRow : OpenClaim := { program := "ytfklecicddpcjaa", sum := "3c30c236962b2f990cc6728ecc571685536833503522d8f1bcc973e515ba0c3b", func := "lookout/lookoutlaw10.DictcolDistinct", spec := "dictcolDistinct", unfollowed := true, recurses := true, apart := false }
def DictcolDistinctSaid : Prop := dictcolDistinctRow.holds Try.pinned (OpenSpec.ofChange dictcolDistinctSpec)

/-- ITS FALSE NEIGHBOUR: 'it returns false'. Refute it at one input. -/
def dictcolDistinctWrong : ChangeSpec := { name := "dictcolDistinct", fn := fun _ => fun
  | [d] => { results := [.lit (.bool false)], args := [d] }
  | _ => none }
def DictcolDistinctWrongFalsely : Prop := dictcolDistinctRow.holds Try.pinned (OpenSpec.ofChange dictcolDistinctWrong)

/-- 'lookoutlaw10.DictcolLookup': WHATEVER THE INPUT: true; the input reads as it did. -/
def dictcolLookupSpec : ChangeSpec := { name := "dictcolLookup", fn := fun _ => fun
  | [d1, d2] => { results := [.lit (.bool true)], args := [d1, d2] }
  | _ => none }
def dictcolLookupRow : OpenClaim := { program := "ytfklecicddpcjaa", sum := "3c30c236962b2f990cc6728ecc571685536833503522d8f1bcc973e515ba0c3b", func := "lookout/lookoutlaw10.DictcolLookup", spec := "dictcolLookup", unfollowed := true, recurses := true, apart := false }
def DictcolLookupSaid : Prop := dictcolLookupRow.holds Try.pinned (OpenSpec.ofChange dictcolLookupSpec)

/-- ITS FALSE NEIGHBOUR: 'it returns false'. Refute it at one input. -/
def dictcolLookupWrong : ChangeSpec := { name := "dictcolLookup", fn := fun _ => fun
  | [d1, d2] => { results := [.lit (.bool false)], args := [d1, d2] }
  | _ => none }
def DictcolLookupWrongFalsely : Prop := dictcolLookupRow.holds Try.pinned (OpenSpec.ofChange dictcolLookupWrong)

/- THE SECOND FORM. 'bulk': how many values and letters a reading holds, each counted each time it is reached (what is shared counts as often as it is met; a slice's spare places count too). A statement '..UptoSaid' is the law's where the arguments, and the package variables that the reading takes, are together of bulk at most 1048576: NARROWER than '..Said'. Prove '..Said' where nothing that the law and all that it calls make is longer than what came in: it says more and counts as full. Else prove '..UptoSaid'. A law counts once. -/
mutual
def uptoBulk {H : Type} : DataW H → Nat
  | .lit (.string bytes) => bytes.length + 1
  | .lit _ => 1
  | .nil => 1
  | .ptr d => uptoBulk d + 1
  | .slice elems spare => uptoBulkAll elems + uptoBulkAll spare + 1
  | .agg parts => uptoBulkAll parts + 1
  | .iface _ d => uptoBulk d + 1
  | .map entries => uptoBulkEntries entries + 1
  | .held _ => 1
def uptoBulkAll {H : Type} : List (DataW H) → Nat
  | [] => 0
  | d :: r => uptoBulk d + uptoBulkAll r
def uptoBulkEntries {H : Type} : List (Lit × DataW H) → Nat
  | [] => 0
  | x :: r => uptoBulkEntry x + uptoBulkEntries r
def uptoBulkEntry {H : Type} : Lit × DataW H → Nat
  | (.string bytes, d) => bytes.length + uptoBulk d + 1
  | (_, d) => uptoBulk d + 1
 end
def uptoSmall : (H : Type) → List (DataW H) → Bool := fun _ ds => decide (uptoBulkAll ds ≤ 1048576)
def OpenSpec.upto (s : _root_.Go.ChangeSpec) : _root_.Go.OpenSpec := { _root_.Go.OpenSpec.ofChange s with cond := some uptoSmall }

/-- 'lookoutlaw10.DictcolEncode', WHERE WHAT IT READS IS OF BULK AT MOST 1048576: true; the input reads as it did. -/
def dictcolEncodeUptoRow : OpenClaim := { program := "ytfklecicddpcjaa", sum := "3c30c236962b2f990cc6728ecc571685536833503522d8f1bcc973e515ba0c3b", func := "lookout/lookoutlaw10.DictcolEncode", spec := "dictcolEncode", unfollowed := true, recurses := true, apart := false, narrowed := true }
def DictcolEncodeUptoSaid : Prop := dictcolEncodeUptoRow.holds Try.pinned (OpenSpec.upto dictcolEncodeSpec)

/-- 'lookoutlaw10.DictcolLong', WHERE WHAT IT READS IS OF BULK AT MOST 1048576: true; the input reads as it did. -/
def dictcolLongUptoRow : OpenClaim := { program := "ytfklecicddpcjaa", sum := "3c30c236962b2f990cc6728ecc571685536833503522d8f1bcc973e515ba0c3b", func := "lookout/lookoutlaw10.DictcolLong", spec := "dictcolLong", unfollowed := true, recurses := true, apart := false, narrowed := true }
def DictcolLongUptoSaid : Prop := dictcolLongUptoRow.holds Try.pinned (OpenSpec.upto dictcolLongSpec)

/-- 'lookoutlaw10.DictcolRoundTrip', WHERE WHAT IT READS IS OF BULK AT MOST 1048576: true; the input reads as it did. -/
def dictcolRoundTripUptoRow : OpenClaim := { program := "ytfklecicddpcjaa", sum := "3c30c236962b2f990cc6728ecc571685536833503522d8f1bcc973e515ba0c3b", func := "lookout/lookoutlaw10.DictcolRoundTrip", spec := "dictcolRoundTrip", unfollowed := true, recurses := true, apart := false, narrowed := true }
def DictcolRoundTripUptoSaid : Prop := dictcolRoundTripUptoRow.holds Try.pinned (OpenSpec.upto dictcolRoundTripSpec)

/-- 'lookoutlaw10.DictcolCanonical', WHERE WHAT IT READS IS OF BULK AT MOST 1048576: true; the input reads as it did. -/
def dictcolCanonicalUptoRow : OpenClaim := { program := "ytfklecicddpcjaa", sum := "3c30c236962b2f990cc6728ecc571685536833503522d8f1bcc973e515ba0c3b", func := "lookout/lookoutlaw10.DictcolCanonical", spec := "dictcolCanonical", unfollowed := true, recurses := true, apart := false, narrowed := true }
def DictcolCanonicalUptoSaid : Prop := dictcolCanonicalUptoRow.holds Try.pinned (OpenSpec.upto dictcolCanonicalSpec)

/-- 'lookoutlaw10.DictcolRepeats', WHERE WHAT IT READS IS OF BULK AT MOST 1048576: true; the input reads as it did. -/
def dictcolRepeatsUptoRow : OpenClaim := { program := "ytfklecicddpcjaa", sum := "3c30c236962b2f990cc6728ecc571685536833503522d8f1bcc973e515ba0c3b", func := "lookout/lookoutlaw10.DictcolRepeats", spec := "dictcolRepeats", unfollowed := true, recurses := true, apart := false, narrowed := true }
def DictcolRepeatsUptoSaid : Prop := dictcolRepeatsUptoRow.holds Try.pinned (OpenSpec.upto dictcolRepeatsSpec)

/-- 'lookoutlaw10.DictcolDecode', WHERE WHAT IT READS IS OF BULK AT MOST 1048576: true; the input reads as it did. -/
def dictcolDecodeUptoRow : OpenClaim := { program := "ytfklecicddpcjaa", sum := "3c30c236962b2f990cc6728ecc571685536833503522d8f1bcc973e515ba0c3b", func := "lookout/lookoutlaw10.DictcolDecode", spec := "dictcolDecode", unfollowed := true, recurses := true, apart := false, narrowed := true }
def DictcolDecodeUptoSaid : Prop := dictcolDecodeUptoRow.holds Try.pinned (OpenSpec.upto dictcolDecodeSpec)

/-- 'lookoutlaw10.DictcolDistinct', WHERE WHAT IT READS IS OF BULK AT MOST 1048576: true; the input reads as it did. -/
def dictcolDistinctUptoRow : OpenClaim := { program := "ytfklecicddpcjaa", sum := "3c30c236962b2f990cc6728ecc571685536833503522d8f1bcc973e515ba0c3b", func := "lookout/lookoutlaw10.DictcolDistinct", spec := "dictcolDistinct", unfollowed := true, recurses := true, apart := false, narrowed := true }
def DictcolDistinctUptoSaid : Prop := dictcolDistinctUptoRow.holds Try.pinned (OpenSpec.upto dictcolDistinctSpec)

/-- 'lookoutlaw10.DictcolLookup', WHERE WHAT IT READS IS OF BULK AT MOST 1048576: true; the input reads as it did. -/
def dictcolLookupUptoRow : OpenClaim := { program := "ytfklecicddpcjaa", sum := "3c30c236962b2f990cc6728ecc571685536833503522d8f1bcc973e515ba0c3b", func := "lookout/lookoutlaw10.DictcolLookup", spec := "dictcolLookup", unfollowed := true, recurses := true, apart := false, narrowed := true }
def DictcolLookupUptoSaid : Prop := dictcolLookupUptoRow.holds Try.pinned (OpenSpec.upto dictcolLookupSpec)

end Rows
end Go.Proofs.Ytfklecicddpcjaa

/-
  No cell of these rows narrows 'for every input' (looked for: loops, veiled, ifaces, maps, wideKeys, modest, calm, conditions, laid).
  DERIVED. THE GIVEN ROWS OF THIS SEAT. 8 by the template 'for every input the law returns true; each argument reads behind the call as it read before'; 0 by the template 'total and deterministic' (their statements: YtdokabaeddaipaaTotals.lean).
  GIVEN WITH THE SEED: the statements are not yours to turn. If you find one false, say at which input.
  Laid BY PROGRAM, IN A SANDBOX (cutbox-rows.mjs): the forced cells as the released guide's own fill.sh prints them over the translation 1361ab67b2c7c30e… (all of the seat's roots in one cut). By AI agents, Wed Nov 11 2026. No macro, syntax, notation, axiom, sorry.
-/
import Derived.Test.YtdokabaeddaipaaChecked
import GoSem.Claim
import GoSem.ClaimJoined
import GoSem.ClaimMapViews
import Derived.JoinedTies
import Derived.KernelRfl
namespace Go.Proofs.Ytdokabaeddaipaa
/- THE CELL 'sum', in the pinned program and in every row, IS THE sha256 OF THE DUMP (.gsa) THAT YtdokabaeddaipaaProg.lean LOADS. Nothing in Lean hashes anything: it is a label: what it is worth is what the hold of that sum in a sandbox is worth. -/
noncomputable def Try.pinned : Pinned := { name := "ytdokabaeddaipaa", sum := "1361ab67b2c7c30e4566afb7d1b56487bfcc7c6b199e5260481bebeb0ebe2bd0", checked := Try.checked }
namespace Rows
def none {H : Type} : Left H := { results := [], args := [] }

/-- 'lookoutlaw16.ZonemapAdd': WHATEVER THE INPUT: true; the input reads as it did. -/
def zonemapAddSpec : ChangeSpec := { name := "zonemapAdd", fn := fun _ => fun
  | [d1, d2, d3, d4, d5] => { results := [.lit (.bool true)], args := [d1, d2, d3, d4, d5] }
  | _ => none }
def zonemapAddRow : OpenClaim := { program := "ytdokabaeddaipaa", sum := "1361ab67b2c7c30e4566afb7d1b56487bfcc7c6b199e5260481bebeb0ebe2bd0", func := "lookout/lookoutlaw16.ZonemapAdd", spec := "zonemapAdd", unfollowed := true, recurses := true, apart := false }
def ZonemapAddSaid : Prop := zonemapAddRow.holds Try.pinned (OpenSpec.ofChange zonemapAddSpec)

/-- ITS FALSE NEIGHBOUR: 'it returns false'. Refute it at one input. -/
def zonemapAddWrong : ChangeSpec := { name := "zonemapAdd", fn := fun _ => fun
  | [d1, d2, d3, d4, d5] => { results := [.lit (.bool false)], args := [d1, d2, d3, d4, d5] }
  | _ => none }
def ZonemapAddWrongFalsely : Prop := zonemapAddRow.holds Try.pinned (OpenSpec.ofChange zonemapAddWrong)

/-- 'lookoutlaw16.ZonemapMay': WHATEVER THE INPUT: true; the input reads as it did. -/
def zonemapMaySpec : ChangeSpec := { name := "zonemapMay", fn := fun _ => fun
  | [d1, d2, d3] => { results := [.lit (.bool true)], args := [d1, d2, d3] }
  | _ => none }
def zonemapMayRow : OpenClaim := { program := "ytdokabaeddaipaa", sum := "1361ab67b2c7c30e4566afb7d1b56487bfcc7c6b199e5260481bebeb0ebe2bd0", func := "lookout/lookoutlaw16.ZonemapMay", spec := "zonemapMay", unfollowed := true, recurses := true, apart := false }
def ZonemapMaySaid : Prop := zonemapMayRow.holds Try.pinned (OpenSpec.ofChange zonemapMaySpec)

/-- ITS FALSE NEIGHBOUR: 'it returns false'. Refute it at one input. -/
def zonemapMayWrong : ChangeSpec := { name := "zonemapMay", fn := fun _ => fun
  | [d1, d2, d3] => { results := [.lit (.bool false)], args := [d1, d2, d3] }
  | _ => none }
def ZonemapMayWrongFalsely : Prop := zonemapMayRow.holds Try.pinned (OpenSpec.ofChange zonemapMayWrong)

/-- 'lookoutlaw16.ZonemapMonotone': WHATEVER THE INPUT: true; the input reads as it did. -/
def zonemapMonotoneSpec : ChangeSpec := { name := "zonemapMonotone", fn := fun _ => fun
  | [d1, d2, d3, d4] => { results := [.lit (.bool true)], args := [d1, d2, d3, d4] }
  | _ => none }
def zonemapMonotoneRow : OpenClaim := { program := "ytdokabaeddaipaa", sum := "1361ab67b2c7c30e4566afb7d1b56487bfcc7c6b199e5260481bebeb0ebe2bd0", func := "lookout/lookoutlaw16.ZonemapMonotone", spec := "zonemapMonotone", unfollowed := true, recurses := true, apart := false }
def ZonemapMonotoneSaid : Prop := zonemapMonotoneRow.holds Try.pinned (OpenSpec.ofChange zonemapMonotoneSpec)

/-- ITS FALSE NEIGHBOUR: 'it returns false'. Refute it at one input. -/
def zonemapMonotoneWrong : ChangeSpec := { name := "zonemapMonotone", fn := fun _ => fun
  | [d1, d2, d3, d4] => { results := [.lit (.bool false)], args := [d1, d2, d3, d4] }
  | _ => none }
def ZonemapMonotoneWrongFalsely : Prop := zonemapMonotoneRow.holds Try.pinned (OpenSpec.ofChange zonemapMonotoneWrong)

/-- 'lookoutlaw16.ZonemapValid': WHATEVER THE INPUT: true; the input reads as it did. -/
def zonemapValidSpec : ChangeSpec := { name := "zonemapValid", fn := fun _ => fun
  | [d1, d2, d3, d4, d5] => { results := [.lit (.bool true)], args := [d1, d2, d3, d4, d5] }
  | _ => none }
def zonemapValidRow : OpenClaim := { program := "ytdokabaeddaipaa", sum := "1361ab67b2c7c30e4566afb7d1b56487bfcc7c6b199e5260481bebeb0ebe2bd0", func := "lookout/lookoutlaw16.ZonemapValid", spec := "zonemapValid", unfollowed := true, recurses := true, apart := false }
def ZonemapValidSaid : Prop := zonemapValidRow.holds Try.pinned (OpenSpec.ofChange zonemapValidSpec)

/-- ITS FALSE NEIGHBOUR: 'it returns false'. Refute it at one input. -/
def zonemapValidWrong : ChangeSpec := { name := "zonemapValid", fn := fun _ => fun
  | [d1, d2, d3, d4, d5] => { results := [.lit (.bool false)], args := [d1, d2, d3, d4, d5] }
  | _ => none }
def ZonemapValidWrongFalsely : Prop := zonemapValidRow.holds Try.pinned (OpenSpec.ofChange zonemapValidWrong)

/-- 'lookoutlaw16.ZonemapHits': WHATEVER THE INPUT: true; the input reads as it did. -/
def zonemapHitsSpec : ChangeSpec := { name := "zonemapHits", fn := fun _ => fun
  | [d1, d2, d3] => { results := [.lit (.bool true)], args := [d1, d2, d3] }
  | _ => none }
def zonemapHitsRow : OpenClaim := { program := "ytdokabaeddaipaa", sum := "1361ab67b2c7c30e4566afb7d1b56487bfcc7c6b199e5260481bebeb0ebe2bd0", func := "lookout/lookoutlaw16.ZonemapHits", spec := "zonemapHits", unfollowed := true, recurses := true, apart := false }
def ZonemapHitsSaid : Prop := zonemapHitsRow.holds Try.pinned (OpenSpec.ofChange zonemapHitsSpec)

/-- ITS FALSE NEIGHBOUR: 'it returns false'. Refute it at one input. -/
def zonemapHitsWrong : ChangeSpec := { name := "zonemapHits", fn := fun _ => fun
  | [d1, d2, d3] => { results := [.lit (.bool false)], args := [d1, d2, d3] }
  | _ => none }
def ZonemapHitsWrongFalsely : Prop := zonemapHitsRow.holds Try.pinned (OpenSpec.ofChange zonemapHitsWrong)

/-- 'lookoutlaw16.ZonemapOrders': WHATEVER THE INPUT: true; the input reads as it did. -/
def zonemapOrdersSpec : ChangeSpec := { name := "zonemapOrders", fn := fun _ => fun
  | [d1, d2, d3] => { results := [.lit (.bool true)], args := [d1, d2, d3] }
  | _ => none }
def zonemapOrdersRow : OpenClaim := { program := "ytdokabaeddaipaa", sum := "1361ab67b2c7c30e4566afb7d1b56487bfcc7c6b199e5260481bebeb0ebe2bd0", func := "lookout/lookoutlaw16.ZonemapOrders", spec := "zonemapOrders", unfollowed := true, recurses := true, apart := false }
def ZonemapOrdersSaid : Prop := zonemapOrdersRow.holds Try.pinned (OpenSpec.ofChange zonemapOrdersSpec)

/-- ITS FALSE NEIGHBOUR: 'it returns false'. Refute it at one input. -/
def zonemapOrdersWrong : ChangeSpec := { name := "zonemapOrders", fn := fun _ => fun
  | [d1, d2, d3] => { results := [.lit (.bool false)], args := [d1, d2, d3] }
  | _ => none }
def ZonemapOrdersWrongFalsely : Prop := zonemapOrdersRow.holds Try.pinned (OpenSpec.ofChange zonemapOrdersWrong)

/-- 'lookoutlaw16.ZonemapEncode': WHATEVER THE INPUT: true; the input reads as it did. -/
def zonemapEncodeSpec : ChangeSpec := { name := "zonemapEncode", fn := fun _ => fun
  | [d1, d2] => { results := [.lit (.bool true)], args := [d1, d2] }
  | _ => none }
def zonemapEncodeRow : OpenClaim := { program := "ytdokabaeddaipaa", sum := "1361ab67b2c7c30e4566afb7d1b56487bfcc7c6b199e5260481bebeb0ebe2bd0", func := "lookout/lookoutlaw16.ZonemapEncode", spec := "zonemapEncode", inPlace := ["internal/abi.NoEscape"], unfollowed := true, recurses := true, apart := false }
def ZonemapEncodeSaid : Prop := zonemapEncodeRow.holds Try.pinned (OpenSpec.ofChange zonemapEncodeSpec)

/-- ITS FALSE NEIGHBOUR: 'it returns false'. Refute it at one input. -/
def zonemapEncodeWrong : ChangeSpec := { name := "zonemapEncode", fn := fun _ => fun
  | [d1, d2] => { results := [.lit (.bool false)], args := [d1, d2] }
  | _ => none }
def ZonemapEncodeWrongFalsely : Prop := zonemapEncodeRow.holds Try.pinned (OpenSpec.ofChange zonemapEncodeWrong)

/-- 'lookoutlaw16.ZonemapCanonical': WHATEVER THE INPUT: true; the input reads as it did. -/
def zonemapCanonicalSpec : ChangeSpec := { name := "zonemapCanonical", fn := fun _ => fun
  | [d1, d2] => { results := [.lit (.bool true)], args := [d1, d2] }
  | _ => none }
def zonemapCanonicalRow : OpenClaim := { program := "ytdokabaeddaipaa", sum := "1361ab67b2c7c30e4566afb7d1b56487bfcc7c6b199e5260481bebeb0ebe2bd0", func := "lookout/lookoutlaw16.ZonemapCanonical", spec := "zonemapCanonical", inPlace := ["internal/abi.NoEscape"], unfollowed := true, recurses := true, apart := false }
def ZonemapCanonicalSaid : Prop := zonemapCanonicalRow.holds Try.pinned (OpenSpec.ofChange zonemapCanonicalSpec)

/-- ITS FALSE NEIGHBOUR: 'it returns false'. Refute it at one input. -/
def zonemapCanonicalWrong : ChangeSpec := { name := "zonemapCanonical", fn := fun _ => fun
  | [d1, d2] => { results := [.lit (.bool false)], args := [d1, d2] }
  | _ => none }
def ZonemapCanonicalWrongFalsely : Prop := zonemapCanonicalRow.holds Try.pinned (OpenSpec.ofChange zonemapCanonicalWrong)

/- THE SECOND FORM. 'bulk': how many values and letters a reading holds, each counted each time it is reached (what is shared counts as often as it is met; a slice's spare places count too). A statement '..UptoSaid' is the law's where the arguments, and the package variables that the reading takes, are together of bulk at most 1048576: NARROWER than '..Said'. Prove '..Said' where nothing that the law and all that it calls make is longer than what came in: it says more and counts as full. Else prove '..UptoSaid'. A law counts once. -/
mutual
def uptoBulk {H : Type} : DataW H → Nat
  | .lit (.string bytes) => bytes.length + 1
  | .lit _ => 1
  | .nil => 1
  | .ptr d => uptoBulk d + 1
  | .slice elems spare => uptoBulkAll elems + uptoBulkAll spare + 1
  | .agg parts => uptoBulkAll parts + 1
  | .iface _ d => uptoBulk d + 1
  | .map entries => uptoBulkEntries entries + 1
  | .held _ => 1
def uptoBulkAll {H : Type} : List (DataW H) → Nat
  | [] => 0
  | d :: r => uptoBulk d + uptoBulkAll r
def uptoBulkEntries {H : Type} : List (Lit × DataW H) → Nat
  | [] => 0
  | x :: r => uptoBulkEntry x + uptoBulkEntries r
def uptoBulkEntry {H : Type} : Lit × DataW H → Nat
  | (.string bytes, d) => bytes.length + uptoBulk d + 1
  | (_, d) => uptoBulk d + 1
 end
def uptoSmall : (H : Type) → List (DataW H) → Bool := fun _ ds => decide (uptoBulkAll ds ≤ 1048576)
def OpenSpec.upto (s : _root_.Go.ChangeSpec) : _root_.Go.OpenSpec := { _root_.Go.OpenSpec.ofChange s with cond := some uptoSmall }

/-- 'lookoutlaw16.ZonemapAdd', WHERE WHAT IT READS IS OF BULK AT MOST 1048576: true; the input reads as it did. -/
def zonemapAddUptoRow : OpenClaim := { program := "ytdokabaeddaipaa", sum := "1361ab67b2c7c30e4566afb7d1b56487bfcc7c6b199e5260481bebeb0ebe2bd0", func := "lookout/lookoutlaw16.ZonemapAdd", spec := "zonemapAdd", unfollowed := true, recurses := true, apart := false, narrowed := true }
def ZonemapAddUptoSaid : Prop := zonemapAddUptoRow.holds Try.pinned (OpenSpec.upto zonemapAddSpec)

/-- 'lookoutlaw16.ZonemapMay', WHERE WHAT IT READS IS OF BULK AT MOST 1048576: true; the input reads as it did. -/
def zonemapMayUptoRow : OpenClaim := { program := "ytdokabaeddaipaa", sum := "1361ab67b2c7c30e4566afb7d1b56487bfcc7c6b199e5260481bebeb0ebe2bd0", func := "lookout/lookoutlaw16.ZonemapMay", spec := "zonemapMay", unfollowed := true, recurses := true, apart := false, narrowed := true }
def ZonemapMayUptoSaid : Prop := zonemapMayUptoRow.holds Try.pinned (OpenSpec.upto zonemapMaySpec)

/-- 'lookoutlaw16.ZonemapMonotone', WHERE WHAT IT READS IS OF BULK AT MOST 1048576: true; the input reads as it did. -/
def zonemapMonotoneUptoRow : OpenClaim := { program := "ytdokabaeddaipaa", sum := "1361ab67b2c7c30e4566afb7d1b56487bfcc7c6b199e5260481bebeb0ebe2bd0", func := "lookout/lookoutlaw16.ZonemapMonotone", spec := "zonemapMonotone", unfollowed := true, recurses := true, apart := false, narrowed := true }
def ZonemapMonotoneUptoSaid : Prop := zonemapMonotoneUptoRow.holds Try.pinned (OpenSpec.upto zonemapMonotoneSpec)

/-- 'lookoutlaw16.ZonemapValid', WHERE WHAT IT READS IS OF BULK AT MOST 1048576: true; the input reads as it did. -/
def zonemapValidUptoRow : OpenClaim := { program := "ytdokabaeddaipaa", sum := "1361ab67b2c7c30e4566afb7d1b56487bfcc7c6b199e5260481bebeb0ebe2bd0", func := "lookout/lookoutlaw16.ZonemapValid", spec := "zonemapValid", unfollowed := true, recurses := true, apart := false, narrowed := true }
def ZonemapValidUptoSaid : Prop := zonemapValidUptoRow.holds Try.pinned (OpenSpec.upto zonemapValidSpec)

/-- 'lookoutlaw16.ZonemapHits', WHERE WHAT IT READS IS OF BULK AT MOST 1048576: true; the input reads as it did. -/
def zonemapHitsUptoRow : OpenClaim := { program := "ytdokabaeddaipaa", sum := "1361ab67b2c7c30e4566afb7d1b56487bfcc7c6b199e5260481bebeb0ebe2bd0", func := "lookout/lookoutlaw16.ZonemapHits", spec := "zonemapHits", unfollowed := true, recurses := true, apart := false, narrowed := true }
def ZonemapHitsUptoSaid : Prop := zonemapHitsUptoRow.holds Try.pinned (OpenSpec.upto zonemapHitsSpec)

/-- 'lookoutlaw16.ZonemapOrders', WHERE WHAT IT READS IS OF BULK AT MOST 1048576: true; the input reads as it did. -/
def zonemapOrdersUptoRow : OpenClaim := { program := "ytdokabaeddaipaa", sum := "1361ab67b2c7c30e4566afb7d1b56487bfcc7c6b199e5260481bebeb0ebe2bd0", func := "lookout/lookoutlaw16.ZonemapOrders", spec := "zonemapOrders", unfollowed := true, recurses := true, apart := false, narrowed := true }
def ZonemapOrdersUptoSaid : Prop := zonemapOrdersUptoRow.holds Try.pinned (OpenSpec.upto zonemapOrdersSpec)

/-- 'lookoutlaw16.ZonemapEncode', WHERE WHAT IT READS IS OF BULK AT MOST 1048576: true; the input reads as it did. -/
def zonemapEncodeUptoRow : OpenClaim := { program := "ytdokabaeddaipaa", sum := "1361ab67b2c7c30e4566afb7d1b56487bfcc7c6b199e5260481bebeb0ebe2bd0", func := "lookout/lookoutlaw16.ZonemapEncode", spec := "zonemapEncode", inPlace := ["internal/abi.NoEscape"], unfollowed := true, recurses := true, apart := false, narrowed := true }
def ZonemapEncodeUptoSaid : Prop := zonemapEncodeUptoRow.holds Try.pinned (OpenSpec.upto zonemapEncodeSpec)

/-- 'lookoutlaw16.ZonemapCanonical', WHERE WHAT IT READS IS OF BULK AT MOST 1048576: true; the input reads as it did. -/
def zonemapCanonicalUptoRow : OpenClaim := { program := "ytdokabaeddaipaa", sum := "1361ab67b2c7c30e4566afb7d1b56487bfcc7c6b199e5260481bebeb0ebe2bd0", func := "lookout/lookoutlaw16.ZonemapCanonical", spec := "zonemapCanonical", inPlace := ["internal/abi.NoEscape"], unfollowed := true, recurses := true, apart := false, narrowed := true }
def ZonemapCanonicalUptoSaid : Prop := zonemapCanonicalUptoRow.holds Try.pinned (OpenSpec.upto zonemapCanonicalSpec)

end Rows
end Go.Proofs.Ytdokabaeddaipaa

/-
  No cell of these rows narrows 'for every input' (looked for: loops, veiled, ifaces, maps, wideKeys, modest, calm, conditions, laid).
  DERIVED. THE GIVEN ROWS OF THIS SEAT. 3 by the template 'for every input the law returns true; each argument reads behind the call as it read before'; 0 by the template 'total and deterministic' (their statements: YtbihedcjcmcjaaaTotals.lean).
  GIVEN WITH THE SEED: the statements are not yours to turn. If you find one false, say at which input.
  Laid BY PROGRAM, IN A SANDBOX (cutbox-rows.mjs): the forced cells as the released guide's own fill.sh prints them over the translation 44282958d9d2287c… (all of the seat's roots in one cut). By AI agents, Wed Nov 11 2026. No macro, syntax, notation, axiom, sorry.
-/
import Derived.Test.YtbihedcjcmcjaaaChecked
import GoSem.Claim
import GoSem.ClaimJoined
import GoSem.ClaimMapViews
import Derived.JoinedTies
import Derived.KernelRfl
namespace Go.Proofs.Ytbihedcjcmcjaaa
/- THE CELL 'sum', in the pinned program and in every row, IS THE sha256 OF THE DUMP (.gsa) THAT YtbihedcjcmcjaaaProg.lean LOADS. Nothing in Lean hashes anything: it is a label: what it is worth is what the hold of that sum in a sandbox is worth. -/
noncomputable def Try.pinned : Pinned := { name := "ytbihedcjcmcjaaa", sum := "44282958d9d2287c60d1cb499af678a2d00c5d74f793111b983c218dc5d3a181", checked := Try.checked }
namespace Rows
def none {H : Type} : Left H := { results := [], args := [] }

/-- 'lookoutlaw09.DeltacolRegular': WHATEVER THE INPUT: true; the input reads as it did. -/
def deltacolRegularSpec : ChangeSpec := { name := "deltacolRegular", fn := fun _ => fun
  | [d1, d2, d3] => { results := [.lit (.bool true)], args := [d1, d2, d3] }
  | _ => none }
def deltacolRegularRow : OpenClaim := { program := "ytbihedcjcmcjaaa", sum := "44282958d9d2287c60d1cb499af678a2d00c5d74f793111b983c218dc5d3a181", func := "lookout/lookoutlaw09.DeltacolRegular", spec := "deltacolRegular", inPlace := ["internal/abi.NoEscape"], unfollowed := true, recurses := true, apart := false }
def DeltacolRegularSaid : Prop := deltacolRegularRow.holds Try.pinned (OpenSpec.ofChange deltacolRegularSpec)

/-- ITS FALSE NEIGHBOUR: 'it returns false'. Refute it at one input. -/
def deltacolRegularWrong : ChangeSpec := { name := "deltacolRegular", fn := fun _ => fun
  | [d1, d2, d3] => { results := [.lit (.bool false)], args := [d1, d2, d3] }
  | _ => none }
def DeltacolRegularWrongFalsely : Prop := deltacolRegularRow.holds Try.pinned (OpenSpec.ofChange deltacolRegularWrong)

/-- 'lookoutlaw09.DeltacolShift': WHATEVER THE INPUT: true; the input reads as it did. -/
def deltacolShiftSpec : ChangeSpec := { name := "deltacolShift", fn := fun _ => fun
  | [d1, d2] => { results := [.lit (.bool true)], args := [d1, d2] }
  | _ => none }
def deltacolShiftRow : OpenClaim := { program := "ytbihedcjcmcjaaa", sum := "44282958d9d2287c60d1cb499af678a2d00c5d74f793111b983c218dc5d3a181", func := "lookout/lookoutlaw09.DeltacolShift", spec := "deltacolShift", inPlace := ["internal/abi.NoEscape"], unfollowed := true, recurses := true, apart := false }
def DeltacolShiftSaid : Prop := deltacolShiftRow.holds Try.pinned (OpenSpec.ofChange deltacolShiftSpec)

/-- ITS FALSE NEIGHBOUR: 'it returns false'. Refute it at one input. -/
def deltacolShiftWrong : ChangeSpec := { name := "deltacolShift", fn := fun _ => fun
  | [d1, d2] => { results := [.lit (.bool false)], args := [d1, d2] }
  | _ => none }
def DeltacolShiftWrongFalsely : Prop := deltacolShiftRow.holds Try.pinned (OpenSpec.ofChange deltacolShiftWrong)

/-- 'lookoutlaw09.DeltacolBack': WHATEVER THE INPUT: true; the input reads as it did. -/
def deltacolBackSpec : ChangeSpec := { name := "deltacolBack", fn := fun _ => fun
  | [d1, d2] => { results := [.lit (.bool true)], args := [d1, d2] }
  | _ => none }
def deltacolBackRow : OpenClaim := { program := "ytbihedcjcmcjaaa", sum := "44282958d9d2287c60d1cb499af678a2d00c5d74f793111b983c218dc5d3a181", func := "lookout/lookoutlaw09.DeltacolBack", spec := "deltacolBack", inPlace := ["internal/abi.NoEscape"], unfollowed := true, recurses := true, apart := false }
def DeltacolBackSaid : Prop := deltacolBackRow.holds Try.pinned (OpenSpec.ofChange deltacolBackSpec)

/-- ITS FALSE NEIGHBOUR: 'it returns false'. Refute it at one input. -/
def deltacolBackWrong : ChangeSpec := { name := "deltacolBack", fn := fun _ => fun
  | [d1, d2] => { results := [.lit (.bool false)], args := [d1, d2] }
  | _ => none }
def DeltacolBackWrongFalsely : Prop := deltacolBackRow.holds Try.pinned (OpenSpec.ofChange deltacolBackWrong)

/- THE SECOND FORM. 'bulk': how many values and letters a reading holds, each counted each time it is reached (what is shared counts as often as it is met; a slice's spare places count too). A statement '..UptoSaid' is the law's where the arguments, and the package variables that the reading takes, are together of bulk at most 1048576: NARROWER than '..Said'. Prove '..Said' where nothing that the law and all that it calls make is longer than what came in: it says more and counts as full. Else prove '..UptoSaid'. A law counts once. -/
mutual
def uptoBulk {H : Type} : DataW H → Nat
  | .lit (.string bytes) => bytes.length + 1
  | .lit _ => 1
  | .nil => 1
  | .ptr d => uptoBulk d + 1
  | .slice elems spare => uptoBulkAll elems + uptoBulkAll spare + 1
  | .agg parts => uptoBulkAll parts + 1
  | .iface _ d => uptoBulk d + 1
  | .map entries => uptoBulkEntries entries + 1
  | .held _ => 1
def uptoBulkAll {H : Type} : List (DataW H) → Nat
  | [] => 0
  | d :: r => uptoBulk d + uptoBulkAll r
def uptoBulkEntries {H : Type} : List (Lit × DataW H) → Nat
  | [] => 0
  | x :: r => uptoBulkEntry x + uptoBulkEntries r
def uptoBulkEntry {H : Type} : Lit × DataW H → Nat
  | (.string bytes, d) => bytes.length + uptoBulk d + 1
  | (_, d) => uptoBulk d + 1
 end
def uptoSmall : (H : Type) → List (DataW H) → Bool := fun _ ds => decide (uptoBulkAll ds ≤ 1048576)
def OpenSpec.upto (s : _root_.Go.ChangeSpec) : _root_.Go.OpenSpec := { _root_.Go.OpenSpec.ofChange s with cond := some uptoSmall }

/-- 'lookoutlaw09.DeltacolRegular', WHERE WHAT IT READS IS OF BULK AT MOST 1048576: true; the input reads as it did. -/
def deltacolRegularUptoRow : OpenClaim := { program := "ytbihedcjcmcjaaa", sum := "44282958d9d2287c60d1cb499af678a2d00c5d74f793111b983c218dc5d3a181", func := "lookout/lookoutlaw09.DeltacolRegular", spec := "deltacolRegular", inPlace := ["internal/abi.NoEscape"], unfollowed := true, recurses := true, apart := false, narrowed := true }
def DeltacolRegularUptoSaid : Prop := deltacolRegularUptoRow.holds Try.pinned (OpenSpec.upto deltacolRegularSpec)

/-- 'lookoutlaw09.DeltacolShift', WHERE WHAT IT READS IS OF BULK AT MOST 1048576: true; the input reads as it did. -/
def deltacolShiftUptoRow : OpenClaim := { program := "ytbihedcjcmcjaaa", sum := "44282958d9d2287c60d1cb499af678a2d00c5d74f793111b983c218dc5d3a181", func := "lookout/lookoutlaw09.DeltacolShift", spec := "deltacolShift", inPlace := ["internal/abi.NoEscape"], unfollowed := true, recurses := true, apart := false, narrowed := true }
def DeltacolShiftUptoSaid : Prop := deltacolShiftUptoRow.holds Try.pinned (OpenSpec.upto deltacolShiftSpec)

/-- 'lookoutlaw09.DeltacolBack', WHERE WHAT IT READS IS OF BULK AT MOST 1048576: true; the input reads as it did. -/
def deltacolBackUptoRow : OpenClaim := { program := "ytbihedcjcmcjaaa", sum := "44282958d9d2287c60d1cb499af678a2d00c5d74f793111b983c218dc5d3a181", func := "lookout/lookoutlaw09.DeltacolBack", spec := "deltacolBack", inPlace := ["internal/abi.NoEscape"], unfollowed := true, recurses := true, apart := false, narrowed := true }
def DeltacolBackUptoSaid : Prop := deltacolBackUptoRow.holds Try.pinned (OpenSpec.upto deltacolBackSpec)

end Rows
end Go.Proofs.Ytbihedcjcmcjaaa

/-
  No cell of these rows narrows 'for every input' (looked for: loops, veiled, ifaces, maps, wideKeys, modest, calm, conditions, laid).
  DERIVED. THE GIVEN ROWS OF THIS SEAT. 7 by the template 'for every input the law returns true; each argument reads behind the call as it read before'; 0 by the template 'total and deterministic' (their statements: YtkfplnbofgiknaaTotals.lean).
  GIVEN WITH THE SEED: the statements are not yours to turn. If you find one false, say at which input.
  Laid BY PROGRAM, IN A SANDBOX (cutbox-rows.mjs): the forced cells as the released guide's own fill.sh prints them over the translation ad91aed3de194d34… (all of the seat's roots in one cut). By AI agents, Wed Nov 11 2026. No macro, syntax, notation, axiom, sorry.
-/
import Derived.Test.YtkfplnbofgiknaaChecked
import GoSem.Claim
import GoSem.ClaimJoined
import GoSem.ClaimMapViews
import Derived.JoinedTies
import Derived.KernelRfl
namespace Go.Proofs.Ytkfplnbofgiknaa
/- THE CELL 'sum', in the pinned program and in every row, IS THE sha256 OF THE DUMP (.gsa) THAT YtkfplnbofgiknaaProg.lean LOADS. Nothing in Lean hashes anything: it is a label: what it is worth is what the hold of that sum in a sandbox is worth. -/
noncomputable def Try.pinned : Pinned := { name := "ytkfplnbofgiknaa", sum := "ad91aed3de194d340cbb66ca32907dcf793045df5ac58f62a8f036b918c9b426", checked := Try.checked }
namespace Rows
def none {H : Type} : Left H := { results := [], args := [] }

/-- 'lookoutlaw50.NetworkSend': WHATEVER THE INPUT: true; the input reads as it did. -/
def networkSendSpec : ChangeSpec := { name := "networkSend", fn := fun _ => fun
  | [d1, d2, d3] => { results := [.lit (.bool true)], args := [d1, d2, d3] }
  | _ => none }
def networkSendRow : OpenClaim := { program := "ytkfplnbofgiknaa", sum := "ad91aed3de194d340cbb66ca32907dcf793045df5ac58f62a8f036b918c9b426", func := "lookout/lookoutlaw50.NetworkSend", spec := "networkSend", unfollowed := true, recurses := true, apart := false }
def NetworkSendSaid : Prop := networkSendRow.holds Try.pinned (OpenSpec.ofChange networkSendSpec)

/-- ITS FALSE NEIGHBOUR: 'it returns false'. Refute it at one input. -/
def networkSendWrong : ChangeSpec := { name := "networkSend", fn := fun _ => fun
  | [d1, d2, d3] => { results := [.lit (.bool false)], args := [d1, d2, d3] }
  | _ => none }
def NetworkSendWrongFalsely : Prop := networkSendRow.holds Try.pinned (OpenSpec.ofChange networkSendWrong)

/-- 'lookoutlaw50.NetworkStep': WHATEVER THE INPUT: true; the input reads as it did. -/
def networkStepSpec : ChangeSpec := { name := "networkStep", fn := fun _ => fun
  | [d] => { results := [.lit (.bool true)], args := [d] }
  | _ => none }
def networkStepRow : OpenClaim := { program := "ytkfplnbofgiknaa", sum := "ad91aed3de194d340cbb66ca32907dcf793045df5ac58f62a8f036b918c9b426", func := "lookout/lookoutlaw50.NetworkStep", spec := "networkStep", unfollowed := true, recurses := true, apart := false }
def NetworkStepSaid : Prop := networkStepRow.holds Try.pinned (OpenSpec.ofChange networkStepSpec)

/-- ITS FALSE NEIGHBOUR: 'it returns false'. Refute it at one input. -/
def networkStepWrong : ChangeSpec := { name := "networkStep", fn := fun _ => fun
  | [d] => { results := [.lit (.bool false)], args := [d] }
  | _ => none }
def NetworkStepWrongFalsely : Prop := networkStepRow.holds Try.pinned (OpenSpec.ofChange networkStepWrong)

/-- 'lookoutlaw50.NetworkFull': WHATEVER THE INPUT: true; the input reads as it did. -/
def networkFullSpec : ChangeSpec := { name := "networkFull", fn := fun _ => fun
  | [d1, d2, d3] => { results := [.lit (.bool true)], args := [d1, d2, d3] }
  | _ => none }
def networkFullRow : OpenClaim := { program := "ytkfplnbofgiknaa", sum := "ad91aed3de194d340cbb66ca32907dcf793045df5ac58f62a8f036b918c9b426", func := "lookout/lookoutlaw50.NetworkFull", spec := "networkFull", unfollowed := true, recurses := true, apart := false }
def NetworkFullSaid : Prop := networkFullRow.holds Try.pinned (OpenSpec.ofChange networkFullSpec)

/-- ITS FALSE NEIGHBOUR: 'it returns false'. Refute it at one input. -/
def networkFullWrong : ChangeSpec := { name := "networkFull", fn := fun _ => fun
  | [d1, d2, d3] => { results := [.lit (.bool false)], args := [d1, d2, d3] }
  | _ => none }
def NetworkFullWrongFalsely : Prop := networkFullRow.holds Try.pinned (OpenSpec.ofChange networkFullWrong)

/-- 'lookoutlaw50.NetworkEnds': WHATEVER THE INPUT: true; the input reads as it did. -/
def networkEndsSpec : ChangeSpec := { name := "networkEnds", fn := fun _ => fun
  | [d] => { results := [.lit (.bool true)], args := [d] }
  | _ => none }
def networkEndsRow : OpenClaim := { program := "ytkfplnbofgiknaa", sum := "ad91aed3de194d340cbb66ca32907dcf793045df5ac58f62a8f036b918c9b426", func := "lookout/lookoutlaw50.NetworkEnds", spec := "networkEnds", unfollowed := true, recurses := true, apart := false }
def NetworkEndsSaid : Prop := networkEndsRow.holds Try.pinned (OpenSpec.ofChange networkEndsSpec)

/-- ITS FALSE NEIGHBOUR: 'it returns false'. Refute it at one input. -/
def networkEndsWrong : ChangeSpec := { name := "networkEnds", fn := fun _ => fun
  | [d] => { results := [.lit (.bool false)], args := [d] }
  | _ => none }
def NetworkEndsWrongFalsely : Prop := networkEndsRow.holds Try.pinned (OpenSpec.ofChange networkEndsWrong)

/-- 'lookoutlaw50.NetworkHonest': WHATEVER THE INPUT: true; the input reads as it did. -/
def networkHonestSpec : ChangeSpec := { name := "networkHonest", fn := fun _ => fun
  | [d] => { results := [.lit (.bool true)], args := [d] }
  | _ => none }
def networkHonestRow : OpenClaim := { program := "ytkfplnbofgiknaa", sum := "ad91aed3de194d340cbb66ca32907dcf793045df5ac58f62a8f036b918c9b426", func := "lookout/lookoutlaw50.NetworkHonest", spec := "networkHonest", unfollowed := true, recurses := true, apart := false }
def NetworkHonestSaid : Prop := networkHonestRow.holds Try.pinned (OpenSpec.ofChange networkHonestSpec)

/-- ITS FALSE NEIGHBOUR: 'it returns false'. Refute it at one input. -/
def networkHonestWrong : ChangeSpec := { name := "networkHonest", fn := fun _ => fun
  | [d] => { results := [.lit (.bool false)], args := [d] }
  | _ => none }
def NetworkHonestWrongFalsely : Prop := networkHonestRow.holds Try.pinned (OpenSpec.ofChange networkHonestWrong)

/-- 'lookoutlaw50.NetworkDelivers': WHATEVER THE INPUT: true; the input reads as it did. -/
def networkDeliversSpec : ChangeSpec := { name := "networkDelivers", fn := fun _ => fun
  | [d1, d2, d3] => { results := [.lit (.bool true)], args := [d1, d2, d3] }
  | _ => none }
def networkDeliversRow : OpenClaim := { program := "ytkfplnbofgiknaa", sum := "ad91aed3de194d340cbb66ca32907dcf793045df5ac58f62a8f036b918c9b426", func := "lookout/lookoutlaw50.NetworkDelivers", spec := "networkDelivers", unfollowed := true, recurses := true, apart := false }
def NetworkDeliversSaid : Prop := networkDeliversRow.holds Try.pinned (OpenSpec.ofChange networkDeliversSpec)

/-- ITS FALSE NEIGHBOUR: 'it returns false'. Refute it at one input. -/
def networkDeliversWrong : ChangeSpec := { name := "networkDelivers", fn := fun _ => fun
  | [d1, d2, d3] => { results := [.lit (.bool false)], args := [d1, d2, d3] }
  | _ => none }
def NetworkDeliversWrongFalsely : Prop := networkDeliversRow.holds Try.pinned (OpenSpec.ofChange networkDeliversWrong)

/-- 'lookoutlaw50.NetworkValid': WHATEVER THE INPUT: true; the input reads as it did. -/
def networkValidSpec : ChangeSpec := { name := "networkValid", fn := fun _ => fun
  | [d1, d2] => { results := [.lit (.bool true)], args := [d1, d2] }
  | _ => none }
def networkValidRow : OpenClaim := { program := "ytkfplnbofgiknaa", sum := "ad91aed3de194d340cbb66ca32907dcf793045df5ac58f62a8f036b918c9b426", func := "lookout/lookoutlaw50.NetworkValid", spec := "networkValid", unfollowed := true, recurses := true, apart := false }
def NetworkValidSaid : Prop := networkValidRow.holds Try.pinned (OpenSpec.ofChange networkValidSpec)

/-- ITS FALSE NEIGHBOUR: 'it returns false'. Refute it at one input. -/
def networkValidWrong : ChangeSpec := { name := "networkValid", fn := fun _ => fun
  | [d1, d2] => { results := [.lit (.bool false)], args := [d1, d2] }
  | _ => none }
def NetworkValidWrongFalsely : Prop := networkValidRow.holds Try.pinned (OpenSpec.ofChange networkValidWrong)

/- THE SECOND FORM. 'bulk': how many values and letters a reading holds, each counted each time it is reached (what is shared counts as often as it is met; a slice's spare places count too). A statement '..UptoSaid' is the law's where the arguments, and the package variables that the reading takes, are together of bulk at most 1048576: NARROWER than '..Said'. Prove '..Said' where nothing that the law and all that it calls make is longer than what came in: it says more and counts as full. Else prove '..UptoSaid'. A law counts once. -/
mutual
def uptoBulk {H : Type} : DataW H → Nat
  | .lit (.string bytes) => bytes.length + 1
  | .lit _ => 1
  | .nil => 1
  | .ptr d => uptoBulk d + 1
  | .slice elems spare => uptoBulkAll elems + uptoBulkAll spare + 1
  | .agg parts => uptoBulkAll parts + 1
  | .iface _ d => uptoBulk d + 1
  | .map entries => uptoBulkEntries entries + 1
  | .held _ => 1
def uptoBulkAll {H : Type} : List (DataW H) → Nat
  | [] => 0
  | d :: r => uptoBulk d + uptoBulkAll r
def uptoBulkEntries {H : Type} : List (Lit × DataW H) → Nat
  | [] => 0
  | x :: r => uptoBulkEntry x + uptoBulkEntries r
def uptoBulkEntry {H : Type} : Lit × DataW H → Nat
  | (.string bytes, d) => bytes.length + uptoBulk d + 1
  | (_, d) => uptoBulk d + 1
 end
def uptoSmall : (H : Type) → List (DataW H) → Bool := fun _ ds => decide (uptoBulkAll ds ≤ 1048576)
def OpenSpec.upto (s : _root_.Go.ChangeSpec) : _root_.Go.OpenSpec := { _root_.Go.OpenSpec.ofChange s with cond := some uptoSmall }

/-- 'lookoutlaw50.NetworkSend', WHERE WHAT IT READS IS OF BULK AT MOST 1048576: true; the input reads as it did. -/
def networkSendUptoRow : OpenClaim := { program := "ytkfplnbofgiknaa", sum := "ad91aed3de194d340cbb66ca32907dcf793045df5ac58f62a8f036b918c9b426", func := "lookout/lookoutlaw50.NetworkSend", spec := "networkSend", unfollowed := true, recurses := true, apart := false, narrowed := true }
def NetworkSendUptoSaid : Prop := networkSendUptoRow.holds Try.pinned (OpenSpec.upto networkSendSpec)

/-- 'lookoutlaw50.NetworkStep', WHERE WHAT IT READS IS OF BULK AT MOST 1048576: true; the input reads as it did. -/
def networkStepUptoRow : OpenClaim := { program := "ytkfplnbofgiknaa", sum := "ad91aed3de194d340cbb66ca32907dcf793045df5ac58f62a8f036b918c9b426", func := "lookout/lookoutlaw50.NetworkStep", spec := "networkStep", unfollowed := true, recurses := true, apart := false, narrowed := true }
def NetworkStepUptoSaid : Prop := networkStepUptoRow.holds Try.pinned (OpenSpec.upto networkStepSpec)

/-- 'lookoutlaw50.NetworkFull', WHERE WHAT IT READS IS OF BULK AT MOST 1048576: true; the input reads as it did. -/
def networkFullUptoRow : OpenClaim := { program := "ytkfplnbofgiknaa", sum := "ad91aed3de194d340cbb66ca32907dcf793045df5ac58f62a8f036b918c9b426", func := "lookout/lookoutlaw50.NetworkFull", spec := "networkFull", unfollowed := true, recurses := true, apart := false, narrowed := true }
def NetworkFullUptoSaid : Prop := networkFullUptoRow.holds Try.pinned (OpenSpec.upto networkFullSpec)

/-- 'lookoutlaw50.NetworkEnds', WHERE WHAT IT READS IS OF BULK AT MOST 1048576: true; the input reads as it did. -/
def networkEndsUptoRow : OpenClaim := { program := "ytkfplnbofgiknaa", sum := "ad91aed3de194d340cbb66ca32907dcf793045df5ac58f62a8f036b918c9b426", func := "lookout/lookoutlaw50.NetworkEnds", spec := "networkEnds", unfollowed := true, recurses := true, apart := false, narrowed := true }
def NetworkEndsUptoSaid : Prop := networkEndsUptoRow.holds Try.pinned (OpenSpec.upto networkEndsSpec)

/-- 'lookoutlaw50.NetworkHonest', WHERE WHAT IT READS IS OF BULK AT MOST 1048576: true; the input reads as it did. -/
def networkHonestUptoRow : OpenClaim := { program := "ytkfplnbofgiknaa", sum := "ad91aed3de194d340cbb66ca32907dcf793045df5ac58f62a8f036b918c9b426", func := "lookout/lookoutlaw50.NetworkHonest", spec := "networkHonest", unfollowed := true, recurses := true, apart := false, narrowed := true }
def NetworkHonestUptoSaid : Prop := networkHonestUptoRow.holds Try.pinned (OpenSpec.upto networkHonestSpec)

/-- 'lookoutlaw50.NetworkDelivers', WHERE WHAT IT READS IS OF BULK AT MOST 1048576: true; the input reads as it did. -/
def networkDeliversUptoRow : OpenClaim := { program := "ytkfplnbofgiknaa", sum := "ad91aed3de194d340cbb66ca32907dcf793045df5ac58f62a8f036b918c9b426", func := "lookout/lookoutlaw50.NetworkDelivers", spec := "networkDelivers", unfollowed := true, recurses := true, apart := false, narrowed := true }
def NetworkDeliversUptoSaid : Prop := networkDeliversUptoRow.holds Try.pinned (OpenSpec.upto networkDeliversSpec)

/-- 'lookoutlaw50.NetworkValid', WHERE WHAT IT READS IS OF BULK AT MOST 1048576: true; the input reads as it did. -/
def networkValidUptoRow : OpenClaim := { program := "ytkfplnbofgiknaa", sum := "ad91aed3de194d340cbb66ca32907dcf793045df5ac58f62a8f036b918c9b426", func := "lookout/lookoutlaw50.NetworkValid", spec := "networkValid", unfollowed := true, recurses := true, apart := false, narrowed := true }
def NetworkValidUptoSaid : Prop := networkValidUptoRow.holds Try.pinned (OpenSpec.upto networkValidSpec)

end Rows
end Go.Proofs.Ytkfplnbofgiknaa

/-
  No cell of these rows narrows 'for every input' (looked for: loops, veiled, ifaces, maps, wideKeys, modest, calm, conditions, laid).
  DERIVED. THE GIVEN ROWS OF THIS SEAT. 7 by the template 'for every input the law returns true; each argument reads behind the call as it read before'; 0 by the template 'total and deterministic' (their statements: YthfcllfbihkpfaaTotals.lean).
  GIVEN WITH THE SEED: the statements are not yours to turn. If you find one false, say at which input.
  Laid BY PROGRAM, IN A SANDBOX (cutbox-rows.mjs): the forced cells as the released guide's own fill.sh prints them over the translation 5da91060e507e954… (all of the seat's roots in one cut). By AI agents, Wed Nov 11 2026. No macro, syntax, notation, axiom, sorry.
-/
import Derived.Test.YthfcllfbihkpfaaChecked
import GoSem.Claim
import GoSem.ClaimJoined
import GoSem.ClaimMapViews
import Derived.JoinedTies
import Derived.KernelRfl
namespace Go.Proofs.Ythfcllfbihkpfaa
/- THE CELL 'sum', in the pinned program and in every row, IS THE sha256 OF THE DUMP (.gsa) THAT YthfcllfbihkpfaaProg.lean LOADS. Nothing in Lean hashes anything: it is a label: what it is worth is what the hold of that sum in a sandbox is worth. -/
noncomputable def Try.pinned : Pinned := { name := "ythfcllfbihkpfaa", sum := "5da91060e507e9540df7b249670ebc6de6d964733bf0e2a39f905bb16cd763a7", checked := Try.checked }
namespace Rows
def none {H : Type} : Left H := { results := [], args := [] }

/-- 'lookoutlaw01.VarintRead': WHATEVER THE INPUT: true; the input reads as it did. -/
def varintReadSpec : ChangeSpec := { name := "varintRead", fn := fun _ => fun
  | [d] => { results := [.lit (.bool true)], args := [d] }
  | _ => none }
def varintReadRow : OpenClaim := { program := "ythfcllfbihkpfaa", sum := "5da91060e507e9540df7b249670ebc6de6d964733bf0e2a39f905bb16cd763a7", func := "lookout/lookoutlaw01.VarintRead", spec := "varintRead", unfollowed := true, recurses := true, apart := false }
def VarintReadSaid : Prop := varintReadRow.holds Try.pinned (OpenSpec.ofChange varintReadSpec)

/-- ITS FALSE NEIGHBOUR: 'it returns false'. Refute it at one input. -/
def varintReadWrong : ChangeSpec := { name := "varintRead", fn := fun _ => fun
  | [d] => { results := [.lit (.bool false)], args := [d] }
  | _ => none }
def VarintReadWrongFalsely : Prop := varintReadRow.holds Try.pinned (OpenSpec.ofChange varintReadWrong)

/-- 'lookoutlaw01.VarintLists': WHATEVER THE INPUT: true; the input reads as it did. -/
def varintListsSpec : ChangeSpec := { name := "varintLists", fn := fun _ => fun
  | [d1, d2] => { results := [.lit (.bool true)], args := [d1, d2] }
  | _ => none }
def varintListsRow : OpenClaim := { program := "ythfcllfbihkpfaa", sum := "5da91060e507e9540df7b249670ebc6de6d964733bf0e2a39f905bb16cd763a7", func := "lookout/lookoutlaw01.VarintLists", spec := "varintLists", unfollowed := true, recurses := true, apart := false }
def VarintListsSaid : Prop := varintListsRow.holds Try.pinned (OpenSpec.ofChange varintListsSpec)

/-- ITS FALSE NEIGHBOUR: 'it returns false'. Refute it at one input. -/
def varintListsWrong : ChangeSpec := { name := "varintLists", fn := fun _ => fun
  | [d1, d2] => { results := [.lit (.bool false)], args := [d1, d2] }
  | _ => none }
def VarintListsWrongFalsely : Prop := varintListsRow.holds Try.pinned (OpenSpec.ofChange varintListsWrong)

/-- 'lookoutlaw01.VarintCanonical': WHATEVER THE INPUT: true; the input reads as it did. -/
def varintCanonicalSpec : ChangeSpec := { name := "varintCanonical", fn := fun _ => fun
  | [d] => { results := [.lit (.bool true)], args := [d] }
  | _ => none }
def varintCanonicalRow : OpenClaim := { program := "ythfcllfbihkpfaa", sum := "5da91060e507e9540df7b249670ebc6de6d964733bf0e2a39f905bb16cd763a7", func := "lookout/lookoutlaw01.VarintCanonical", spec := "varintCanonical", unfollowed := true, recurses := true, apart := false }
def VarintCanonicalSaid : Prop := varintCanonicalRow.holds Try.pinned (OpenSpec.ofChange varintCanonicalSpec)

/-- ITS FALSE NEIGHBOUR: 'it returns false'. Refute it at one input. -/
def varintCanonicalWrong : ChangeSpec := { name := "varintCanonical", fn := fun _ => fun
  | [d] => { results := [.lit (.bool false)], args := [d] }
  | _ => none }
def VarintCanonicalWrongFalsely : Prop := varintCanonicalRow.holds Try.pinned (OpenSpec.ofChange varintCanonicalWrong)

/-- 'lookoutlaw01.VarintPrefixes': WHATEVER THE INPUT: true; the input reads as it did. -/
def varintPrefixesSpec : ChangeSpec := { name := "varintPrefixes", fn := fun _ => fun
  | [d1, d2] => { results := [.lit (.bool true)], args := [d1, d2] }
  | _ => none }
def varintPrefixesRow : OpenClaim := { program := "ythfcllfbihkpfaa", sum := "5da91060e507e9540df7b249670ebc6de6d964733bf0e2a39f905bb16cd763a7", func := "lookout/lookoutlaw01.VarintPrefixes", spec := "varintPrefixes", unfollowed := true, recurses := true, apart := false }
def VarintPrefixesSaid : Prop := varintPrefixesRow.holds Try.pinned (OpenSpec.ofChange varintPrefixesSpec)

/-- ITS FALSE NEIGHBOUR: 'it returns false'. Refute it at one input. -/
def varintPrefixesWrong : ChangeSpec := { name := "varintPrefixes", fn := fun _ => fun
  | [d1, d2] => { results := [.lit (.bool false)], args := [d1, d2] }
  | _ => none }
def VarintPrefixesWrongFalsely : Prop := varintPrefixesRow.holds Try.pinned (OpenSpec.ofChange varintPrefixesWrong)

/-- 'lookoutlaw01.VarintNumbers': WHATEVER THE INPUT: true; the input reads as it did. -/
def varintNumbersSpec : ChangeSpec := { name := "varintNumbers", fn := fun _ => fun
  | [d1, d2] => { results := [.lit (.bool true)], args := [d1, d2] }
  | _ => none }
def varintNumbersRow : OpenClaim := { program := "ythfcllfbihkpfaa", sum := "5da91060e507e9540df7b249670ebc6de6d964733bf0e2a39f905bb16cd763a7", func := "lookout/lookoutlaw01.VarintNumbers", spec := "varintNumbers", unfollowed := true, recurses := true, apart := false }
def VarintNumbersSaid : Prop := varintNumbersRow.holds Try.pinned (OpenSpec.ofChange varintNumbersSpec)

/-- ITS FALSE NEIGHBOUR: 'it returns false'. Refute it at one input. -/
def varintNumbersWrong : ChangeSpec := { name := "varintNumbers", fn := fun _ => fun
  | [d1, d2] => { results := [.lit (.bool false)], args := [d1, d2] }
  | _ => none }
def VarintNumbersWrongFalsely : Prop := varintNumbersRow.holds Try.pinned (OpenSpec.ofChange varintNumbersWrong)

/-- 'lookoutlaw01.VarintSizes': WHATEVER THE INPUT: true; the input reads as it did. -/
def varintSizesSpec : ChangeSpec := { name := "varintSizes", fn := fun _ => fun
  | [d1, d2] => { results := [.lit (.bool true)], args := [d1, d2] }
  | _ => none }
def varintSizesRow : OpenClaim := { program := "ythfcllfbihkpfaa", sum := "5da91060e507e9540df7b249670ebc6de6d964733bf0e2a39f905bb16cd763a7", func := "lookout/lookoutlaw01.VarintSizes", spec := "varintSizes", unfollowed := true, recurses := true, apart := false }
def VarintSizesSaid : Prop := varintSizesRow.holds Try.pinned (OpenSpec.ofChange varintSizesSpec)

/-- ITS FALSE NEIGHBOUR: 'it returns false'. Refute it at one input. -/
def varintSizesWrong : ChangeSpec := { name := "varintSizes", fn := fun _ => fun
  | [d1, d2] => { results := [.lit (.bool false)], args := [d1, d2] }
  | _ => none }
def VarintSizesWrongFalsely : Prop := varintSizesRow.holds Try.pinned (OpenSpec.ofChange varintSizesWrong)

/-- 'lookoutlaw01.VarintBack': WHATEVER THE INPUT: true; the input reads as it did. -/
def varintBackSpec : ChangeSpec := { name := "varintBack", fn := fun _ => fun
  | [d1, d2] => { results := [.lit (.bool true)], args := [d1, d2] }
  | _ => none }
def varintBackRow : OpenClaim := { program := "ythfcllfbihkpfaa", sum := "5da91060e507e9540df7b249670ebc6de6d964733bf0e2a39f905bb16cd763a7", func := "lookout/lookoutlaw01.VarintBack", spec := "varintBack", unfollowed := true, recurses := true, apart := false }
def VarintBackSaid : Prop := varintBackRow.holds Try.pinned (OpenSpec.ofChange varintBackSpec)

/-- ITS FALSE NEIGHBOUR: 'it returns false'. Refute it at one input. -/
def varintBackWrong : ChangeSpec := { name := "varintBack", fn := fun _ => fun
  | [d1, d2] => { results := [.lit (.bool false)], args := [d1, d2] }
  | _ => none }
def VarintBackWrongFalsely : Prop := varintBackRow.holds Try.pinned (OpenSpec.ofChange varintBackWrong)

/- THE SECOND FORM. 'bulk': how many values and letters a reading holds, each counted each time it is reached (what is shared counts as often as it is met; a slice's spare places count too). A statement '..UptoSaid' is the law's where the arguments, and the package variables that the reading takes, are together of bulk at most 1048576: NARROWER than '..Said'. Prove '..Said' where nothing that the law and all that it calls make is longer than what came in: it says more and counts as full. Else prove '..UptoSaid'. A law counts once. -/
mutual
def uptoBulk {H : Type} : DataW H → Nat
  | .lit (.string bytes) => bytes.length + 1
  | .lit _ => 1
  | .nil => 1
  | .ptr d => uptoBulk d + 1
  | .slice elems spare => uptoBulkAll elems + uptoBulkAll spare + 1
  | .agg parts => uptoBulkAll parts + 1
  | .iface _ d => uptoBulk d + 1
  | .map entries => uptoBulkEntries entries + 1
  | .held _ => 1
def uptoBulkAll {H : Type} : List (DataW H) → Nat
  | [] => 0
  | d :: r => uptoBulk d + uptoBulkAll r
def uptoBulkEntries {H : Type} : List (Lit × DataW H) → Nat
  | [] => 0
  | x :: r => uptoBulkEntry x + uptoBulkEntries r
def uptoBulkEntry {H : Type} : Lit × DataW H → Nat
  | (.string bytes, d) => bytes.length + uptoBulk d + 1
  | (_, d) => uptoBulk d + 1
 end
def uptoSmall : (H : Type) → List (DataW H) → Bool := fun _ ds => decide (uptoBulkAll ds ≤ 1048576)
def OpenSpec.upto (s : _root_.Go.ChangeSpec) : _root_.Go.OpenSpec := { _root_.Go.OpenSpec.ofChange s with cond := some uptoSmall }

/-- 'lookoutlaw01.VarintRead', WHERE WHAT IT READS IS OF BULK AT MOST 1048576: true; the input reads as it did. -/
def varintReadUptoRow : OpenClaim := { program := "ythfcllfbihkpfaa", sum := "5da91060e507e9540df7b249670ebc6de6d964733bf0e2a39f905bb16cd763a7", func := "lookout/lookoutlaw01.VarintRead", spec := "varintRead", unfollowed := true, recurses := true, apart := false, narrowed := true }
def VarintReadUptoSaid : Prop := varintReadUptoRow.holds Try.pinned (OpenSpec.upto varintReadSpec)

/-- 'lookoutlaw01.VarintLists', WHERE WHAT IT READS IS OF BULK AT MOST 1048576: true; the input reads as it did. -/
def varintListsUptoRow : OpenClaim := { program := "ythfcllfbihkpfaa", sum := "5da91060e507e9540df7b249670ebc6de6d964733bf0e2a39f905bb16cd763a7", func := "lookout/lookoutlaw01.VarintLists", spec := "varintLists", unfollowed := true, recurses := true, apart := false, narrowed := true }
def VarintListsUptoSaid : Prop := varintListsUptoRow.holds Try.pinned (OpenSpec.upto varintListsSpec)

/-- 'lookoutlaw01.VarintCanonical', WHERE WHAT IT READS IS OF BULK AT MOST 1048576: true; the input reads as it did. -/
def varintCanonicalUptoRow : OpenClaim := { program := "ythfcllfbihkpfaa", sum := "5da91060e507e9540df7b249670ebc6de6d964733bf0e2a39f905bb16cd763a7", func := "lookout/lookoutlaw01.VarintCanonical", spec := "varintCanonical", unfollowed := true, recurses := true, apart := false, narrowed := true }
def VarintCanonicalUptoSaid : Prop := varintCanonicalUptoRow.holds Try.pinned (OpenSpec.upto varintCanonicalSpec)

/-- 'lookoutlaw01.VarintPrefixes', WHERE WHAT IT READS IS OF BULK AT MOST 1048576: true; the input reads as it did. -/
def varintPrefixesUptoRow : OpenClaim := { program := "ythfcllfbihkpfaa", sum := "5da91060e507e9540df7b249670ebc6de6d964733bf0e2a39f905bb16cd763a7", func := "lookout/lookoutlaw01.VarintPrefixes", spec := "varintPrefixes", unfollowed := true, recurses := true, apart := false, narrowed := true }
def VarintPrefixesUptoSaid : Prop := varintPrefixesUptoRow.holds Try.pinned (OpenSpec.upto varintPrefixesSpec)

/-- 'lookoutlaw01.VarintNumbers', WHERE WHAT IT READS IS OF BULK AT MOST 1048576: true; the input reads as it did. -/
def varintNumbersUptoRow : OpenClaim := { program := "ythfcllfbihkpfaa", sum := "5da91060e507e9540df7b249670ebc6de6d964733bf0e2a39f905bb16cd763a7", func := "lookout/lookoutlaw01.VarintNumbers", spec := "varintNumbers", unfollowed := true, recurses := true, apart := false, narrowed := true }
def VarintNumbersUptoSaid : Prop := varintNumbersUptoRow.holds Try.pinned (OpenSpec.upto varintNumbersSpec)

/-- 'lookoutlaw01.VarintSizes', WHERE WHAT IT READS IS OF BULK AT MOST 1048576: true; the input reads as it did. -/
def varintSizesUptoRow : OpenClaim := { program := "ythfcllfbihkpfaa", sum := "5da91060e507e9540df7b249670ebc6de6d964733bf0e2a39f905bb16cd763a7", func := "lookout/lookoutlaw01.VarintSizes", spec := "varintSizes", unfollowed := true, recurses := true, apart := false, narrowed := true }
def VarintSizesUptoSaid : Prop := varintSizesUptoRow.holds Try.pinned (OpenSpec.upto varintSizesSpec)

/-- 'lookoutlaw01.VarintBack', WHERE WHAT IT READS IS OF BULK AT MOST 1048576: true; the input reads as it did. -/
def varintBackUptoRow : OpenClaim := { program := "ythfcllfbihkpfaa", sum := "5da91060e507e9540df7b249670ebc6de6d964733bf0e2a39f905bb16cd763a7", func := "lookout/lookoutlaw01.VarintBack", spec := "varintBack", unfollowed := true, recurses := true, apart := false, narrowed := true }
def VarintBackUptoSaid : Prop := varintBackUptoRow.holds Try.pinned (OpenSpec.upto varintBackSpec)

end Rows
end Go.Proofs.Ythfcllfbihkpfaa

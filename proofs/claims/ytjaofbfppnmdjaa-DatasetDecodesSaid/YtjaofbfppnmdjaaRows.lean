/-
  NARROWER THAN 'FOR EVERY INPUT', by the rows' own cells (each row's printed sentence says how): DatasetDecodes: loops.
  DERIVED. THE GIVEN ROWS OF THIS SEAT. 12 by the template 'for every input the law returns true; each argument reads behind the call as it read before'; 0 by the template 'total and deterministic' (their statements: YtjaofbfppnmdjaaTotals.lean).
  GIVEN WITH THE SEED: the statements are not yours to turn. If you find one false, say at which input.
  Laid BY PROGRAM, IN A SANDBOX (cutbox-rows.mjs): the forced cells as the released guide's own fill.sh prints them over the translation 89887422f7ca0b16… (all of the seat's roots in one cut). By AI agents, Wed Nov 11 2026. No macro, syntax, notation, axiom, sorry.
-/
import Derived.Test.YtjaofbfppnmdjaaChecked
import GoSem.Claim
import GoSem.ClaimJoined
import GoSem.ClaimMapViews
import Derived.JoinedTies
import Derived.KernelRfl
namespace Go.Proofs.Ytjaofbfppnmdjaa
/- THE CELL 'sum', in the pinned program and in every row, IS THE sha256 OF THE DUMP (.gsa) THAT YtjaofbfppnmdjaaProg.lean LOADS. Nothing in Lean hashes anything: it is a label: what it is worth is what the hold of that sum in a sandbox is worth. -/
noncomputable def Try.pinned : Pinned := { name := "ytjaofbfppnmdjaa", sum := "89887422f7ca0b16621c4231bc9b4a3b0bd8ba2ebf8aeff4821122ca1f767a82", checked := Try.checked }
namespace Rows
def none {H : Type} : Left H := { results := [], args := [] }

/-- 'substationlaw11.DatasetEncodes': WHATEVER THE INPUT: true; the input reads as it did. -/
def datasetEncodesSpec : ChangeSpec := { name := "datasetEncodes", fn := fun _ => fun
  | [d] => { results := [.lit (.bool true)], args := [d] }
  | _ => none }
def datasetEncodesRow : OpenClaim := { program := "ytjaofbfppnmdjaa", sum := "89887422f7ca0b16621c4231bc9b4a3b0bd8ba2ebf8aeff4821122ca1f767a82", func := "substation/substationlaw11.DatasetEncodes", spec := "datasetEncodes", unfollowed := true, recurses := true, apart := false }
def DatasetEncodesSaid : Prop := datasetEncodesRow.holds Try.pinned (OpenSpec.ofChange datasetEncodesSpec)

/-- ITS FALSE NEIGHBOUR: 'it returns false'. Refute it at one input. -/
def datasetEncodesWrong : ChangeSpec := { name := "datasetEncodes", fn := fun _ => fun
  | [d] => { results := [.lit (.bool false)], args := [d] }
  | _ => none }
def DatasetEncodesWrongFalsely : Prop := datasetEncodesRow.holds Try.pinned (OpenSpec.ofChange datasetEncodesWrong)

/-- 'substationlaw11.DatasetIntegers': WHATEVER THE INPUT: true; the input reads as it did. -/
def datasetIntegersSpec : ChangeSpec := { name := "datasetIntegers", fn := fun _ => fun
  | [d] => { results := [.lit (.bool true)], args := [d] }
  | _ => none }
def datasetIntegersRow : OpenClaim := { program := "ytjaofbfppnmdjaa", sum := "89887422f7ca0b16621c4231bc9b4a3b0bd8ba2ebf8aeff4821122ca1f767a82", func := "substation/substationlaw11.DatasetIntegers", spec := "datasetIntegers", unfollowed := true, recurses := true, apart := false }
def DatasetIntegersSaid : Prop := datasetIntegersRow.holds Try.pinned (OpenSpec.ofChange datasetIntegersSpec)

/-- ITS FALSE NEIGHBOUR: 'it returns false'. Refute it at one input. -/
def datasetIntegersWrong : ChangeSpec := { name := "datasetIntegers", fn := fun _ => fun
  | [d] => { results := [.lit (.bool false)], args := [d] }
  | _ => none }
def DatasetIntegersWrongFalsely : Prop := datasetIntegersRow.holds Try.pinned (OpenSpec.ofChange datasetIntegersWrong)

/-- 'substationlaw11.DatasetBits': WHATEVER THE INPUT: true; the input reads as it did. -/
def datasetBitsSpec : ChangeSpec := { name := "datasetBits", fn := fun _ => fun
  | [d] => { results := [.lit (.bool true)], args := [d] }
  | _ => none }
def datasetBitsRow : OpenClaim := { program := "ytjaofbfppnmdjaa", sum := "89887422f7ca0b16621c4231bc9b4a3b0bd8ba2ebf8aeff4821122ca1f767a82", func := "substation/substationlaw11.DatasetBits", spec := "datasetBits", unfollowed := true, recurses := true, apart := false }
def DatasetBitsSaid : Prop := datasetBitsRow.holds Try.pinned (OpenSpec.ofChange datasetBitsSpec)

/-- ITS FALSE NEIGHBOUR: 'it returns false'. Refute it at one input. -/
def datasetBitsWrong : ChangeSpec := { name := "datasetBits", fn := fun _ => fun
  | [d] => { results := [.lit (.bool false)], args := [d] }
  | _ => none }
def DatasetBitsWrongFalsely : Prop := datasetBitsRow.holds Try.pinned (OpenSpec.ofChange datasetBitsWrong)

/-- 'substationlaw11.DatasetChecks': WHATEVER THE INPUT: true; the input reads as it did. -/
def datasetChecksSpec : ChangeSpec := { name := "datasetChecks", fn := fun _ => fun
  | [d1, d2, d3] => { results := [.lit (.bool true)], args := [d1, d2, d3] }
  | _ => none }
def datasetChecksRow : OpenClaim := { program := "ytjaofbfppnmdjaa", sum := "89887422f7ca0b16621c4231bc9b4a3b0bd8ba2ebf8aeff4821122ca1f767a82", func := "substation/substationlaw11.DatasetChecks", spec := "datasetChecks", unfollowed := true, recurses := true, apart := false }
def DatasetChecksSaid : Prop := datasetChecksRow.holds Try.pinned (OpenSpec.ofChange datasetChecksSpec)

/-- ITS FALSE NEIGHBOUR: 'it returns false'. Refute it at one input. -/
def datasetChecksWrong : ChangeSpec := { name := "datasetChecks", fn := fun _ => fun
  | [d1, d2, d3] => { results := [.lit (.bool false)], args := [d1, d2, d3] }
  | _ => none }
def DatasetChecksWrongFalsely : Prop := datasetChecksRow.holds Try.pinned (OpenSpec.ofChange datasetChecksWrong)

/-- 'substationlaw11.DatasetDecodes': WHATEVER THE INPUT: true; the input reads as it did. -/
def datasetDecodesSpec : ChangeSpec := { name := "datasetDecodes", fn := fun _ => fun
  | [d1, d2] => { results := [.lit (.bool true)], args := [d1, d2] }
  | _ => none }
def datasetDecodesRow : OpenClaim := { program := "ytjaofbfppnmdjaa", sum := "89887422f7ca0b16621c4231bc9b4a3b0bd8ba2ebf8aeff4821122ca1f767a82", func := "substation/substationlaw11.DatasetDecodes", spec := "datasetDecodes", unfollowed := true, recurses := true, loops := true, apart := false }
def DatasetDecodesSaid : Prop := datasetDecodesRow.holds Try.pinned (OpenSpec.ofChange datasetDecodesSpec)

/-- ITS FALSE NEIGHBOUR: 'it returns false'. Refute it at one input. -/
def datasetDecodesWrong : ChangeSpec := { name := "datasetDecodes", fn := fun _ => fun
  | [d1, d2] => { results := [.lit (.bool false)], args := [d1, d2] }
  | _ => none }
def DatasetDecodesWrongFalsely : Prop := datasetDecodesRow.holds Try.pinned (OpenSpec.ofChange datasetDecodesWrong)

/-- 'substationlaw11.DatasetRoundTrip': WHATEVER THE INPUT: true; the input reads as it did. -/
def datasetRoundTripSpec : ChangeSpec := { name := "datasetRoundTrip", fn := fun _ => fun
  | [d] => { results := [.lit (.bool true)], args := [d] }
  | _ => none }
def datasetRoundTripRow : OpenClaim := { program := "ytjaofbfppnmdjaa", sum := "89887422f7ca0b16621c4231bc9b4a3b0bd8ba2ebf8aeff4821122ca1f767a82", func := "substation/substationlaw11.DatasetRoundTrip", spec := "datasetRoundTrip", unfollowed := true, recurses := true, apart := false }
def DatasetRoundTripSaid : Prop := datasetRoundTripRow.holds Try.pinned (OpenSpec.ofChange datasetRoundTripSpec)

/-- ITS FALSE NEIGHBOUR: 'it returns false'. Refute it at one input. -/
def datasetRoundTripWrong : ChangeSpec := { name := "datasetRoundTrip", fn := fun _ => fun
  | [d] => { results := [.lit (.bool false)], args := [d] }
  | _ => none }
def DatasetRoundTripWrongFalsely : Prop := datasetRoundTripRow.holds Try.pinned (OpenSpec.ofChange datasetRoundTripWrong)

/-- 'substationlaw11.DatasetCanonical': WHATEVER THE INPUT: true; the input reads as it did. -/
def datasetCanonicalSpec : ChangeSpec := { name := "datasetCanonical", fn := fun _ => fun
  | [d] => { results := [.lit (.bool true)], args := [d] }
  | _ => none }
def datasetCanonicalRow : OpenClaim := { program := "ytjaofbfppnmdjaa", sum := "89887422f7ca0b16621c4231bc9b4a3b0bd8ba2ebf8aeff4821122ca1f767a82", func := "substation/substationlaw11.DatasetCanonical", spec := "datasetCanonical", unfollowed := true, recurses := true, apart := false }
def DatasetCanonicalSaid : Prop := datasetCanonicalRow.holds Try.pinned (OpenSpec.ofChange datasetCanonicalSpec)

/-- ITS FALSE NEIGHBOUR: 'it returns false'. Refute it at one input. -/
def datasetCanonicalWrong : ChangeSpec := { name := "datasetCanonical", fn := fun _ => fun
  | [d] => { results := [.lit (.bool false)], args := [d] }
  | _ => none }
def DatasetCanonicalWrongFalsely : Prop := datasetCanonicalRow.holds Try.pinned (OpenSpec.ofChange datasetCanonicalWrong)

/-- 'substationlaw12.MessageEncodes': WHATEVER THE INPUT: true; the input reads as it did. -/
def messageEncodesSpec : ChangeSpec := { name := "messageEncodes", fn := fun _ => fun
  | [d] => { results := [.lit (.bool true)], args := [d] }
  | _ => none }
def messageEncodesRow : OpenClaim := { program := "ytjaofbfppnmdjaa", sum := "89887422f7ca0b16621c4231bc9b4a3b0bd8ba2ebf8aeff4821122ca1f767a82", func := "substation/substationlaw12.MessageEncodes", spec := "messageEncodes", unfollowed := true, recurses := true, apart := false }
def MessageEncodesSaid : Prop := messageEncodesRow.holds Try.pinned (OpenSpec.ofChange messageEncodesSpec)

/-- ITS FALSE NEIGHBOUR: 'it returns false'. Refute it at one input. -/
def messageEncodesWrong : ChangeSpec := { name := "messageEncodes", fn := fun _ => fun
  | [d] => { results := [.lit (.bool false)], args := [d] }
  | _ => none }
def MessageEncodesWrongFalsely : Prop := messageEncodesRow.holds Try.pinned (OpenSpec.ofChange messageEncodesWrong)

/-- 'substationlaw12.MessageChecks': WHATEVER THE INPUT: true; the input reads as it did. -/
def messageChecksSpec : ChangeSpec := { name := "messageChecks", fn := fun _ => fun
  | [d1, d2] => { results := [.lit (.bool true)], args := [d1, d2] }
  | _ => none }
def messageChecksRow : OpenClaim := { program := "ytjaofbfppnmdjaa", sum := "89887422f7ca0b16621c4231bc9b4a3b0bd8ba2ebf8aeff4821122ca1f767a82", func := "substation/substationlaw12.MessageChecks", spec := "messageChecks", unfollowed := true, recurses := true, apart := false }
def MessageChecksSaid : Prop := messageChecksRow.holds Try.pinned (OpenSpec.ofChange messageChecksSpec)

/-- ITS FALSE NEIGHBOUR: 'it returns false'. Refute it at one input. -/
def messageChecksWrong : ChangeSpec := { name := "messageChecks", fn := fun _ => fun
  | [d1, d2] => { results := [.lit (.bool false)], args := [d1, d2] }
  | _ => none }
def MessageChecksWrongFalsely : Prop := messageChecksRow.holds Try.pinned (OpenSpec.ofChange messageChecksWrong)

/-- 'substationlaw12.MessageFields': WHATEVER THE INPUT: true; the input reads as it did. -/
def messageFieldsSpec : ChangeSpec := { name := "messageFields", fn := fun _ => fun
  | [d1, d2] => { results := [.lit (.bool true)], args := [d1, d2] }
  | _ => none }
def messageFieldsRow : OpenClaim := { program := "ytjaofbfppnmdjaa", sum := "89887422f7ca0b16621c4231bc9b4a3b0bd8ba2ebf8aeff4821122ca1f767a82", func := "substation/substationlaw12.MessageFields", spec := "messageFields", unfollowed := true, recurses := true, apart := false }
def MessageFieldsSaid : Prop := messageFieldsRow.holds Try.pinned (OpenSpec.ofChange messageFieldsSpec)

/-- ITS FALSE NEIGHBOUR: 'it returns false'. Refute it at one input. -/
def messageFieldsWrong : ChangeSpec := { name := "messageFields", fn := fun _ => fun
  | [d1, d2] => { results := [.lit (.bool false)], args := [d1, d2] }
  | _ => none }
def MessageFieldsWrongFalsely : Prop := messageFieldsRow.holds Try.pinned (OpenSpec.ofChange messageFieldsWrong)

/-- 'substationlaw12.MessageNodes': WHATEVER THE INPUT: true; the input reads as it did. -/
def messageNodesSpec : ChangeSpec := { name := "messageNodes", fn := fun _ => fun
  | [d] => { results := [.lit (.bool true)], args := [d] }
  | _ => none }
def messageNodesRow : OpenClaim := { program := "ytjaofbfppnmdjaa", sum := "89887422f7ca0b16621c4231bc9b4a3b0bd8ba2ebf8aeff4821122ca1f767a82", func := "substation/substationlaw12.MessageNodes", spec := "messageNodes", unfollowed := true, recurses := true, apart := false }
def MessageNodesSaid : Prop := messageNodesRow.holds Try.pinned (OpenSpec.ofChange messageNodesSpec)

/-- ITS FALSE NEIGHBOUR: 'it returns false'. Refute it at one input. -/
def messageNodesWrong : ChangeSpec := { name := "messageNodes", fn := fun _ => fun
  | [d] => { results := [.lit (.bool false)], args := [d] }
  | _ => none }
def MessageNodesWrongFalsely : Prop := messageNodesRow.holds Try.pinned (OpenSpec.ofChange messageNodesWrong)

/-- 'substationlaw12.MessageRoundTrip': WHATEVER THE INPUT: true; the input reads as it did. -/
def messageRoundTripSpec : ChangeSpec := { name := "messageRoundTrip", fn := fun _ => fun
  | [d1, d2] => { results := [.lit (.bool true)], args := [d1, d2] }
  | _ => none }
def messageRoundTripRow : OpenClaim := { program := "ytjaofbfppnmdjaa", sum := "89887422f7ca0b16621c4231bc9b4a3b0bd8ba2ebf8aeff4821122ca1f767a82", func := "substation/substationlaw12.MessageRoundTrip", spec := "messageRoundTrip", unfollowed := true, recurses := true, apart := false }
def MessageRoundTripSaid : Prop := messageRoundTripRow.holds Try.pinned (OpenSpec.ofChange messageRoundTripSpec)

/-- ITS FALSE NEIGHBOUR: 'it returns false'. Refute it at one input. -/
def messageRoundTripWrong : ChangeSpec := { name := "messageRoundTrip", fn := fun _ => fun
  | [d1, d2] => { results := [.lit (.bool false)], args := [d1, d2] }
  | _ => none }
def MessageRoundTripWrongFalsely : Prop := messageRoundTripRow.holds Try.pinned (OpenSpec.ofChange messageRoundTripWrong)

/- THE SECOND FORM. 'bulk': how many values and letters a reading holds, each counted each time it is reached (what is shared counts as often as it is met; a slice's spare places count too). A statement '..UptoSaid' is the law's where the arguments, and the package variables that the reading takes, are together of bulk at most 1048576: NARROWER than '..Said'. Prove '..Said' where nothing that the law and all that it calls make is longer than what came in: it says more and counts as full. Else prove '..UptoSaid'. A law counts once. -/
mutual
def uptoBulk {H : Type} : DataW H → Nat
  | .lit (.string bytes) => bytes.length + 1
  | .lit _ => 1
  | .nil => 1
  | .ptr d => uptoBulk d + 1
  | .slice elems spare => uptoBulkAll elems + uptoBulkAll spare + 1
  | .agg parts => uptoBulkAll parts + 1
  | .iface _ d => uptoBulk d + 1
  | .map entries => uptoBulkEntries entries + 1
  | .held _ => 1
def uptoBulkAll {H : Type} : List (DataW H) → Nat
  | [] => 0
  | d :: r => uptoBulk d + uptoBulkAll r
def uptoBulkEntries {H : Type} : List (Lit × DataW H) → Nat
  | [] => 0
  | x :: r => uptoBulkEntry x + uptoBulkEntries r
def uptoBulkEntry {H : Type} : Lit × DataW H → Nat
  | (.string bytes, d) => bytes.length + uptoBulk d + 1
  | (_, d) => uptoBulk d + 1
 end
def uptoSmall : (H : Type) → List (DataW H) → Bool := fun _ ds => decide (uptoBulkAll ds ≤ 1048576)
def OpenSpec.upto (s : _root_.Go.ChangeSpec) : _root_.Go.OpenSpec := { _root_.Go.OpenSpec.ofChange s with cond := some uptoSmall }

/-- 'substationlaw11.DatasetEncodes', WHERE WHAT IT READS IS OF BULK AT MOST 1048576: true; the input reads as it did. -/
def datasetEncodesUptoRow : OpenClaim := { program := "ytjaofbfppnmdjaa", sum := "89887422f7ca0b16621c4231bc9b4a3b0bd8ba2ebf8aeff4821122ca1f767a82", func := "substation/substationlaw11.DatasetEncodes", spec := "datasetEncodes", unfollowed := true, recurses := true, apart := false, narrowed := true }
def DatasetEncodesUptoSaid : Prop := datasetEncodesUptoRow.holds Try.pinned (OpenSpec.upto datasetEncodesSpec)

/-- 'substationlaw11.DatasetIntegers', WHERE WHAT IT READS IS OF BULK AT MOST 1048576: true; the input reads as it did. -/
def datasetIntegersUptoRow : OpenClaim := { program := "ytjaofbfppnmdjaa", sum := "89887422f7ca0b16621c4231bc9b4a3b0bd8ba2ebf8aeff4821122ca1f767a82", func := "substation/substationlaw11.DatasetIntegers", spec := "datasetIntegers", unfollowed := true, recurses := true, apart := false, narrowed := true }
def DatasetIntegersUptoSaid : Prop := datasetIntegersUptoRow.holds Try.pinned (OpenSpec.upto datasetIntegersSpec)

/-- 'substationlaw11.DatasetBits', WHERE WHAT IT READS IS OF BULK AT MOST 1048576: true; the input reads as it did. -/
def datasetBitsUptoRow : OpenClaim := { program := "ytjaofbfppnmdjaa", sum := "89887422f7ca0b16621c4231bc9b4a3b0bd8ba2ebf8aeff4821122ca1f767a82", func := "substation/substationlaw11.DatasetBits", spec := "datasetBits", unfollowed := true, recurses := true, apart := false, narrowed := true }
def DatasetBitsUptoSaid : Prop := datasetBitsUptoRow.holds Try.pinned (OpenSpec.upto datasetBitsSpec)

/-- 'substationlaw11.DatasetChecks', WHERE WHAT IT READS IS OF BULK AT MOST 1048576: true; the input reads as it did. -/
def datasetChecksUptoRow : OpenClaim := { program := "ytjaofbfppnmdjaa", sum := "89887422f7ca0b16621c4231bc9b4a3b0bd8ba2ebf8aeff4821122ca1f767a82", func := "substation/substationlaw11.DatasetChecks", spec := "datasetChecks", unfollowed := true, recurses := true, apart := false, narrowed := true }
def DatasetChecksUptoSaid : Prop := datasetChecksUptoRow.holds Try.pinned (OpenSpec.upto datasetChecksSpec)

/-- 'substationlaw11.DatasetDecodes', WHERE WHAT IT READS IS OF BULK AT MOST 1048576: true; the input reads as it did. -/
def datasetDecodesUptoRow : OpenClaim := { program := "ytjaofbfppnmdjaa", sum := "89887422f7ca0b16621c4231bc9b4a3b0bd8ba2ebf8aeff4821122ca1f767a82", func := "substation/substationlaw11.DatasetDecodes", spec := "datasetDecodes", unfollowed := true, recurses := true, loops := true, apart := false, narrowed := true }
def DatasetDecodesUptoSaid : Prop := datasetDecodesUptoRow.holds Try.pinned (OpenSpec.upto datasetDecodesSpec)

/-- 'substationlaw11.DatasetRoundTrip', WHERE WHAT IT READS IS OF BULK AT MOST 1048576: true; the input reads as it did. -/
def datasetRoundTripUptoRow : OpenClaim := { program := "ytjaofbfppnmdjaa", sum := "89887422f7ca0b16621c4231bc9b4a3b0bd8ba2ebf8aeff4821122ca1f767a82", func := "substation/substationlaw11.DatasetRoundTrip", spec := "datasetRoundTrip", unfollowed := true, recurses := true, apart := false, narrowed := true }
def DatasetRoundTripUptoSaid : Prop := datasetRoundTripUptoRow.holds Try.pinned (OpenSpec.upto datasetRoundTripSpec)

/-- 'substationlaw11.DatasetCanonical', WHERE WHAT IT READS IS OF BULK AT MOST 1048576: true; the input reads as it did. -/
def datasetCanonicalUptoRow : OpenClaim := { program := "ytjaofbfppnmdjaa", sum := "89887422f7ca0b16621c4231bc9b4a3b0bd8ba2ebf8aeff4821122ca1f767a82", func := "substation/substationlaw11.DatasetCanonical", spec := "datasetCanonical", unfollowed := true, recurses := true, apart := false, narrowed := true }
def DatasetCanonicalUptoSaid : Prop := datasetCanonicalUptoRow.holds Try.pinned (OpenSpec.upto datasetCanonicalSpec)

/-- 'substationlaw12.MessageEncodes', WHERE WHAT IT READS IS OF BULK AT MOST 1048576: true; the input reads as it did. -/
def messageEncodesUptoRow : OpenClaim := { program := "ytjaofbfppnmdjaa", sum := "89887422f7ca0b16621c4231bc9b4a3b0bd8ba2ebf8aeff4821122ca1f767a82", func := "substation/substationlaw12.MessageEncodes", spec := "messageEncodes", unfollowed := true, recurses := true, apart := false, narrowed := true }
def MessageEncodesUptoSaid : Prop := messageEncodesUptoRow.holds Try.pinned (OpenSpec.upto messageEncodesSpec)

/-- 'substationlaw12.MessageChecks', WHERE WHAT IT READS IS OF BULK AT MOST 1048576: true; the input reads as it did. -/
def messageChecksUptoRow : OpenClaim := { program := "ytjaofbfppnmdjaa", sum := "89887422f7ca0b16621c4231bc9b4a3b0bd8ba2ebf8aeff4821122ca1f767a82", func := "substation/substationlaw12.MessageChecks", spec := "messageChecks", unfollowed := true, recurses := true, apart := false, narrowed := true }
def MessageChecksUptoSaid : Prop := messageChecksUptoRow.holds Try.pinned (OpenSpec.upto messageChecksSpec)

/-- 'substationlaw12.MessageFields', WHERE WHAT IT READS IS OF BULK AT MOST 1048576: true; the input reads as it did. -/
def messageFieldsUptoRow : OpenClaim := { program := "ytjaofbfppnmdjaa", sum := "89887422f7ca0b16621c4231bc9b4a3b0bd8ba2ebf8aeff4821122ca1f767a82", func := "substation/substationlaw12.MessageFields", spec := "messageFields", unfollowed := true, recurses := true, apart := false, narrowed := true }
def MessageFieldsUptoSaid : Prop := messageFieldsUptoRow.holds Try.pinned (OpenSpec.upto messageFieldsSpec)

/-- 'substationlaw12.MessageNodes', WHERE WHAT IT READS IS OF BULK AT MOST 1048576: true; the input reads as it did. -/
def messageNodesUptoRow : OpenClaim := { program := "ytjaofbfppnmdjaa", sum := "89887422f7ca0b16621c4231bc9b4a3b0bd8ba2ebf8aeff4821122ca1f767a82", func := "substation/substationlaw12.MessageNodes", spec := "messageNodes", unfollowed := true, recurses := true, apart := false, narrowed := true }
def MessageNodesUptoSaid : Prop := messageNodesUptoRow.holds Try.pinned (OpenSpec.upto messageNodesSpec)

/-- 'substationlaw12.MessageRoundTrip', WHERE WHAT IT READS IS OF BULK AT MOST 1048576: true; the input reads as it did. -/
def messageRoundTripUptoRow : OpenClaim := { program := "ytjaofbfppnmdjaa", sum := "89887422f7ca0b16621c4231bc9b4a3b0bd8ba2ebf8aeff4821122ca1f767a82", func := "substation/substationlaw12.MessageRoundTrip", spec := "messageRoundTrip", unfollowed := true, recurses := true, apart := false, narrowed := true }
def MessageRoundTripUptoSaid : Prop := messageRoundTripUptoRow.holds Try.pinned (OpenSpec.upto messageRoundTripSpec)

end Rows
end Go.Proofs.Ytjaofbfppnmdjaa

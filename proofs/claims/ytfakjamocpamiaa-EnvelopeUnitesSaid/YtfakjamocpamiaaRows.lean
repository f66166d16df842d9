/-
  No cell of these rows narrows 'for every input' (looked for: loops, veiled, ifaces, maps, wideKeys, modest, calm, conditions, laid).
  DERIVED. THE GIVEN ROWS OF THIS SEAT. 6 by the template 'for every input the law returns true; each argument reads behind the call as it read before'; 0 by the template 'total and deterministic' (their statements: YtfakjamocpamiaaTotals.lean).
  GIVEN WITH THE SEED: the statements are not yours to turn. If you find one false, say at which input.
  Laid BY PROGRAM, IN A SANDBOX (cutbox-rows.mjs): the forced cells as the released guide's own fill.sh prints them over the translation 2dd5d348d5613159… (all of the seat's roots in one cut). By AI agents, Wed Nov 11 2026. No macro, syntax, notation, axiom, sorry.
-/
import Derived.Test.YtfakjamocpamiaaChecked
import GoSem.Claim
import GoSem.ClaimJoined
import GoSem.ClaimMapViews
import Derived.JoinedTies
import Derived.KernelRfl
namespace Go.Proofs.Ytfakjamocpamiaa
/- THE CELL 'sum', in the pinned program and in every row, IS THE sha256 OF THE DUMP (.gsa) THAT YtfakjamocpamiaaProg.lean LOADS. Nothing in Lean hashes anything: it is a label: what it is worth is what the hold of that sum in a sandbox is worth. -/
noncomputable def Try.pinned : Pinned := { name := "ytfakjamocpamiaa", sum := "2dd5d348d56131597a8a43c86499156dae610c461915a5c0c1211fe8b9e8d96c", checked := Try.checked }
namespace Rows
def none {H : Type} : Left H := { results := [], args := [] }

/-- 'admissionlaw10.EnvelopeValid': WHATEVER THE INPUT: true; the input reads as it did. -/
def envelopeValidSpec : ChangeSpec := { name := "envelopeValid", fn := fun _ => fun
  | [d1, d2] => { results := [.lit (.bool true)], args := [d1, d2] }
  | _ => none }
def envelopeValidRow : OpenClaim := { program := "ytfakjamocpamiaa", sum := "2dd5d348d56131597a8a43c86499156dae610c461915a5c0c1211fe8b9e8d96c", func := "admission/admissionlaw10.EnvelopeValid", spec := "envelopeValid", inPlace := ["internal/bytealg.Compare", "slices.overlaps[admission/api.KeySignature]"], unfollowed := true, recurses := true, apart := false }
def EnvelopeValidSaid : Prop := envelopeValidRow.holds Try.pinned (OpenSpec.ofChange envelopeValidSpec)

/-- ITS FALSE NEIGHBOUR: 'it returns false'. Refute it at one input. -/
def envelopeValidWrong : ChangeSpec := { name := "envelopeValid", fn := fun _ => fun
  | [d1, d2] => { results := [.lit (.bool false)], args := [d1, d2] }
  | _ => none }
def EnvelopeValidWrongFalsely : Prop := envelopeValidRow.holds Try.pinned (OpenSpec.ofChange envelopeValidWrong)

/-- 'admissionlaw10.EnvelopeMessages': WHATEVER THE INPUT: true; the input reads as it did. -/
def envelopeMessagesSpec : ChangeSpec := { name := "envelopeMessages", fn := fun _ => fun
  | [d1, d2] => { results := [.lit (.bool true)], args := [d1, d2] }
  | _ => none }
def envelopeMessagesRow : OpenClaim := { program := "ytfakjamocpamiaa", sum := "2dd5d348d56131597a8a43c86499156dae610c461915a5c0c1211fe8b9e8d96c", func := "admission/admissionlaw10.EnvelopeMessages", spec := "envelopeMessages", inPlace := ["internal/bytealg.Compare", "slices.overlaps[admission/api.KeySignature]"], unfollowed := true, recurses := true, apart := false }
def EnvelopeMessagesSaid : Prop := envelopeMessagesRow.holds Try.pinned (OpenSpec.ofChange envelopeMessagesSpec)

/-- ITS FALSE NEIGHBOUR: 'it returns false'. Refute it at one input. -/
def envelopeMessagesWrong : ChangeSpec := { name := "envelopeMessages", fn := fun _ => fun
  | [d1, d2] => { results := [.lit (.bool false)], args := [d1, d2] }
  | _ => none }
def EnvelopeMessagesWrongFalsely : Prop := envelopeMessagesRow.holds Try.pinned (OpenSpec.ofChange envelopeMessagesWrong)

/-- 'admissionlaw10.EnvelopeSigns': WHATEVER THE INPUT: true; the input reads as it did. -/
def envelopeSignsSpec : ChangeSpec := { name := "envelopeSigns", fn := fun _ => fun
  | [d1, d2, d3] => { results := [.lit (.bool true)], args := [d1, d2, d3] }
  | _ => none }
def envelopeSignsRow : OpenClaim := { program := "ytfakjamocpamiaa", sum := "2dd5d348d56131597a8a43c86499156dae610c461915a5c0c1211fe8b9e8d96c", func := "admission/admissionlaw10.EnvelopeSigns", spec := "envelopeSigns", inPlace := ["internal/bytealg.Compare", "slices.overlaps[admission/api.KeySignature]"], unfollowed := true, recurses := true, apart := false }
def EnvelopeSignsSaid : Prop := envelopeSignsRow.holds Try.pinned (OpenSpec.ofChange envelopeSignsSpec)

/-- ITS FALSE NEIGHBOUR: 'it returns false'. Refute it at one input. -/
def envelopeSignsWrong : ChangeSpec := { name := "envelopeSigns", fn := fun _ => fun
  | [d1, d2, d3] => { results := [.lit (.bool false)], args := [d1, d2, d3] }
  | _ => none }
def EnvelopeSignsWrongFalsely : Prop := envelopeSignsRow.holds Try.pinned (OpenSpec.ofChange envelopeSignsWrong)

/-- 'admissionlaw10.EnvelopeCounts': WHATEVER THE INPUT: true; the input reads as it did. -/
def envelopeCountsSpec : ChangeSpec := { name := "envelopeCounts", fn := fun _ => fun
  | [d1, d2] => { results := [.lit (.bool true)], args := [d1, d2] }
  | _ => none }
def envelopeCountsRow : OpenClaim := { program := "ytfakjamocpamiaa", sum := "2dd5d348d56131597a8a43c86499156dae610c461915a5c0c1211fe8b9e8d96c", func := "admission/admissionlaw10.EnvelopeCounts", spec := "envelopeCounts", inPlace := ["internal/bytealg.Compare", "slices.overlaps[admission/api.KeySignature]"], unfollowed := true, recurses := true, apart := false }
def EnvelopeCountsSaid : Prop := envelopeCountsRow.holds Try.pinned (OpenSpec.ofChange envelopeCountsSpec)

/-- ITS FALSE NEIGHBOUR: 'it returns false'. Refute it at one input. -/
def envelopeCountsWrong : ChangeSpec := { name := "envelopeCounts", fn := fun _ => fun
  | [d1, d2] => { results := [.lit (.bool false)], args := [d1, d2] }
  | _ => none }
def EnvelopeCountsWrongFalsely : Prop := envelopeCountsRow.holds Try.pinned (OpenSpec.ofChange envelopeCountsWrong)

/-- 'admissionlaw10.EnvelopeJoins': WHATEVER THE INPUT: true; the input reads as it did. -/
def envelopeJoinsSpec : ChangeSpec := { name := "envelopeJoins", fn := fun _ => fun
  | [d1, d2, d3] => { results := [.lit (.bool true)], args := [d1, d2, d3] }
  | _ => none }
def envelopeJoinsRow : OpenClaim := { program := "ytfakjamocpamiaa", sum := "2dd5d348d56131597a8a43c86499156dae610c461915a5c0c1211fe8b9e8d96c", func := "admission/admissionlaw10.EnvelopeJoins", spec := "envelopeJoins", inPlace := ["internal/bytealg.Compare", "slices.overlaps[admission/api.KeySignature]"], unfollowed := true, recurses := true, apart := false }
def EnvelopeJoinsSaid : Prop := envelopeJoinsRow.holds Try.pinned (OpenSpec.ofChange envelopeJoinsSpec)

/-- ITS FALSE NEIGHBOUR: 'it returns false'. Refute it at one input. -/
def envelopeJoinsWrong : ChangeSpec := { name := "envelopeJoins", fn := fun _ => fun
  | [d1, d2, d3] => { results := [.lit (.bool false)], args := [d1, d2, d3] }
  | _ => none }
def EnvelopeJoinsWrongFalsely : Prop := envelopeJoinsRow.holds Try.pinned (OpenSpec.ofChange envelopeJoinsWrong)

/-- 'admissionlaw10.EnvelopeUnites': WHATEVER THE INPUT: true; the input reads as it did. -/
def envelopeUnitesSpec : ChangeSpec := { name := "envelopeUnites", fn := fun _ => fun
  | [d1, d2] => { results := [.lit (.bool true)], args := [d1, d2] }
  | _ => none }
def envelopeUnitesRow : OpenClaim := { program := "ytfakjamocpamiaa", sum := "2dd5d348d56131597a8a43c86499156dae610c461915a5c0c1211fe8b9e8d96c", func := "admission/admissionlaw10.EnvelopeUnites", spec := "envelopeUnites", inPlace := ["internal/bytealg.Compare", "slices.overlaps[admission/api.KeySignature]"], unfollowed := true, recurses := true, apart := false }
def EnvelopeUnitesSaid : Prop := envelopeUnitesRow.holds Try.pinned (OpenSpec.ofChange envelopeUnitesSpec)

/-- ITS FALSE NEIGHBOUR: 'it returns false'. Refute it at one input. -/
def envelopeUnitesWrong : ChangeSpec := { name := "envelopeUnites", fn := fun _ => fun
  | [d1, d2] => { results := [.lit (.bool false)], args := [d1, d2] }
  | _ => none }
def EnvelopeUnitesWrongFalsely : Prop := envelopeUnitesRow.holds Try.pinned (OpenSpec.ofChange envelopeUnitesWrong)

/- THE SECOND FORM. 'bulk': how many values and letters a reading holds, each counted each time it is reached (what is shared counts as often as it is met; a slice's spare places count too). A statement '..UptoSaid' is the law's where the arguments, and the package variables that the reading takes, are together of bulk at most 1048576: NARROWER than '..Said'. Prove '..Said' where nothing that the law and all that it calls make is longer than what came in: it says more and counts as full. Else prove '..UptoSaid'. A law counts once. -/
mutual
def uptoBulk {H : Type} : DataW H → Nat
  | .lit (.string bytes) => bytes.length + 1
  | .lit _ => 1
  | .nil => 1
  | .ptr d => uptoBulk d + 1
  | .slice elems spare => uptoBulkAll elems + uptoBulkAll spare + 1
  | .agg parts => uptoBulkAll parts + 1
  | .iface _ d => uptoBulk d + 1
  | .map entries => uptoBulkEntries entries + 1
  | .held _ => 1
def uptoBulkAll {H : Type} : List (DataW H) → Nat
  | [] => 0
  | d :: r => uptoBulk d + uptoBulkAll r
def uptoBulkEntries {H : Type} : List (Lit × DataW H) → Nat
  | [] => 0
  | x :: r => uptoBulkEntry x + uptoBulkEntries r
def uptoBulkEntry {H : Type} : Lit × DataW H → Nat
  | (.string bytes, d) => bytes.length + uptoBulk d + 1
  | (_, d) => uptoBulk d + 1
 end
def uptoSmall : (H : Type) → List (DataW H) → Bool := fun _ ds => decide (uptoBulkAll ds ≤ 1048576)
def OpenSpec.upto (s : _root_.Go.ChangeSpec) : _root_.Go.OpenSpec := { _root_.Go.OpenSpec.ofChange s with cond := some uptoSmall }

/-- 'admissionlaw10.EnvelopeValid', WHERE WHAT IT READS IS OF BULK AT MOST 1048576: true; the input reads as it did. -/
def envelopeValidUptoRow : OpenClaim := { program := "ytfakjamocpamiaa", sum := "2dd5d348d56131597a8a43c86499156dae610c461915a5c0c1211fe8b9e8d96c", func := "admission/admissionlaw10.EnvelopeValid", spec := "envelopeValid", inPlace := ["internal/bytealg.Compare", "slices.overlaps[admission/api.KeySignature]"], unfollowed := true, recurses := true, apart := false, narrowed := true }
def EnvelopeValidUptoSaid : Prop := envelopeValidUptoRow.holds Try.pinned (OpenSpec.upto envelopeValidSpec)

/-- 'admissionlaw10.EnvelopeMessages', WHERE WHAT IT READS IS OF BULK AT MOST 1048576: true; the input reads as it did. -/
def envelopeMessagesUptoRow : OpenClaim := { program := "ytfakjamocpamiaa", sum := "2dd5d348d56131597a8a43c86499156dae610c461915a5c0c1211fe8b9e8d96c", func := "admission/admissionlaw10.EnvelopeMessages", spec := "envelopeMessages", inPlace := ["internal/bytealg.Compare", "slices.overlaps[admission/api.KeySignature]"], unfollowed := true, recurses := true, apart := false, narrowed := true }
def EnvelopeMessagesUptoSaid : Prop := envelopeMessagesUptoRow.holds Try.pinned (OpenSpec.upto envelopeMessagesSpec)

/-- 'admissionlaw10.EnvelopeSigns', WHERE WHAT IT READS IS OF BULK AT MOST 1048576: true; the input reads as it did. -/
def envelopeSignsUptoRow : OpenClaim := { program := "ytfakjamocpamiaa", sum := "2dd5d348d56131597a8a43c86499156dae610c461915a5c0c1211fe8b9e8d96c", func := "admission/admissionlaw10.EnvelopeSigns", spec := "envelopeSigns", inPlace := ["internal/bytealg.Compare", "slices.overlaps[admission/api.KeySignature]"], unfollowed := true, recurses := true, apart := false, narrowed := true }
def EnvelopeSignsUptoSaid : Prop := envelopeSignsUptoRow.holds Try.pinned (OpenSpec.upto envelopeSignsSpec)

/-- 'admissionlaw10.EnvelopeCounts', WHERE WHAT IT READS IS OF BULK AT MOST 1048576: true; the input reads as it did. -/
def envelopeCountsUptoRow : OpenClaim := { program := "ytfakjamocpamiaa", sum := "2dd5d348d56131597a8a43c86499156dae610c461915a5c0c1211fe8b9e8d96c", func := "admission/admissionlaw10.EnvelopeCounts", spec := "envelopeCounts", inPlace := ["internal/bytealg.Compare", "slices.overlaps[admission/api.KeySignature]"], unfollowed := true, recurses := true, apart := false, narrowed := true }
def EnvelopeCountsUptoSaid : Prop := envelopeCountsUptoRow.holds Try.pinned (OpenSpec.upto envelopeCountsSpec)

/-- 'admissionlaw10.EnvelopeJoins', WHERE WHAT IT READS IS OF BULK AT MOST 1048576: true; the input reads as it did. -/
def envelopeJoinsUptoRow : OpenClaim := { program := "ytfakjamocpamiaa", sum := "2dd5d348d56131597a8a43c86499156dae610c461915a5c0c1211fe8b9e8d96c", func := "admission/admissionlaw10.EnvelopeJoins", spec := "envelopeJoins", inPlace := ["internal/bytealg.Compare", "slices.overlaps[admission/api.KeySignature]"], unfollowed := true, recurses := true, apart := false, narrowed := true }
def EnvelopeJoinsUptoSaid : Prop := envelopeJoinsUptoRow.holds Try.pinned (OpenSpec.upto envelopeJoinsSpec)

/-- 'admissionlaw10.EnvelopeUnites', WHERE WHAT IT READS IS OF BULK AT MOST 1048576: true; the input reads as it did. -/
def envelopeUnitesUptoRow : OpenClaim := { program := "ytfakjamocpamiaa", sum := "2dd5d348d56131597a8a43c86499156dae610c461915a5c0c1211fe8b9e8d96c", func := "admission/admissionlaw10.EnvelopeUnites", spec := "envelopeUnites", inPlace := ["internal/bytealg.Compare", "slices.overlaps[admission/api.KeySignature]"], unfollowed := true, recurses := true, apart := false, narrowed := true }
def EnvelopeUnitesUptoSaid : Prop := envelopeUnitesUptoRow.holds Try.pinned (OpenSpec.upto envelopeUnitesSpec)

end Rows
end Go.Proofs.Ytfakjamocpamiaa

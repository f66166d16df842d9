/-
  DERIVED. GIVEN WITH THE SEED: THE CARDS: each row of YtjdinakdkdjocaaGreatDoorRows.lean that lists a variable, with what it lists TIED to the program's text (the seventh form; the later family's looks); each row that meets fmt, with fmt's text TOLD by the authors' own Lean function (tested against real Go, not proved from fmt's source: count such statements apart). THE CARD IS WHAT COUNTS. Prove the row's statement (the work); the ties are given (YtjdinakdkdjocaaGreatDoorTie.lean); close each card by the builder's one call (the guide's Derived/Test/ToyasCard.lean, 'card_holds'). Laid BY PROGRAM, IN A SANDBOX (cutbox-door.mjs). By AI agents, Wed Nov 11 2026. No macro, syntax, notation, axiom, sorry.
-/
import Derived.Test.YtjdinakdkdjocaaGreatDoorRows
import GoSem.ClaimSeven
namespace Go.Proofs.YtjdinakdkdjocaaGreatDoor
namespace Rows

/-- THE TIED CARD OF 'admissionlaw12.RecordDecodes'. -/
def recordDecodesCard : Claim7 := { stood := { row := recordDecodesRow, standIns := [], harness := (true, "b5b05279559dd9e9549ce53c797167f451922059ea6cbb98639fcf9413fbe1d4"), looks := false }, kinds := [], alts := [], laidByText := true, laidKinds := [.data, .data, .data, .data, .pinned], laidTests := true, laidLooks := .later }
def RecordDecodesCardSaid : Prop := Claim7.holds Tryz.pinned (.plain (OpenSpec.ofChange recordDecodesSpec)) recordDecodesCard

/-- THE TIED CARD OF 'admissionlaw12.RecordBack'. -/
def recordBackCard : Claim7 := { stood := { row := recordBackRow, standIns := [], harness := (true, "b5b05279559dd9e9549ce53c797167f451922059ea6cbb98639fcf9413fbe1d4"), looks := false }, kinds := [], alts := [], laidByText := true, laidKinds := [.data, .data, .data, .data, .pinned], laidTests := true, laidLooks := .later }
def RecordBackCardSaid : Prop := Claim7.holds Tryz.pinned (.plain (OpenSpec.ofChange recordBackSpec)) recordBackCard

/-- THE SECOND FORM's CARD OF 'admissionlaw12.RecordDecodes'. -/
def recordDecodesUptoCard : Claim7 := { stood := { row := recordDecodesUptoRow, standIns := [], harness := (true, "b5b05279559dd9e9549ce53c797167f451922059ea6cbb98639fcf9413fbe1d4"), looks := false }, kinds := [], alts := [], laidByText := true, laidKinds := [.data, .data, .data, .data, .pinned], laidTests := true, laidLooks := .later }
def RecordDecodesUptoCardSaid : Prop := Claim7.holds Tryz.pinned (.plain (OpenSpec.upto recordDecodesSpec)) recordDecodesUptoCard

/-- THE SECOND FORM's CARD OF 'admissionlaw12.RecordBack'. -/
def recordBackUptoCard : Claim7 := { stood := { row := recordBackUptoRow, standIns := [], harness := (true, "b5b05279559dd9e9549ce53c797167f451922059ea6cbb98639fcf9413fbe1d4"), looks := false }, kinds := [], alts := [], laidByText := true, laidKinds := [.data, .data, .data, .data, .pinned], laidTests := true, laidLooks := .later }
def RecordBackUptoCardSaid : Prop := Claim7.holds Tryz.pinned (.plain (OpenSpec.upto recordBackSpec)) recordBackUptoCard
end Rows
end Go.Proofs.YtjdinakdkdjocaaGreatDoor

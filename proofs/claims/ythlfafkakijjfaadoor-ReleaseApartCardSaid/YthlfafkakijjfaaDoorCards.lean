/-
  DERIVED. GIVEN WITH THE SEED: THE CARDS: each row of YthlfafkakijjfaaDoorRows.lean that lists a variable, with what it lists TIED to the program's text (the seventh form; the later family's looks); each row that meets fmt, with fmt's text TOLD by the authors' own Lean function (tested against real Go, not proved from fmt's source: count such statements apart). THE CARD IS WHAT COUNTS. Prove the row's statement (the work); the ties are given (YthlfafkakijjfaaDoorTie.lean); close each card by the builder's one call (the guide's Derived/Test/ToyasCard.lean, 'card_holds'). Laid BY PROGRAM, IN A SANDBOX (cutbox-door.mjs). By AI agents, Wed Nov 11 2026. No macro, syntax, notation, axiom, sorry.
-/
import Derived.Test.YthlfafkakijjfaaDoorRows
import GoSem.ClaimSeven
namespace Go.Proofs.YthlfafkakijjfaaDoor
namespace Rows

/-- THE TIED CARD OF 'admissionlaw20.ReleaseApart'. -/
def releaseApartCard : Claim7 := { stood := { row := releaseApartRow, standIns := [], harness := (true, "e9a064469cefa51f7125247b39005cca7294954a150f8c647264e7b0fbf7be9e"), looks := false }, kinds := [], alts := [], laidByText := true, laidKinds := [.data, .data, .data, .data, .pinned], laidTests := true, laidLooks := .later }
def ReleaseApartCardSaid : Prop := Claim7.holds Tryd.pinned (.plain (OpenSpec.ofChange releaseApartSpec)) releaseApartCard

/-- THE TIED CARD OF 'admissionlaw20.ReleaseApprovals'. -/
def releaseApprovalsCard : Claim7 := { stood := { row := releaseApprovalsRow, standIns := [], harness := (true, "e9a064469cefa51f7125247b39005cca7294954a150f8c647264e7b0fbf7be9e"), looks := false }, kinds := [], alts := [], laidByText := true, laidKinds := [.data, .data, .data, .data, .pinned], laidTests := true, laidLooks := .later }
def ReleaseApprovalsCardSaid : Prop := Claim7.holds Tryd.pinned (.plain (OpenSpec.ofChange releaseApprovalsSpec)) releaseApprovalsCard

/-- THE SECOND FORM's CARD OF 'admissionlaw20.ReleaseApart'. -/
def releaseApartUptoCard : Claim7 := { stood := { row := releaseApartUptoRow, standIns := [], harness := (true, "e9a064469cefa51f7125247b39005cca7294954a150f8c647264e7b0fbf7be9e"), looks := false }, kinds := [], alts := [], laidByText := true, laidKinds := [.data, .data, .data, .data, .pinned], laidTests := true, laidLooks := .later }
def ReleaseApartUptoCardSaid : Prop := Claim7.holds Tryd.pinned (.plain (OpenSpec.upto releaseApartSpec)) releaseApartUptoCard

/-- THE SECOND FORM's CARD OF 'admissionlaw20.ReleaseApprovals'. -/
def releaseApprovalsUptoCard : Claim7 := { stood := { row := releaseApprovalsUptoRow, standIns := [], harness := (true, "e9a064469cefa51f7125247b39005cca7294954a150f8c647264e7b0fbf7be9e"), looks := false }, kinds := [], alts := [], laidByText := true, laidKinds := [.data, .data, .data, .data, .pinned], laidTests := true, laidLooks := .later }
def ReleaseApprovalsUptoCardSaid : Prop := Claim7.holds Tryd.pinned (.plain (OpenSpec.upto releaseApprovalsSpec)) releaseApprovalsUptoCard
end Rows
end Go.Proofs.YthlfafkakijjfaaDoor

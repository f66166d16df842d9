/-
  DERIVED. GIVEN WITH THE SEED: THE CARDS: each row of YtegedapiefdljaaDoorRows.lean that lists a variable, with what it lists TIED to the program's text (the seventh form; the later family's looks); each row that meets fmt, with fmt's text TOLD by the authors' own Lean function (tested against real Go, not proved from fmt's source: count such statements apart). THE CARD IS WHAT COUNTS. Prove the row's statement (the work); the ties are given (YtegedapiefdljaaDoorTie.lean); close each card by the builder's one call (the guide's Derived/Test/ToyasCard.lean, 'card_holds'). Laid BY PROGRAM, IN A SANDBOX (cutbox-door.mjs). By AI agents, Wed Nov 11 2026. No macro, syntax, notation, axiom, sorry.
-/
import Derived.Test.YtegedapiefdljaaDoorRows
import GoSem.ClaimSeven
namespace Go.Proofs.YtegedapiefdljaaDoor
namespace Rows

/-- THE TIED CARD OF 'admissionlaw02.DocumentBack'. -/
def documentBackCard : Claim7 := { stood := { row := documentBackRow, standIns := [], harness := (true, "50e0e26082bec6a7c6506467dcbd9c42700c12f3a0bfd9534e823837f88d4540"), looks := false }, kinds := [], alts := [], laidByText := true, laidKinds := [.data, .pinned], laidTests := true, laidLooks := .later }
def DocumentBackCardSaid : Prop := Claim7.holds Tryd.pinned (.plain (OpenSpec.ofChange documentBackSpec)) documentBackCard

/-- THE TIED CARD OF 'admissionlaw02.DocumentDecodes'. -/
def documentDecodesCard : Claim7 := { stood := { row := documentDecodesRow, standIns := [], harness := (true, "50e0e26082bec6a7c6506467dcbd9c42700c12f3a0bfd9534e823837f88d4540"), looks := false }, kinds := [], alts := [], laidByText := true, laidKinds := [.data, .pinned], laidTests := true, laidLooks := .later }
def DocumentDecodesCardSaid : Prop := Claim7.holds Tryd.pinned (.plain (OpenSpec.ofChange documentDecodesSpec)) documentDecodesCard

/-- THE SECOND FORM's CARD OF 'admissionlaw02.DocumentBack'. -/
def documentBackUptoCard : Claim7 := { stood := { row := documentBackUptoRow, standIns := [], harness := (true, "50e0e26082bec6a7c6506467dcbd9c42700c12f3a0bfd9534e823837f88d4540"), looks := false }, kinds := [], alts := [], laidByText := true, laidKinds := [.data, .pinned], laidTests := true, laidLooks := .later }
def DocumentBackUptoCardSaid : Prop := Claim7.holds Tryd.pinned (.plain (OpenSpec.upto documentBackSpec)) documentBackUptoCard

/-- THE SECOND FORM's CARD OF 'admissionlaw02.DocumentDecodes'. -/
def documentDecodesUptoCard : Claim7 := { stood := { row := documentDecodesUptoRow, standIns := [], harness := (true, "50e0e26082bec6a7c6506467dcbd9c42700c12f3a0bfd9534e823837f88d4540"), looks := false }, kinds := [], alts := [], laidByText := true, laidKinds := [.data, .pinned], laidTests := true, laidLooks := .later }
def DocumentDecodesUptoCardSaid : Prop := Claim7.holds Tryd.pinned (.plain (OpenSpec.upto documentDecodesSpec)) documentDecodesUptoCard
end Rows
end Go.Proofs.YtegedapiefdljaaDoor

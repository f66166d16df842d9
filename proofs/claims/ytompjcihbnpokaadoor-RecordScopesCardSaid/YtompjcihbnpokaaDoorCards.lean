/-
  DERIVED. GIVEN WITH THE SEED: THE CARDS: each row of YtompjcihbnpokaaDoorRows.lean that lists a variable, with what it lists TIED to the program's text (the seventh form; the later family's looks); each row that meets fmt, with fmt's text TOLD by the authors' own Lean function (tested against real Go, not proved from fmt's source: count such statements apart). THE CARD IS WHAT COUNTS. Prove the row's statement (the work); the ties are given (YtompjcihbnpokaaDoorTie.lean); close each card by the builder's one call (the guide's Derived/Test/ToyasCard.lean, 'card_holds'). Laid BY PROGRAM, IN A SANDBOX (cutbox-door.mjs). By AI agents, Wed Nov 11 2026. No macro, syntax, notation, axiom, sorry.
-/
import Derived.Test.YtompjcihbnpokaaDoorRows
import GoSem.ClaimSeven
namespace Go.Proofs.YtompjcihbnpokaaDoor
namespace Rows

/-- THE TIED CARD OF 'admissionlaw12.RecordScopes'. -/
def recordScopesCard : Claim7 := { stood := { row := recordScopesRow, standIns := [], harness := (true, "d30b747471de3badf4acbd6aceb6fbb2ab4686c8081c88b3e82bd5b749fcca53"), looks := false }, kinds := [], alts := [], laidByText := true, laidKinds := [.data, .data, .data, .data, .pinned], laidTests := true, laidLooks := .later }
def RecordScopesCardSaid : Prop := Claim7.holds Tryd.pinned (.plain (OpenSpec.ofChange recordScopesSpec)) recordScopesCard

/-- THE SECOND FORM's CARD OF 'admissionlaw12.RecordScopes'. -/
def recordScopesUptoCard : Claim7 := { stood := { row := recordScopesUptoRow, standIns := [], harness := (true, "d30b747471de3badf4acbd6aceb6fbb2ab4686c8081c88b3e82bd5b749fcca53"), looks := false }, kinds := [], alts := [], laidByText := true, laidKinds := [.data, .data, .data, .data, .pinned], laidTests := true, laidLooks := .later }
def RecordScopesUptoCardSaid : Prop := Claim7.holds Tryd.pinned (.plain (OpenSpec.upto recordScopesSpec)) recordScopesUptoCard
end Rows
end Go.Proofs.YtompjcihbnpokaaDoor

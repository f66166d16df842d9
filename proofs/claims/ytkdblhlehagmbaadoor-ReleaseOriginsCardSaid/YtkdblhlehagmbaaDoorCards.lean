/-
  DERIVED. GIVEN WITH THE SEED: THE CARDS: each row of YtkdblhlehagmbaaDoorRows.lean that lists a variable, with what it lists TIED to the program's text (the seventh form; the later family's looks); each row that meets fmt, with fmt's text TOLD by the authors' own Lean function (tested against real Go, not proved from fmt's source: count such statements apart). THE CARD IS WHAT COUNTS. Prove the row's statement (the work); the ties are given (YtkdblhlehagmbaaDoorTie.lean); close each card by the builder's one call (the guide's Derived/Test/ToyasCard.lean, 'card_holds'). Laid BY PROGRAM, IN A SANDBOX (cutbox-door.mjs). By AI agents, Wed Nov 11 2026. No macro, syntax, notation, axiom, sorry.
-/
import Derived.Test.YtkdblhlehagmbaaDoorRows
import GoSem.ClaimSeven
namespace Go.Proofs.YtkdblhlehagmbaaDoor
namespace Rows

/-- THE TIED CARD OF 'admissionlaw20.ReleaseOrigins'. -/
def releaseOriginsCard : Claim7 := { stood := { row := releaseOriginsRow, standIns := [], harness := (true, "e52898cf90033b01b878f609bcf8e0474382a2055160549e957a0c012ce2c2da"), looks := false }, kinds := [], alts := [], laidByText := true, laidKinds := [.data, .data, .data], laidTests := true, laidLooks := .later }
def ReleaseOriginsCardSaid : Prop := Claim7.holds Tryd.pinned (.plain (OpenSpec.ofChange releaseOriginsSpec)) releaseOriginsCard

/-- THE SECOND FORM's CARD OF 'admissionlaw20.ReleaseOrigins'. -/
def releaseOriginsUptoCard : Claim7 := { stood := { row := releaseOriginsUptoRow, standIns := [], harness := (true, "e52898cf90033b01b878f609bcf8e0474382a2055160549e957a0c012ce2c2da"), looks := false }, kinds := [], alts := [], laidByText := true, laidKinds := [.data, .data, .data], laidTests := true, laidLooks := .later }
def ReleaseOriginsUptoCardSaid : Prop := Claim7.holds Tryd.pinned (.plain (OpenSpec.upto releaseOriginsSpec)) releaseOriginsUptoCard
end Rows
end Go.Proofs.YtkdblhlehagmbaaDoor

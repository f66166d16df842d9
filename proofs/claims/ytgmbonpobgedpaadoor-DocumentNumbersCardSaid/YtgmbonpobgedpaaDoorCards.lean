/-
  DERIVED. GIVEN WITH THE SEED: THE CARDS: each row of YtgmbonpobgedpaaDoorRows.lean that lists a variable, with what it lists TIED to the program's text (the seventh form; the later family's looks); each row that meets fmt, with fmt's text TOLD by the authors' own Lean function (tested against real Go, not proved from fmt's source: count such statements apart). THE CARD IS WHAT COUNTS. Prove the row's statement (the work); the ties are given (YtgmbonpobgedpaaDoorTie.lean); close each card by the builder's one call (the guide's Derived/Test/ToyasCard.lean, 'card_holds'). Laid BY PROGRAM, IN A SANDBOX (cutbox-door.mjs). By AI agents, Wed Nov 11 2026. No macro, syntax, notation, axiom, sorry.
-/
import Derived.Test.YtgmbonpobgedpaaDoorRows
import GoSem.ClaimSeven
namespace Go.Proofs.YtgmbonpobgedpaaDoor
namespace Rows

/-- THE TIED CARD OF 'admissionlaw02.DocumentNumbers'. -/
def documentNumbersCard : Claim7 := { stood := { row := documentNumbersRow, standIns := [], harness := (true, "606318d4830a1408a50e5cb4ff53b2ddc9fb5361d12c6350a21611a62a7f3004"), looks := false }, kinds := [], alts := [], laidByText := true, laidKinds := [.data, .data, .data], laidTests := true, laidLooks := .later }
def DocumentNumbersCardSaid : Prop := Claim7.holds Tryd.pinned (.plain (OpenSpec.ofChange documentNumbersSpec)) documentNumbersCard

/-- THE SECOND FORM's CARD OF 'admissionlaw02.DocumentNumbers'. -/
def documentNumbersUptoCard : Claim7 := { stood := { row := documentNumbersUptoRow, standIns := [], harness := (true, "606318d4830a1408a50e5cb4ff53b2ddc9fb5361d12c6350a21611a62a7f3004"), looks := false }, kinds := [], alts := [], laidByText := true, laidKinds := [.data, .data, .data], laidTests := true, laidLooks := .later }
def DocumentNumbersUptoCardSaid : Prop := Claim7.holds Tryd.pinned (.plain (OpenSpec.upto documentNumbersSpec)) documentNumbersUptoCard
end Rows
end Go.Proofs.YtgmbonpobgedpaaDoor

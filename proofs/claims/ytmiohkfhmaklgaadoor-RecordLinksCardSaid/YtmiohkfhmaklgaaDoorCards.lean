/-
  DERIVED. GIVEN WITH THE SEED: THE CARDS: each row of YtmiohkfhmaklgaaDoorRows.lean that lists a variable, with what it lists TIED to the program's text (the seventh form; the later family's looks); each row that meets fmt, with fmt's text TOLD by the authors' own Lean function (tested against real Go, not proved from fmt's source: count such statements apart). THE CARD IS WHAT COUNTS. Prove the row's statement (the work); the ties are given (YtmiohkfhmaklgaaDoorTie.lean); close each card by the builder's one call (the guide's Derived/Test/ToyasCard.lean, 'card_holds'). Laid BY PROGRAM, IN A SANDBOX (cutbox-door.mjs). By AI agents, Wed Nov 11 2026. No macro, syntax, notation, axiom, sorry.
-/
import Derived.Test.YtmiohkfhmaklgaaDoorRows
import GoSem.ClaimSeven
namespace Go.Proofs.YtmiohkfhmaklgaaDoor
namespace Rows

/-- THE TIED CARD OF 'admissionlaw12.RecordLinks'. -/
def recordLinksCard : Claim7 := { stood := { row := recordLinksRow, standIns := [], harness := (true, "cd910a8af7e553adef12fc7cc4d8e5285988cb9e6f3caa795918ece224cf32f6"), looks := false }, kinds := [], alts := [], laidByText := true, laidKinds := [.data, .data, .data, .data, .pinned], laidTests := true, laidLooks := .later }
def RecordLinksCardSaid : Prop := Claim7.holds Tryd.pinned (.plain (OpenSpec.ofChange recordLinksSpec)) recordLinksCard

/-- THE SECOND FORM's CARD OF 'admissionlaw12.RecordLinks'. -/
def recordLinksUptoCard : Claim7 := { stood := { row := recordLinksUptoRow, standIns := [], harness := (true, "cd910a8af7e553adef12fc7cc4d8e5285988cb9e6f3caa795918ece224cf32f6"), looks := false }, kinds := [], alts := [], laidByText := true, laidKinds := [.data, .data, .data, .data, .pinned], laidTests := true, laidLooks := .later }
def RecordLinksUptoCardSaid : Prop := Claim7.holds Tryd.pinned (.plain (OpenSpec.upto recordLinksSpec)) recordLinksUptoCard
end Rows
end Go.Proofs.YtmiohkfhmaklgaaDoor

/-
  DERIVED. GIVEN WITH THE SEED: THE CARDS: each row of YtkcmaembpfakdaaDoorRows.lean that lists a variable, with what it lists TIED to the program's text (the seventh form; the later family's looks); each row that meets fmt, with fmt's text TOLD by the authors' own Lean function (tested against real Go, not proved from fmt's source: count such statements apart). THE CARD IS WHAT COUNTS. Prove the row's statement (the work); the ties are given (YtkcmaembpfakdaaDoorTie.lean); close each card by the builder's one call (the guide's Derived/Test/ToyasCard.lean, 'card_holds'). Laid BY PROGRAM, IN A SANDBOX (cutbox-door.mjs). By AI agents, Wed Nov 11 2026. No macro, syntax, notation, axiom, sorry.
-/
import Derived.Test.YtkcmaembpfakdaaDoorRows
import GoSem.ClaimSeven
namespace Go.Proofs.YtkcmaembpfakdaaDoor
namespace Rows

/-- THE TIED CARD OF 'admissionlaw05.StoreLinks'. -/
def storeLinksCard : Claim7 := { stood := { row := storeLinksRow, standIns := [], harness := (true, "c25ca59c6280437529b52ff6947ed5e1266cfc3c878bf6582a30b1ac15a38e7e"), looks := false }, kinds := [], alts := [], laidByText := true, laidKinds := [.data, .pinned], laidTests := true, laidLooks := .later }
def StoreLinksCardSaid : Prop := Claim7.holds Tryd.pinned (.plain (OpenSpec.ofChange storeLinksSpec)) storeLinksCard

/-- THE SECOND FORM's CARD OF 'admissionlaw05.StoreLinks'. -/
def storeLinksUptoCard : Claim7 := { stood := { row := storeLinksUptoRow, standIns := [], harness := (true, "c25ca59c6280437529b52ff6947ed5e1266cfc3c878bf6582a30b1ac15a38e7e"), looks := false }, kinds := [], alts := [], laidByText := true, laidKinds := [.data, .pinned], laidTests := true, laidLooks := .later }
def StoreLinksUptoCardSaid : Prop := Claim7.holds Tryd.pinned (.plain (OpenSpec.upto storeLinksSpec)) storeLinksUptoCard
end Rows
end Go.Proofs.YtkcmaembpfakdaaDoor

/-
  DERIVED. GIVEN WITH THE SEED: THE CARDS: each row of YtkcmaembpfakdaaGreatDoorRows.lean that lists a variable, with what it lists TIED to the program's text (the seventh form; the later family's looks); each row that meets fmt, with fmt's text TOLD by the authors' own Lean function (tested against real Go, not proved from fmt's source: count such statements apart). THE CARD IS WHAT COUNTS. Prove the row's statement (the work); the ties are given (YtkcmaembpfakdaaGreatDoorTie.lean); close each card by the builder's one call (the guide's Derived/Test/ToyasCard.lean, 'card_holds'). Laid BY PROGRAM, IN A SANDBOX (cutbox-door.mjs). By AI agents, Wed Nov 11 2026. No macro, syntax, notation, axiom, sorry.
-/
import Derived.Test.YtkcmaembpfakdaaGreatDoorRows
import GoSem.ClaimSeven
namespace Go.Proofs.YtkcmaembpfakdaaGreatDoor
namespace Rows

/-- THE TIED CARD OF 'admissionlaw05.StoreCloses'. -/
def storeClosesCard : Claim7 := { stood := { row := storeClosesRow, standIns := [], harness := (true, "fa4a9a5df20c2465fb3a2f7614cd4657842b9cc3f4a5c26d800c107e953db5d8"), looks := false }, kinds := [], alts := [], laidByText := true, laidKinds := [.data, .pinned], laidTests := true, laidLooks := .later }
def StoreClosesCardSaid : Prop := Claim7.holds Tryz.pinned (.plain (OpenSpec.ofChange storeClosesSpec)) storeClosesCard

/-- THE TIED CARD OF 'admissionlaw05.StoreReaches'. -/
def storeReachesCard : Claim7 := { stood := { row := storeReachesRow, standIns := [], harness := (true, "fa4a9a5df20c2465fb3a2f7614cd4657842b9cc3f4a5c26d800c107e953db5d8"), looks := false }, kinds := [], alts := [], laidByText := true, laidKinds := [.data, .pinned], laidTests := true, laidLooks := .later }
def StoreReachesCardSaid : Prop := Claim7.holds Tryz.pinned (.plain (OpenSpec.ofChange storeReachesSpec)) storeReachesCard

/-- THE TIED CARD OF 'admissionlaw05.StoreSweepsAgain'. -/
def storeSweepsAgainCard : Claim7 := { stood := { row := storeSweepsAgainRow, standIns := [], harness := (true, "fa4a9a5df20c2465fb3a2f7614cd4657842b9cc3f4a5c26d800c107e953db5d8"), looks := false }, kinds := [], alts := [], laidByText := true, laidKinds := [.data, .pinned], laidTests := true, laidLooks := .later }
def StoreSweepsAgainCardSaid : Prop := Claim7.holds Tryz.pinned (.plain (OpenSpec.ofChange storeSweepsAgainSpec)) storeSweepsAgainCard

/-- THE TIED CARD OF 'admissionlaw05.StoreSweeps'. -/
def storeSweepsCard : Claim7 := { stood := { row := storeSweepsRow, standIns := [], harness := (true, "fa4a9a5df20c2465fb3a2f7614cd4657842b9cc3f4a5c26d800c107e953db5d8"), looks := false }, kinds := [], alts := [], laidByText := true, laidKinds := [.data, .pinned], laidTests := true, laidLooks := .later }
def StoreSweepsCardSaid : Prop := Claim7.holds Tryz.pinned (.plain (OpenSpec.ofChange storeSweepsSpec)) storeSweepsCard

/-- THE SECOND FORM's CARD OF 'admissionlaw05.StoreCloses'. -/
def storeClosesUptoCard : Claim7 := { stood := { row := storeClosesUptoRow, standIns := [], harness := (true, "fa4a9a5df20c2465fb3a2f7614cd4657842b9cc3f4a5c26d800c107e953db5d8"), looks := false }, kinds := [], alts := [], laidByText := true, laidKinds := [.data, .pinned], laidTests := true, laidLooks := .later }
def StoreClosesUptoCardSaid : Prop := Claim7.holds Tryz.pinned (.plain (OpenSpec.upto storeClosesSpec)) storeClosesUptoCard

/-- THE SECOND FORM's CARD OF 'admissionlaw05.StoreReaches'. -/
def storeReachesUptoCard : Claim7 := { stood := { row := storeReachesUptoRow, standIns := [], harness := (true, "fa4a9a5df20c2465fb3a2f7614cd4657842b9cc3f4a5c26d800c107e953db5d8"), looks := false }, kinds := [], alts := [], laidByText := true, laidKinds := [.data, .pinned], laidTests := true, laidLooks := .later }
def StoreReachesUptoCardSaid : Prop := Claim7.holds Tryz.pinned (.plain (OpenSpec.upto storeReachesSpec)) storeReachesUptoCard

/-- THE SECOND FORM's CARD OF 'admissionlaw05.StoreSweepsAgain'. -/
def storeSweepsAgainUptoCard : Claim7 := { stood := { row := storeSweepsAgainUptoRow, standIns := [], harness := (true, "fa4a9a5df20c2465fb3a2f7614cd4657842b9cc3f4a5c26d800c107e953db5d8"), looks := false }, kinds := [], alts := [], laidByText := true, laidKinds := [.data, .pinned], laidTests := true, laidLooks := .later }
def StoreSweepsAgainUptoCardSaid : Prop := Claim7.holds Tryz.pinned (.plain (OpenSpec.upto storeSweepsAgainSpec)) storeSweepsAgainUptoCard

/-- THE SECOND FORM's CARD OF 'admissionlaw05.StoreSweeps'. -/
def storeSweepsUptoCard : Claim7 := { stood := { row := storeSweepsUptoRow, standIns := [], harness := (true, "fa4a9a5df20c2465fb3a2f7614cd4657842b9cc3f4a5c26d800c107e953db5d8"), looks := false }, kinds := [], alts := [], laidByText := true, laidKinds := [.data, .pinned], laidTests := true, laidLooks := .later }
def StoreSweepsUptoCardSaid : Prop := Claim7.holds Tryz.pinned (.plain (OpenSpec.upto storeSweepsSpec)) storeSweepsUptoCard
end Rows
end Go.Proofs.YtkcmaembpfakdaaGreatDoor

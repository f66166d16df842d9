/-
  DERIVED. GIVEN WITH THE SEED: THE CARDS: each row of YtipepcjiogifaaaDoorRows.lean that lists a variable, with what it lists TIED to the program's text (the seventh form; the later family's looks); each row that meets fmt, with fmt's text TOLD by the authors' own Lean function (tested against real Go, not proved from fmt's source: count such statements apart). THE CARD IS WHAT COUNTS. Prove the row's statement (the work); the ties are given (YtipepcjiogifaaaDoorTie.lean); close each card by the builder's one call (the guide's Derived/Test/ToyasCard.lean, 'card_holds'). Laid BY PROGRAM, IN A SANDBOX (cutbox-door.mjs). By AI agents, Wed Nov 11 2026. No macro, syntax, notation, axiom, sorry.
-/
import Derived.Test.YtipepcjiogifaaaDoorRows
import GoSem.ClaimSeven
namespace Go.Proofs.YtipepcjiogifaaaDoor
namespace Rows

/-- THE TIED CARD OF 'admissionlaw04.SnapshotSelects'. -/
def snapshotSelectsCard : Claim7 := { stood := { row := snapshotSelectsRow, standIns := [], harness := (true, "1d2d94b479cf757ad5ab46061d7fc60ec3a538e19bbcbc2e18be412c55e38b66"), looks := false }, kinds := [], alts := [], laidByText := true, laidKinds := [.data, .pinned], laidTests := true, laidLooks := .later }
def SnapshotSelectsCardSaid : Prop := Claim7.holds Tryd.pinned (.plain (OpenSpec.ofChange snapshotSelectsSpec)) snapshotSelectsCard

/-- THE TIED CARD OF 'admissionlaw04.SnapshotMakes'. -/
def snapshotMakesCard : Claim7 := { stood := { row := snapshotMakesRow, standIns := [], harness := (true, "1d2d94b479cf757ad5ab46061d7fc60ec3a538e19bbcbc2e18be412c55e38b66"), looks := false }, kinds := [], alts := [], laidByText := true, laidKinds := [.data, .pinned], laidTests := true, laidLooks := .later }
def SnapshotMakesCardSaid : Prop := Claim7.holds Tryd.pinned (.plain (OpenSpec.ofChange snapshotMakesSpec)) snapshotMakesCard

/-- THE SECOND FORM's CARD OF 'admissionlaw04.SnapshotSelects'. -/
def snapshotSelectsUptoCard : Claim7 := { stood := { row := snapshotSelectsUptoRow, standIns := [], harness := (true, "1d2d94b479cf757ad5ab46061d7fc60ec3a538e19bbcbc2e18be412c55e38b66"), looks := false }, kinds := [], alts := [], laidByText := true, laidKinds := [.data, .pinned], laidTests := true, laidLooks := .later }
def SnapshotSelectsUptoCardSaid : Prop := Claim7.holds Tryd.pinned (.plain (OpenSpec.upto snapshotSelectsSpec)) snapshotSelectsUptoCard

/-- THE SECOND FORM's CARD OF 'admissionlaw04.SnapshotMakes'. -/
def snapshotMakesUptoCard : Claim7 := { stood := { row := snapshotMakesUptoRow, standIns := [], harness := (true, "1d2d94b479cf757ad5ab46061d7fc60ec3a538e19bbcbc2e18be412c55e38b66"), looks := false }, kinds := [], alts := [], laidByText := true, laidKinds := [.data, .pinned], laidTests := true, laidLooks := .later }
def SnapshotMakesUptoCardSaid : Prop := Claim7.holds Tryd.pinned (.plain (OpenSpec.upto snapshotMakesSpec)) snapshotMakesUptoCard
end Rows
end Go.Proofs.YtipepcjiogifaaaDoor

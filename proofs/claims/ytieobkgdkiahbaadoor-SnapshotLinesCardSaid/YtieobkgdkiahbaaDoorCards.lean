/-
  DERIVED. GIVEN WITH THE SEED: THE CARDS: each row of YtieobkgdkiahbaaDoorRows.lean that lists a variable, with what it lists TIED to the program's text (the seventh form; the later family's looks); each row that meets fmt, with fmt's text TOLD by the authors' own Lean function (tested against real Go, not proved from fmt's source: count such statements apart). THE CARD IS WHAT COUNTS. Prove the row's statement (the work); the ties are given (YtieobkgdkiahbaaDoorTie.lean); close each card by the builder's one call (the guide's Derived/Test/ToyasCard.lean, 'card_holds'). Laid BY PROGRAM, IN A SANDBOX (cutbox-door.mjs). By AI agents, Wed Nov 11 2026. No macro, syntax, notation, axiom, sorry.
-/
import Derived.Test.YtieobkgdkiahbaaDoorRows
import GoSem.ClaimSeven
namespace Go.Proofs.YtieobkgdkiahbaaDoor
namespace Rows

/-- THE TIED CARD OF 'admissionlaw04.SnapshotApplies'. -/
def snapshotAppliesCard : Claim7 := { stood := { row := snapshotAppliesRow, standIns := [], harness := (true, "6ee3f7907d277bd47e6a191ee92689581a9112fc19d3a106200c39560c63d337"), looks := false }, kinds := [], alts := [], laidByText := true, laidKinds := [.data, .pinned], laidTests := true, laidLooks := .later }
def SnapshotAppliesCardSaid : Prop := Claim7.holds Tryd.pinned (.plain (OpenSpec.ofChange snapshotAppliesSpec)) snapshotAppliesCard

/-- THE TIED CARD OF 'admissionlaw04.SnapshotDiffs'. -/
def snapshotDiffsCard : Claim7 := { stood := { row := snapshotDiffsRow, standIns := [], harness := (true, "6ee3f7907d277bd47e6a191ee92689581a9112fc19d3a106200c39560c63d337"), looks := false }, kinds := [], alts := [], laidByText := true, laidKinds := [.data, .pinned], laidTests := true, laidLooks := .later }
def SnapshotDiffsCardSaid : Prop := Claim7.holds Tryd.pinned (.plain (OpenSpec.ofChange snapshotDiffsSpec)) snapshotDiffsCard

/-- THE TIED CARD OF 'admissionlaw04.SnapshotComposes'. -/
def snapshotComposesCard : Claim7 := { stood := { row := snapshotComposesRow, standIns := [], harness := (true, "6ee3f7907d277bd47e6a191ee92689581a9112fc19d3a106200c39560c63d337"), looks := false }, kinds := [], alts := [], laidByText := true, laidKinds := [.data, .pinned], laidTests := true, laidLooks := .later }
def SnapshotComposesCardSaid : Prop := Claim7.holds Tryd.pinned (.plain (OpenSpec.ofChange snapshotComposesSpec)) snapshotComposesCard

/-- THE TIED CARD OF 'admissionlaw04.SnapshotLines'. -/
def snapshotLinesCard : Claim7 := { stood := { row := snapshotLinesRow, standIns := [], harness := (true, "6ee3f7907d277bd47e6a191ee92689581a9112fc19d3a106200c39560c63d337"), looks := false }, kinds := [], alts := [], laidByText := true, laidKinds := [.data, .pinned], laidTests := true, laidLooks := .later }
def SnapshotLinesCardSaid : Prop := Claim7.holds Tryd.pinned (.plain (OpenSpec.ofChange snapshotLinesSpec)) snapshotLinesCard

/-- THE TIED CARD OF 'admissionlaw04.SnapshotSelects'. -/
def snapshotSelectsCard : Claim7 := { stood := { row := snapshotSelectsRow, standIns := [], harness := (true, "6ee3f7907d277bd47e6a191ee92689581a9112fc19d3a106200c39560c63d337"), looks := false }, kinds := [], alts := [], laidByText := true, laidKinds := [.data, .pinned], laidTests := true, laidLooks := .later }
def SnapshotSelectsCardSaid : Prop := Claim7.holds Tryd.pinned (.plain (OpenSpec.ofChange snapshotSelectsSpec)) snapshotSelectsCard

/-- THE TIED CARD OF 'admissionlaw04.SnapshotRevisions'. -/
def snapshotRevisionsCard : Claim7 := { stood := { row := snapshotRevisionsRow, standIns := [], harness := (true, "6ee3f7907d277bd47e6a191ee92689581a9112fc19d3a106200c39560c63d337"), looks := false }, kinds := [], alts := [], laidByText := true, laidKinds := [.data, .pinned], laidTests := true, laidLooks := .later }
def SnapshotRevisionsCardSaid : Prop := Claim7.holds Tryd.pinned (.plain (OpenSpec.ofChange snapshotRevisionsSpec)) snapshotRevisionsCard

/-- THE TIED CARD OF 'admissionlaw04.SnapshotMakes'. -/
def snapshotMakesCard : Claim7 := { stood := { row := snapshotMakesRow, standIns := [], harness := (true, "6ee3f7907d277bd47e6a191ee92689581a9112fc19d3a106200c39560c63d337"), looks := false }, kinds := [], alts := [], laidByText := true, laidKinds := [.data, .pinned], laidTests := true, laidLooks := .later }
def SnapshotMakesCardSaid : Prop := Claim7.holds Tryd.pinned (.plain (OpenSpec.ofChange snapshotMakesSpec)) snapshotMakesCard

/-- THE SECOND FORM's CARD OF 'admissionlaw04.SnapshotApplies'. -/
def snapshotAppliesUptoCard : Claim7 := { stood := { row := snapshotAppliesUptoRow, standIns := [], harness := (true, "6ee3f7907d277bd47e6a191ee92689581a9112fc19d3a106200c39560c63d337"), looks := false }, kinds := [], alts := [], laidByText := true, laidKinds := [.data, .pinned], laidTests := true, laidLooks := .later }
def SnapshotAppliesUptoCardSaid : Prop := Claim7.holds Tryd.pinned (.plain (OpenSpec.upto snapshotAppliesSpec)) snapshotAppliesUptoCard

/-- THE SECOND FORM's CARD OF 'admissionlaw04.SnapshotDiffs'. -/
def snapshotDiffsUptoCard : Claim7 := { stood := { row := snapshotDiffsUptoRow, standIns := [], harness := (true, "6ee3f7907d277bd47e6a191ee92689581a9112fc19d3a106200c39560c63d337"), looks := false }, kinds := [], alts := [], laidByText := true, laidKinds := [.data, .pinned], laidTests := true, laidLooks := .later }
def SnapshotDiffsUptoCardSaid : Prop := Claim7.holds Tryd.pinned (.plain (OpenSpec.upto snapshotDiffsSpec)) snapshotDiffsUptoCard

/-- THE SECOND FORM's CARD OF 'admissionlaw04.SnapshotComposes'. -/
def snapshotComposesUptoCard : Claim7 := { stood := { row := snapshotComposesUptoRow, standIns := [], harness := (true, "6ee3f7907d277bd47e6a191ee92689581a9112fc19d3a106200c39560c63d337"), looks := false }, kinds := [], alts := [], laidByText := true, laidKinds := [.data, .pinned], laidTests := true, laidLooks := .later }
def SnapshotComposesUptoCardSaid : Prop := Claim7.holds Tryd.pinned (.plain (OpenSpec.upto snapshotComposesSpec)) snapshotComposesUptoCard

/-- THE SECOND FORM's CARD OF 'admissionlaw04.SnapshotLines'. -/
def snapshotLinesUptoCard : Claim7 := { stood := { row := snapshotLinesUptoRow, standIns := [], harness := (true, "6ee3f7907d277bd47e6a191ee92689581a9112fc19d3a106200c39560c63d337"), looks := false }, kinds := [], alts := [], laidByText := true, laidKinds := [.data, .pinned], laidTests := true, laidLooks := .later }
def SnapshotLinesUptoCardSaid : Prop := Claim7.holds Tryd.pinned (.plain (OpenSpec.upto snapshotLinesSpec)) snapshotLinesUptoCard

/-- THE SECOND FORM's CARD OF 'admissionlaw04.SnapshotSelects'. -/
def snapshotSelectsUptoCard : Claim7 := { stood := { row := snapshotSelectsUptoRow, standIns := [], harness := (true, "6ee3f7907d277bd47e6a191ee92689581a9112fc19d3a106200c39560c63d337"), looks := false }, kinds := [], alts := [], laidByText := true, laidKinds := [.data, .pinned], laidTests := true, laidLooks := .later }
def SnapshotSelectsUptoCardSaid : Prop := Claim7.holds Tryd.pinned (.plain (OpenSpec.upto snapshotSelectsSpec)) snapshotSelectsUptoCard

/-- THE SECOND FORM's CARD OF 'admissionlaw04.SnapshotRevisions'. -/
def snapshotRevisionsUptoCard : Claim7 := { stood := { row := snapshotRevisionsUptoRow, standIns := [], harness := (true, "6ee3f7907d277bd47e6a191ee92689581a9112fc19d3a106200c39560c63d337"), looks := false }, kinds := [], alts := [], laidByText := true, laidKinds := [.data, .pinned], laidTests := true, laidLooks := .later }
def SnapshotRevisionsUptoCardSaid : Prop := Claim7.holds Tryd.pinned (.plain (OpenSpec.upto snapshotRevisionsSpec)) snapshotRevisionsUptoCard

/-- THE SECOND FORM's CARD OF 'admissionlaw04.SnapshotMakes'. -/
def snapshotMakesUptoCard : Claim7 := { stood := { row := snapshotMakesUptoRow, standIns := [], harness := (true, "6ee3f7907d277bd47e6a191ee92689581a9112fc19d3a106200c39560c63d337"), looks := false }, kinds := [], alts := [], laidByText := true, laidKinds := [.data, .pinned], laidTests := true, laidLooks := .later }
def SnapshotMakesUptoCardSaid : Prop := Claim7.holds Tryd.pinned (.plain (OpenSpec.upto snapshotMakesSpec)) snapshotMakesUptoCard
end Rows
end Go.Proofs.YtieobkgdkiahbaaDoor

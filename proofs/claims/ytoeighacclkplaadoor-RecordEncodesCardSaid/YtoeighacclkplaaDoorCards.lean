/-
  DERIVED. GIVEN WITH THE SEED: THE CARDS: each row of YtoeighacclkplaaDoorRows.lean that lists a variable, with what it lists TIED to the program's text (the seventh form; the later family's looks); each row that meets fmt, with fmt's text TOLD by the authors' own Lean function (tested against real Go, not proved from fmt's source: count such statements apart). THE CARD IS WHAT COUNTS. Prove the row's statement (the work); the ties are given (YtoeighacclkplaaDoorTie.lean); close each card by the builder's one call (the guide's Derived/Test/ToyasCard.lean, 'card_holds'). Laid BY PROGRAM, IN A SANDBOX (cutbox-door.mjs). By AI agents, Wed Nov 11 2026. No macro, syntax, notation, axiom, sorry.
-/
import Derived.Test.YtoeighacclkplaaDoorRows
import GoSem.ClaimSeven
namespace Go.Proofs.YtoeighacclkplaaDoor
namespace Rows

/-- THE TIED CARD OF 'admissionlaw12.RecordEncodes'. -/
def recordEncodesCard : Claim7 := { stood := { row := recordEncodesRow, standIns := [], harness := (true, "f529b9843769100368ad2dba7e02556746de315f71a5061041539c4a6daed73b"), looks := false }, kinds := [], alts := [], laidByText := true, laidKinds := [.data, .data, .data, .data, .pinned], laidTests := true, laidLooks := .later }
def RecordEncodesCardSaid : Prop := Claim7.holds Tryd.pinned (.plain (OpenSpec.ofChange recordEncodesSpec)) recordEncodesCard

/-- THE SECOND FORM's CARD OF 'admissionlaw12.RecordEncodes'. -/
def recordEncodesUptoCard : Claim7 := { stood := { row := recordEncodesUptoRow, standIns := [], harness := (true, "f529b9843769100368ad2dba7e02556746de315f71a5061041539c4a6daed73b"), looks := false }, kinds := [], alts := [], laidByText := true, laidKinds := [.data, .data, .data, .data, .pinned], laidTests := true, laidLooks := .later }
def RecordEncodesUptoCardSaid : Prop := Claim7.holds Tryd.pinned (.plain (OpenSpec.upto recordEncodesSpec)) recordEncodesUptoCard
end Rows
end Go.Proofs.YtoeighacclkplaaDoor

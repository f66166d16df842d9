/-
  No cell of these rows narrows 'for every input' (looked for: loops, veiled, ifaces, maps, wideKeys, modest, calm, conditions, laid).
  DERIVED. THE GIVEN ROWS OF THIS SEAT. 4 by the template 'for every input the law returns true; each argument reads behind the call as it read before'; 0 by the template 'total and deterministic' (their statements: YtahfhlpolhibdaaTotals.lean).
  GIVEN WITH THE SEED: the statements are not yours to turn. If you find one false, say at which input.
  Laid BY PROGRAM, IN A SANDBOX (cutbox-rows.mjs): the forced cells as the released guide's own fill.sh prints them over the translation 5b1ac8803beb0e56… (all of the seat's roots in one cut). By AI agents, Wed Nov 11 2026. No macro, syntax, notation, axiom, sorry.
-/
import Derived.Test.YtahfhlpolhibdaaChecked
import GoSem.Claim
import GoSem.ClaimJoined
import GoSem.ClaimMapViews
import Derived.JoinedTies
import Derived.KernelRfl
namespace Go.Proofs.Ytahfhlpolhibdaa
/- THE CELL 'sum', in the pinned program and in every row, IS THE sha256 OF THE DUMP (.gsa) THAT YtahfhlpolhibdaaProg.lean LOADS. Nothing in Lean hashes anything: it is a label: what it is worth is what the hold of that sum in a sandbox is worth. -/
noncomputable def Try.pinned : Pinned := { name := "ytahfhlpolhibdaa", sum := "5b1ac8803beb0e56579df9317c9b03ef0ff9c4590218eeef89a9d78a1418861f", checked := Try.checked }
namespace Rows
def none {H : Type} : Left H := { results := [], args := [] }

/-- 'admissionlaw05.StorePuts': WHATEVER THE INPUT: true; the input reads as it did. -/
def storePutsSpec : ChangeSpec := { name := "storePuts", fn := fun _ => fun
  | [d1, d2, d3] => { results := [.lit (.bool true)], args := [d1, d2, d3] }
  | _ => none }
def storePutsRow : OpenClaim := { program := "ytahfhlpolhibdaa", sum := "5b1ac8803beb0e56579df9317c9b03ef0ff9c4590218eeef89a9d78a1418861f", func := "admission/admissionlaw05.StorePuts", spec := "storePuts", inPlace := ["internal/bytealg.Compare", "slices.overlaps[admission/api.Blob]"], unfollowed := true, recurses := true, apart := false }
def StorePutsSaid : Prop := storePutsRow.holds Try.pinned (OpenSpec.ofChange storePutsSpec)

/-- ITS FALSE NEIGHBOUR: 'it returns false'. Refute it at one input. -/
def storePutsWrong : ChangeSpec := { name := "storePuts", fn := fun _ => fun
  | [d1, d2, d3] => { results := [.lit (.bool false)], args := [d1, d2, d3] }
  | _ => none }
def StorePutsWrongFalsely : Prop := storePutsRow.holds Try.pinned (OpenSpec.ofChange storePutsWrong)

/-- 'admissionlaw05.StoreKeeps': WHATEVER THE INPUT: true; the input reads as it did. -/
def storeKeepsSpec : ChangeSpec := { name := "storeKeeps", fn := fun _ => fun
  | [d] => { results := [.lit (.bool true)], args := [d] }
  | _ => none }
def storeKeepsRow : OpenClaim := { program := "ytahfhlpolhibdaa", sum := "5b1ac8803beb0e56579df9317c9b03ef0ff9c4590218eeef89a9d78a1418861f", func := "admission/admissionlaw05.StoreKeeps", spec := "storeKeeps", inPlace := ["internal/bytealg.Compare", "slices.overlaps[admission/api.Blob]"], unfollowed := true, recurses := true, apart := false }
def StoreKeepsSaid : Prop := storeKeepsRow.holds Try.pinned (OpenSpec.ofChange storeKeepsSpec)

/-- ITS FALSE NEIGHBOUR: 'it returns false'. Refute it at one input. -/
def storeKeepsWrong : ChangeSpec := { name := "storeKeeps", fn := fun _ => fun
  | [d] => { results := [.lit (.bool false)], args := [d] }
  | _ => none }
def StoreKeepsWrongFalsely : Prop := storeKeepsRow.holds Try.pinned (OpenSpec.ofChange storeKeepsWrong)

/-- 'admissionlaw05.StoreMerges': WHATEVER THE INPUT: true; the input reads as it did. -/
def storeMergesSpec : ChangeSpec := { name := "storeMerges", fn := fun _ => fun
  | [d1, d2] => { results := [.lit (.bool true)], args := [d1, d2] }
  | _ => none }
def storeMergesRow : OpenClaim := { program := "ytahfhlpolhibdaa", sum := "5b1ac8803beb0e56579df9317c9b03ef0ff9c4590218eeef89a9d78a1418861f", func := "admission/admissionlaw05.StoreMerges", spec := "storeMerges", inPlace := ["internal/bytealg.Compare", "slices.overlaps[admission/api.Blob]"], unfollowed := true, recurses := true, apart := false }
def StoreMergesSaid : Prop := storeMergesRow.holds Try.pinned (OpenSpec.ofChange storeMergesSpec)

/-- ITS FALSE NEIGHBOUR: 'it returns false'. Refute it at one input. -/
def storeMergesWrong : ChangeSpec := { name := "storeMerges", fn := fun _ => fun
  | [d1, d2] => { results := [.lit (.bool false)], args := [d1, d2] }
  | _ => none }
def StoreMergesWrongFalsely : Prop := storeMergesRow.holds Try.pinned (OpenSpec.ofChange storeMergesWrong)

/-- 'admissionlaw05.StoreShapes': WHATEVER THE INPUT: true; the input reads as it did. -/
def storeShapesSpec : ChangeSpec := { name := "storeShapes", fn := fun _ => fun
  | [d1, d2] => { results := [.lit (.bool true)], args := [d1, d2] }
  | _ => none }
def storeShapesRow : OpenClaim := { program := "ytahfhlpolhibdaa", sum := "5b1ac8803beb0e56579df9317c9b03ef0ff9c4590218eeef89a9d78a1418861f", func := "admission/admissionlaw05.StoreShapes", spec := "storeShapes", inPlace := ["internal/bytealg.Compare", "slices.overlaps[admission/api.Blob]"], unfollowed := true, recurses := true, apart := false }
def StoreShapesSaid : Prop := storeShapesRow.holds Try.pinned (OpenSpec.ofChange storeShapesSpec)

/-- ITS FALSE NEIGHBOUR: 'it returns false'. Refute it at one input. -/
def storeShapesWrong : ChangeSpec := { name := "storeShapes", fn := fun _ => fun
  | [d1, d2] => { results := [.lit (.bool false)], args := [d1, d2] }
  | _ => none }
def StoreShapesWrongFalsely : Prop := storeShapesRow.holds Try.pinned (OpenSpec.ofChange storeShapesWrong)

/- THE SECOND FORM. 'bulk': how many values and letters a reading holds, each counted each time it is reached (what is shared counts as often as it is met; a slice's spare places count too). A statement '..UptoSaid' is the law's where the arguments, and the package variables that the reading takes, are together of bulk at most 1048576: NARROWER than '..Said'. Prove '..Said' where nothing that the law and all that it calls make is longer than what came in: it says more and counts as full. Else prove '..UptoSaid'. A law counts once. -/
mutual
def uptoBulk {H : Type} : DataW H → Nat
  | .lit (.string bytes) => bytes.length + 1
  | .lit _ => 1
  | .nil => 1
  | .ptr d => uptoBulk d + 1
  | .slice elems spare => uptoBulkAll elems + uptoBulkAll spare + 1
  | .agg parts => uptoBulkAll parts + 1
  | .iface _ d => uptoBulk d + 1
  | .map entries => uptoBulkEntries entries + 1
  | .held _ => 1
def uptoBulkAll {H : Type} : List (DataW H) → Nat
  | [] => 0
  | d :: r => uptoBulk d + uptoBulkAll r
def uptoBulkEntries {H : Type} : List (Lit × DataW H) → Nat
  | [] => 0
  | x :: r => uptoBulkEntry x + uptoBulkEntries r
def uptoBulkEntry {H : Type} : Lit × DataW H → Nat
  | (.string bytes, d) => bytes.length + uptoBulk d + 1
  | (_, d) => uptoBulk d + 1
 end
def uptoSmall : (H : Type) → List (DataW H) → Bool := fun _ ds => decide (uptoBulkAll ds ≤ 1048576)
def OpenSpec.upto (s : _root_.Go.ChangeSpec) : _root_.Go.OpenSpec := { _root_.Go.OpenSpec.ofChange s with cond := some uptoSmall }

/-- 'admissionlaw05.StorePuts', WHERE WHAT IT READS IS OF BULK AT MOST 1048576: true; the input reads as it did. -/
def storePutsUptoRow : OpenClaim := { program := "ytahfhlpolhibdaa", sum := "5b1ac8803beb0e56579df9317c9b03ef0ff9c4590218eeef89a9d78a1418861f", func := "admission/admissionlaw05.StorePuts", spec := "storePuts", inPlace := ["internal/bytealg.Compare", "slices.overlaps[admission/api.Blob]"], unfollowed := true, recurses := true, apart := false, narrowed := true }
def StorePutsUptoSaid : Prop := storePutsUptoRow.holds Try.pinned (OpenSpec.upto storePutsSpec)

/-- 'admissionlaw05.StoreKeeps', WHERE WHAT IT READS IS OF BULK AT MOST 1048576: true; the input reads as it did. -/
def storeKeepsUptoRow : OpenClaim := { program := "ytahfhlpolhibdaa", sum := "5b1ac8803beb0e56579df9317c9b03ef0ff9c4590218eeef89a9d78a1418861f", func := "admission/admissionlaw05.StoreKeeps", spec := "storeKeeps", inPlace := ["internal/bytealg.Compare", "slices.overlaps[admission/api.Blob]"], unfollowed := true, recurses := true, apart := false, narrowed := true }
def StoreKeepsUptoSaid : Prop := storeKeepsUptoRow.holds Try.pinned (OpenSpec.upto storeKeepsSpec)

/-- 'admissionlaw05.StoreMerges', WHERE WHAT IT READS IS OF BULK AT MOST 1048576: true; the input reads as it did. -/
def storeMergesUptoRow : OpenClaim := { program := "ytahfhlpolhibdaa", sum := "5b1ac8803beb0e56579df9317c9b03ef0ff9c4590218eeef89a9d78a1418861f", func := "admission/admissionlaw05.StoreMerges", spec := "storeMerges", inPlace := ["internal/bytealg.Compare", "slices.overlaps[admission/api.Blob]"], unfollowed := true, recurses := true, apart := false, narrowed := true }
def StoreMergesUptoSaid : Prop := storeMergesUptoRow.holds Try.pinned (OpenSpec.upto storeMergesSpec)

/-- 'admissionlaw05.StoreShapes', WHERE WHAT IT READS IS OF BULK AT MOST 1048576: true; the input reads as it did. -/
def storeShapesUptoRow : OpenClaim := { program := "ytahfhlpolhibdaa", sum := "5b1ac8803beb0e56579df9317c9b03ef0ff9c4590218eeef89a9d78a1418861f", func := "admission/admissionlaw05.StoreShapes", spec := "storeShapes", inPlace := ["internal/bytealg.Compare", "slices.overlaps[admission/api.Blob]"], unfollowed := true, recurses := true, apart := false, narrowed := true }
def StoreShapesUptoSaid : Prop := storeShapesUptoRow.holds Try.pinned (OpenSpec.upto storeShapesSpec)

end Rows
end Go.Proofs.Ytahfhlpolhibdaa

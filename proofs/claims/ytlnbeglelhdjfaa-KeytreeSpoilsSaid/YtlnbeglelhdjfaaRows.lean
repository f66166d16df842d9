/-
  No cell of these rows narrows 'for every input' (looked for: loops, veiled, ifaces, maps, wideKeys, modest, calm, conditions, laid).
  DERIVED. THE GIVEN ROWS OF THIS SEAT. 5 by the template 'for every input the law returns true; each argument reads behind the call as it read before'; 0 by the template 'total and deterministic' (their statements: YtlnbeglelhdjfaaTotals.lean).
  GIVEN WITH THE SEED: the statements are not yours to turn. If you find one false, say at which input.
  Laid BY PROGRAM, IN A SANDBOX (cutbox-rows.mjs): the forced cells as the released guide's own fill.sh prints them over the translation aa96a68f114bb497… (all of the seat's roots in one cut). By AI agents, Wed Nov 11 2026. No macro, syntax, notation, axiom, sorry.
-/
import Derived.Test.YtlnbeglelhdjfaaChecked
import GoSem.Claim
import GoSem.ClaimJoined
import GoSem.ClaimMapViews
import Derived.JoinedTies
import Derived.KernelRfl
namespace Go.Proofs.Ytlnbeglelhdjfaa
/- THE CELL 'sum', in the pinned program and in every row, IS THE sha256 OF THE DUMP (.gsa) THAT YtlnbeglelhdjfaaProg.lean LOADS. Nothing in Lean hashes anything: it is a label: what it is worth is what the hold of that sum in a sandbox is worth. -/
noncomputable def Try.pinned : Pinned := { name := "ytlnbeglelhdjfaa", sum := "aa96a68f114bb4978ba900489856961a382bcee49987ed37a556e1e8d113a166", checked := Try.checked }
namespace Rows
def none {H : Type} : Left H := { results := [], args := [] }

/-- 'admissionlaw09.KeytreeSigns': WHATEVER THE INPUT: true; the input reads as it did. -/
def keytreeSignsSpec : ChangeSpec := { name := "keytreeSigns", fn := fun _ => fun
  | [d1, d2] => { results := [.lit (.bool true)], args := [d1, d2] }
  | _ => none }
def keytreeSignsRow : OpenClaim := { program := "ytlnbeglelhdjfaa", sum := "aa96a68f114bb4978ba900489856961a382bcee49987ed37a556e1e8d113a166", func := "admission/admissionlaw09.KeytreeSigns", spec := "keytreeSigns", unfollowed := true, recurses := true, apart := false }
def KeytreeSignsSaid : Prop := keytreeSignsRow.holds Try.pinned (OpenSpec.ofChange keytreeSignsSpec)

/-- ITS FALSE NEIGHBOUR: 'it returns false'. Refute it at one input. -/
def keytreeSignsWrong : ChangeSpec := { name := "keytreeSigns", fn := fun _ => fun
  | [d1, d2] => { results := [.lit (.bool false)], args := [d1, d2] }
  | _ => none }
def KeytreeSignsWrongFalsely : Prop := keytreeSignsRow.holds Try.pinned (OpenSpec.ofChange keytreeSignsWrong)

/-- 'admissionlaw09.KeytreeVerifies': WHATEVER THE INPUT: true; the input reads as it did. -/
def keytreeVerifiesSpec : ChangeSpec := { name := "keytreeVerifies", fn := fun _ => fun
  | [d1, d2, d3] => { results := [.lit (.bool true)], args := [d1, d2, d3] }
  | _ => none }
def keytreeVerifiesRow : OpenClaim := { program := "ytlnbeglelhdjfaa", sum := "aa96a68f114bb4978ba900489856961a382bcee49987ed37a556e1e8d113a166", func := "admission/admissionlaw09.KeytreeVerifies", spec := "keytreeVerifies", unfollowed := true, recurses := true, apart := false }
def KeytreeVerifiesSaid : Prop := keytreeVerifiesRow.holds Try.pinned (OpenSpec.ofChange keytreeVerifiesSpec)

/-- ITS FALSE NEIGHBOUR: 'it returns false'. Refute it at one input. -/
def keytreeVerifiesWrong : ChangeSpec := { name := "keytreeVerifies", fn := fun _ => fun
  | [d1, d2, d3] => { results := [.lit (.bool false)], args := [d1, d2, d3] }
  | _ => none }
def KeytreeVerifiesWrongFalsely : Prop := keytreeVerifiesRow.holds Try.pinned (OpenSpec.ofChange keytreeVerifiesWrong)

/-- 'admissionlaw09.KeytreeChecks': WHATEVER THE INPUT: true; the input reads as it did. -/
def keytreeChecksSpec : ChangeSpec := { name := "keytreeChecks", fn := fun _ => fun
  | [d1, d2, d3] => { results := [.lit (.bool true)], args := [d1, d2, d3] }
  | _ => none }
def keytreeChecksRow : OpenClaim := { program := "ytlnbeglelhdjfaa", sum := "aa96a68f114bb4978ba900489856961a382bcee49987ed37a556e1e8d113a166", func := "admission/admissionlaw09.KeytreeChecks", spec := "keytreeChecks", unfollowed := true, recurses := true, apart := false }
def KeytreeChecksSaid : Prop := keytreeChecksRow.holds Try.pinned (OpenSpec.ofChange keytreeChecksSpec)

/-- ITS FALSE NEIGHBOUR: 'it returns false'. Refute it at one input. -/
def keytreeChecksWrong : ChangeSpec := { name := "keytreeChecks", fn := fun _ => fun
  | [d1, d2, d3] => { results := [.lit (.bool false)], args := [d1, d2, d3] }
  | _ => none }
def KeytreeChecksWrongFalsely : Prop := keytreeChecksRow.holds Try.pinned (OpenSpec.ofChange keytreeChecksWrong)

/-- 'admissionlaw09.KeytreeSpoils': WHATEVER THE INPUT: true; the input reads as it did. -/
def keytreeSpoilsSpec : ChangeSpec := { name := "keytreeSpoils", fn := fun _ => fun
  | [d1, d2, d3] => { results := [.lit (.bool true)], args := [d1, d2, d3] }
  | _ => none }
def keytreeSpoilsRow : OpenClaim := { program := "ytlnbeglelhdjfaa", sum := "aa96a68f114bb4978ba900489856961a382bcee49987ed37a556e1e8d113a166", func := "admission/admissionlaw09.KeytreeSpoils", spec := "keytreeSpoils", unfollowed := true, recurses := true, apart := false }
def KeytreeSpoilsSaid : Prop := keytreeSpoilsRow.holds Try.pinned (OpenSpec.ofChange keytreeSpoilsSpec)

/-- ITS FALSE NEIGHBOUR: 'it returns false'. Refute it at one input. -/
def keytreeSpoilsWrong : ChangeSpec := { name := "keytreeSpoils", fn := fun _ => fun
  | [d1, d2, d3] => { results := [.lit (.bool false)], args := [d1, d2, d3] }
  | _ => none }
def KeytreeSpoilsWrongFalsely : Prop := keytreeSpoilsRow.holds Try.pinned (OpenSpec.ofChange keytreeSpoilsWrong)

/-- 'admissionlaw09.KeytreeKeys': WHATEVER THE INPUT: true; the input reads as it did. -/
def keytreeKeysSpec : ChangeSpec := { name := "keytreeKeys", fn := fun _ => fun
  | [d1, d2, d3] => { results := [.lit (.bool true)], args := [d1, d2, d3] }
  | _ => none }
def keytreeKeysRow : OpenClaim := { program := "ytlnbeglelhdjfaa", sum := "aa96a68f114bb4978ba900489856961a382bcee49987ed37a556e1e8d113a166", func := "admission/admissionlaw09.KeytreeKeys", spec := "keytreeKeys", unfollowed := true, recurses := true, apart := false }
def KeytreeKeysSaid : Prop := keytreeKeysRow.holds Try.pinned (OpenSpec.ofChange keytreeKeysSpec)

/-- ITS FALSE NEIGHBOUR: 'it returns false'. Refute it at one input. -/
def keytreeKeysWrong : ChangeSpec := { name := "keytreeKeys", fn := fun _ => fun
  | [d1, d2, d3] => { results := [.lit (.bool false)], args := [d1, d2, d3] }
  | _ => none }
def KeytreeKeysWrongFalsely : Prop := keytreeKeysRow.holds Try.pinned (OpenSpec.ofChange keytreeKeysWrong)

/- THE SECOND FORM. 'bulk': how many values and letters a reading holds, each counted each time it is reached (what is shared counts as often as it is met; a slice's spare places count too). A statement '..UptoSaid' is the law's where the arguments, and the package variables that the reading takes, are together of bulk at most 1048576: NARROWER than '..Said'. Prove '..Said' where nothing that the law and all that it calls make is longer than what came in: it says more and counts as full. Else prove '..UptoSaid'. A law counts once. -/
mutual
def uptoBulk {H : Type} : DataW H → Nat
  | .lit (.string bytes) => bytes.length + 1
  | .lit _ => 1
  | .nil => 1
  | .ptr d => uptoBulk d + 1
  | .slice elems spare => uptoBulkAll elems + uptoBulkAll spare + 1
  | .agg parts => uptoBulkAll parts + 1
  | .iface _ d => uptoBulk d + 1
  | .map entries => uptoBulkEntries entries + 1
  | .held _ => 1
def uptoBulkAll {H : Type} : List (DataW H) → Nat
  | [] => 0
  | d :: r => uptoBulk d + uptoBulkAll r
def uptoBulkEntries {H : Type} : List (Lit × DataW H) → Nat
  | [] => 0
  | x :: r => uptoBulkEntry x + uptoBulkEntries r
def uptoBulkEntry {H : Type} : Lit × DataW H → Nat
  | (.string bytes, d) => bytes.length + uptoBulk d + 1
  | (_, d) => uptoBulk d + 1
 end
def uptoSmall : (H : Type) → List (DataW H) → Bool := fun _ ds => decide (uptoBulkAll ds ≤ 1048576)
def OpenSpec.upto (s : _root_.Go.ChangeSpec) : _root_.Go.OpenSpec := { _root_.Go.OpenSpec.ofChange s with cond := some uptoSmall }

/-- 'admissionlaw09.KeytreeSigns', WHERE WHAT IT READS IS OF BULK AT MOST 1048576: true; the input reads as it did. -/
def keytreeSignsUptoRow : OpenClaim := { program := "ytlnbeglelhdjfaa", sum := "aa96a68f114bb4978ba900489856961a382bcee49987ed37a556e1e8d113a166", func := "admission/admissionlaw09.KeytreeSigns", spec := "keytreeSigns", unfollowed := true, recurses := true, apart := false, narrowed := true }
def KeytreeSignsUptoSaid : Prop := keytreeSignsUptoRow.holds Try.pinned (OpenSpec.upto keytreeSignsSpec)

/-- 'admissionlaw09.KeytreeVerifies', WHERE WHAT IT READS IS OF BULK AT MOST 1048576: true; the input reads as it did. -/
def keytreeVerifiesUptoRow : OpenClaim := { program := "ytlnbeglelhdjfaa", sum := "aa96a68f114bb4978ba900489856961a382bcee49987ed37a556e1e8d113a166", func := "admission/admissionlaw09.KeytreeVerifies", spec := "keytreeVerifies", unfollowed := true, recurses := true, apart := false, narrowed := true }
def KeytreeVerifiesUptoSaid : Prop := keytreeVerifiesUptoRow.holds Try.pinned (OpenSpec.upto keytreeVerifiesSpec)

/-- 'admissionlaw09.KeytreeChecks', WHERE WHAT IT READS IS OF BULK AT MOST 1048576: true; the input reads as it did. -/
def keytreeChecksUptoRow : OpenClaim := { program := "ytlnbeglelhdjfaa", sum := "aa96a68f114bb4978ba900489856961a382bcee49987ed37a556e1e8d113a166", func := "admission/admissionlaw09.KeytreeChecks", spec := "keytreeChecks", unfollowed := true, recurses := true, apart := false, narrowed := true }
def KeytreeChecksUptoSaid : Prop := keytreeChecksUptoRow.holds Try.pinned (OpenSpec.upto keytreeChecksSpec)

/-- 'admissionlaw09.KeytreeSpoils', WHERE WHAT IT READS IS OF BULK AT MOST 1048576: true; the input reads as it did. -/
def keytreeSpoilsUptoRow : OpenClaim := { program := "ytlnbeglelhdjfaa", sum := "aa96a68f114bb4978ba900489856961a382bcee49987ed37a556e1e8d113a166", func := "admission/admissionlaw09.KeytreeSpoils", spec := "keytreeSpoils", unfollowed := true, recurses := true, apart := false, narrowed := true }
def KeytreeSpoilsUptoSaid : Prop := keytreeSpoilsUptoRow.holds Try.pinned (OpenSpec.upto keytreeSpoilsSpec)

/-- 'admissionlaw09.KeytreeKeys', WHERE WHAT IT READS IS OF BULK AT MOST 1048576: true; the input reads as it did. -/
def keytreeKeysUptoRow : OpenClaim := { program := "ytlnbeglelhdjfaa", sum := "aa96a68f114bb4978ba900489856961a382bcee49987ed37a556e1e8d113a166", func := "admission/admissionlaw09.KeytreeKeys", spec := "keytreeKeys", unfollowed := true, recurses := true, apart := false, narrowed := true }
def KeytreeKeysUptoSaid : Prop := keytreeKeysUptoRow.holds Try.pinned (OpenSpec.upto keytreeKeysSpec)

end Rows
end Go.Proofs.Ytlnbeglelhdjfaa

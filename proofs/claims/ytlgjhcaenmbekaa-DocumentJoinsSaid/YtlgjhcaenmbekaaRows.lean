/-
  No cell of these rows narrows 'for every input' (looked for: loops, veiled, ifaces, maps, wideKeys, modest, calm, conditions, laid).
  DERIVED. THE GIVEN ROWS OF THIS SEAT. 5 by the template 'for every input the law returns true; each argument reads behind the call as it read before'; 0 by the template 'total and deterministic' (their statements: YtlgjhcaenmbekaaTotals.lean).
  GIVEN WITH THE SEED: the statements are not yours to turn. If you find one false, say at which input.
  Laid BY PROGRAM, IN A SANDBOX (cutbox-rows.mjs): the forced cells as the released guide's own fill.sh prints them over the translation e6820f8ee6e3455f… (all of the seat's roots in one cut). By AI agents, Wed Nov 11 2026. No macro, syntax, notation, axiom, sorry.
-/
import Derived.Test.YtlgjhcaenmbekaaChecked
import GoSem.Claim
import GoSem.ClaimJoined
import GoSem.ClaimMapViews
import Derived.JoinedTies
import Derived.KernelRfl
namespace Go.Proofs.Ytlgjhcaenmbekaa
/- THE CELL 'sum', in the pinned program and in every row, IS THE sha256 OF THE DUMP (.gsa) THAT YtlgjhcaenmbekaaProg.lean LOADS. Nothing in Lean hashes anything: it is a label: what it is worth is what the hold of that sum in a sandbox is worth. -/
noncomputable def Try.pinned : Pinned := { name := "ytlgjhcaenmbekaa", sum := "e6820f8ee6e3455fe16e4ec4c4d31d44fa2a1b069d4332a790ed088a2d7f15a9", checked := Try.checked }
namespace Rows
def none {H : Type} : Left H := { results := [], args := [] }

/-- 'admissionlaw02.DocumentEncodes': WHATEVER THE INPUT: true; the input reads as it did. -/
def documentEncodesSpec : ChangeSpec := { name := "documentEncodes", fn := fun _ => fun
  | [d] => { results := [.lit (.bool true)], args := [d] }
  | _ => none }
def documentEncodesRow : OpenClaim := { program := "ytlgjhcaenmbekaa", sum := "e6820f8ee6e3455fe16e4ec4c4d31d44fa2a1b069d4332a790ed088a2d7f15a9", func := "admission/admissionlaw02.DocumentEncodes", spec := "documentEncodes", apart := false }
def DocumentEncodesSaid : Prop := documentEncodesRow.holds Try.pinned (OpenSpec.ofChange documentEncodesSpec)

/-- ITS FALSE NEIGHBOUR: 'it returns false'. Refute it at one input. -/
def documentEncodesWrong : ChangeSpec := { name := "documentEncodes", fn := fun _ => fun
  | [d] => { results := [.lit (.bool false)], args := [d] }
  | _ => none }
def DocumentEncodesWrongFalsely : Prop := documentEncodesRow.holds Try.pinned (OpenSpec.ofChange documentEncodesWrong)

/-- 'admissionlaw02.DocumentJoins': WHATEVER THE INPUT: true; the input reads as it did. -/
def documentJoinsSpec : ChangeSpec := { name := "documentJoins", fn := fun _ => fun
  | [d1, d2] => { results := [.lit (.bool true)], args := [d1, d2] }
  | _ => none }
def documentJoinsRow : OpenClaim := { program := "ytlgjhcaenmbekaa", sum := "e6820f8ee6e3455fe16e4ec4c4d31d44fa2a1b069d4332a790ed088a2d7f15a9", func := "admission/admissionlaw02.DocumentJoins", spec := "documentJoins", apart := false }
def DocumentJoinsSaid : Prop := documentJoinsRow.holds Try.pinned (OpenSpec.ofChange documentJoinsSpec)

/-- ITS FALSE NEIGHBOUR: 'it returns false'. Refute it at one input. -/
def documentJoinsWrong : ChangeSpec := { name := "documentJoins", fn := fun _ => fun
  | [d1, d2] => { results := [.lit (.bool false)], args := [d1, d2] }
  | _ => none }
def DocumentJoinsWrongFalsely : Prop := documentJoinsRow.holds Try.pinned (OpenSpec.ofChange documentJoinsWrong)

/-- 'admissionlaw02.DocumentNames': WHATEVER THE INPUT: true; the input reads as it did. -/
def documentNamesSpec : ChangeSpec := { name := "documentNames", fn := fun _ => fun
  | [d] => { results := [.lit (.bool true)], args := [d] }
  | _ => none }
def documentNamesRow : OpenClaim := { program := "ytlgjhcaenmbekaa", sum := "e6820f8ee6e3455fe16e4ec4c4d31d44fa2a1b069d4332a790ed088a2d7f15a9", func := "admission/admissionlaw02.DocumentNames", spec := "documentNames", apart := false }
def DocumentNamesSaid : Prop := documentNamesRow.holds Try.pinned (OpenSpec.ofChange documentNamesSpec)

/-- ITS FALSE NEIGHBOUR: 'it returns false'. Refute it at one input. -/
def documentNamesWrong : ChangeSpec := { name := "documentNames", fn := fun _ => fun
  | [d] => { results := [.lit (.bool false)], args := [d] }
  | _ => none }
def DocumentNamesWrongFalsely : Prop := documentNamesRow.holds Try.pinned (OpenSpec.ofChange documentNamesWrong)

/-- 'admissionlaw02.DocumentWords': WHATEVER THE INPUT: true; the input reads as it did. -/
def documentWordsSpec : ChangeSpec := { name := "documentWords", fn := fun _ => fun
  | [d1, d2] => { results := [.lit (.bool true)], args := [d1, d2] }
  | _ => none }
def documentWordsRow : OpenClaim := { program := "ytlgjhcaenmbekaa", sum := "e6820f8ee6e3455fe16e4ec4c4d31d44fa2a1b069d4332a790ed088a2d7f15a9", func := "admission/admissionlaw02.DocumentWords", spec := "documentWords", inPlace := ["internal/bytealg.IndexByteString"], apart := false }
def DocumentWordsSaid : Prop := documentWordsRow.holds Try.pinned (OpenSpec.ofChange documentWordsSpec)

/-- ITS FALSE NEIGHBOUR: 'it returns false'. Refute it at one input. -/
def documentWordsWrong : ChangeSpec := { name := "documentWords", fn := fun _ => fun
  | [d1, d2] => { results := [.lit (.bool false)], args := [d1, d2] }
  | _ => none }
def DocumentWordsWrongFalsely : Prop := documentWordsRow.holds Try.pinned (OpenSpec.ofChange documentWordsWrong)

/-- 'admissionlaw02.DocumentPlain': WHATEVER THE INPUT: true; the input reads as it did. -/
def documentPlainSpec : ChangeSpec := { name := "documentPlain", fn := fun _ => fun
  | [d] => { results := [.lit (.bool true)], args := [d] }
  | _ => none }
def documentPlainRow : OpenClaim := { program := "ytlgjhcaenmbekaa", sum := "e6820f8ee6e3455fe16e4ec4c4d31d44fa2a1b069d4332a790ed088a2d7f15a9", func := "admission/admissionlaw02.DocumentPlain", spec := "documentPlain", inPlace := ["internal/bytealg.IndexByteString"], apart := false }
def DocumentPlainSaid : Prop := documentPlainRow.holds Try.pinned (OpenSpec.ofChange documentPlainSpec)

/-- ITS FALSE NEIGHBOUR: 'it returns false'. Refute it at one input. -/
def documentPlainWrong : ChangeSpec := { name := "documentPlain", fn := fun _ => fun
  | [d] => { results := [.lit (.bool false)], args := [d] }
  | _ => none }
def DocumentPlainWrongFalsely : Prop := documentPlainRow.holds Try.pinned (OpenSpec.ofChange documentPlainWrong)

/- THE SECOND FORM. 'bulk': how many values and letters a reading holds, each counted each time it is reached (what is shared counts as often as it is met; a slice's spare places count too). A statement '..UptoSaid' is the law's where the arguments, and the package variables that the reading takes, are together of bulk at most 1048576: NARROWER than '..Said'. Prove '..Said' where nothing that the law and all that it calls make is longer than what came in: it says more and counts as full. Else prove '..UptoSaid'. A law counts once. -/
mutual
def uptoBulk {H : Type} : DataW H → Nat
  | .lit (.string bytes) => bytes.length + 1
  | .lit _ => 1
  | .nil => 1
  | .ptr d => uptoBulk d + 1
  | .slice elems spare => uptoBulkAll elems + uptoBulkAll spare + 1
  | .agg parts => uptoBulkAll parts + 1
  | .iface _ d => uptoBulk d + 1
  | .map entries => uptoBulkEntries entries + 1
  | .held _ => 1
def uptoBulkAll {H : Type} : List (DataW H) → Nat
  | [] => 0
  | d :: r => uptoBulk d + uptoBulkAll r
def uptoBulkEntries {H : Type} : List (Lit × DataW H) → Nat
  | [] => 0
  | x :: r => uptoBulkEntry x + uptoBulkEntries r
def uptoBulkEntry {H : Type} : Lit × DataW H → Nat
  | (.string bytes, d) => bytes.length + uptoBulk d + 1
  | (_, d) => uptoBulk d + 1
 end
def uptoSmall : (H : Type) → List (DataW H) → Bool := fun _ ds => decide (uptoBulkAll ds ≤ 1048576)
def OpenSpec.upto (s : _root_.Go.ChangeSpec) : _root_.Go.OpenSpec := { _root_.Go.OpenSpec.ofChange s with cond := some uptoSmall }

/-- 'admissionlaw02.DocumentEncodes', WHERE WHAT IT READS IS OF BULK AT MOST 1048576: true; the input reads as it did. -/
def documentEncodesUptoRow : OpenClaim := { program := "ytlgjhcaenmbekaa", sum := "e6820f8ee6e3455fe16e4ec4c4d31d44fa2a1b069d4332a790ed088a2d7f15a9", func := "admission/admissionlaw02.DocumentEncodes", spec := "documentEncodes", apart := false, narrowed := true }
def DocumentEncodesUptoSaid : Prop := documentEncodesUptoRow.holds Try.pinned (OpenSpec.upto documentEncodesSpec)

/-- 'admissionlaw02.DocumentJoins', WHERE WHAT IT READS IS OF BULK AT MOST 1048576: true; the input reads as it did. -/
def documentJoinsUptoRow : OpenClaim := { program := "ytlgjhcaenmbekaa", sum := "e6820f8ee6e3455fe16e4ec4c4d31d44fa2a1b069d4332a790ed088a2d7f15a9", func := "admission/admissionlaw02.DocumentJoins", spec := "documentJoins", apart := false, narrowed := true }
def DocumentJoinsUptoSaid : Prop := documentJoinsUptoRow.holds Try.pinned (OpenSpec.upto documentJoinsSpec)

/-- 'admissionlaw02.DocumentNames', WHERE WHAT IT READS IS OF BULK AT MOST 1048576: true; the input reads as it did. -/
def documentNamesUptoRow : OpenClaim := { program := "ytlgjhcaenmbekaa", sum := "e6820f8ee6e3455fe16e4ec4c4d31d44fa2a1b069d4332a790ed088a2d7f15a9", func := "admission/admissionlaw02.DocumentNames", spec := "documentNames", apart := false, narrowed := true }
def DocumentNamesUptoSaid : Prop := documentNamesUptoRow.holds Try.pinned (OpenSpec.upto documentNamesSpec)

/-- 'admissionlaw02.DocumentWords', WHERE WHAT IT READS IS OF BULK AT MOST 1048576: true; the input reads as it did. -/
def documentWordsUptoRow : OpenClaim := { program := "ytlgjhcaenmbekaa", sum := "e6820f8ee6e3455fe16e4ec4c4d31d44fa2a1b069d4332a790ed088a2d7f15a9", func := "admission/admissionlaw02.DocumentWords", spec := "documentWords", inPlace := ["internal/bytealg.IndexByteString"], apart := false, narrowed := true }
def DocumentWordsUptoSaid : Prop := documentWordsUptoRow.holds Try.pinned (OpenSpec.upto documentWordsSpec)

/-- 'admissionlaw02.DocumentPlain', WHERE WHAT IT READS IS OF BULK AT MOST 1048576: true; the input reads as it did. -/
def documentPlainUptoRow : OpenClaim := { program := "ytlgjhcaenmbekaa", sum := "e6820f8ee6e3455fe16e4ec4c4d31d44fa2a1b069d4332a790ed088a2d7f15a9", func := "admission/admissionlaw02.DocumentPlain", spec := "documentPlain", inPlace := ["internal/bytealg.IndexByteString"], apart := false, narrowed := true }
def DocumentPlainUptoSaid : Prop := documentPlainUptoRow.holds Try.pinned (OpenSpec.upto documentPlainSpec)

end Rows
end Go.Proofs.Ytlgjhcaenmbekaa

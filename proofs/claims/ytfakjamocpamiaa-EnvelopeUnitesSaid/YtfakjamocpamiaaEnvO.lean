/- Same of envelopes; light. -/
import Derived.Test.YtfakjamocpamiaaEnvG
set_option linter.unusedSimpArgs false
set_option linter.unusedVariables false
set_option maxRecDepth 100000
namespace Go.Adm
open Go Go.RowKit Go.Proofs.Ytfakjamocpamiaa
theorem shG_facts {s : Sg} (h : shG s = true) : 0 ≤ s.h ∧ s.h ≤ 6 ∧ s.chain.length = 68 ∧ s.path.length ≤ 6 := by
 unfold shG shapedB at h
 simp only [Bool.and_eq_true, decide_eq_true_eq, beq_iff_eq] at h
 obtain ⟨h3, _, _, h4, h5⟩ := h
 have h6 := (hOk_iff _).1 h3
 omega
/-- an envelope is not too large -/
def LightR (R : EnvR) : Prop := R.pay.length ≤ 100000 ∧ R.kind.size ≤ 300 ∧ R.sigs.length ≤ 12 ∧ ∀ s ∈ R.sigs, s.chain.length ≤ 100 ∧ s.path.length ≤ 20
def LitPost (R : EnvR) (w : World) (e : Ending) (w' : World) : Prop := (e = .returned (.bool false) ∨ (e = .returned (.bool true) ∧ LightR R)) ∧ Below w.heap.size w w'
end Go.Adm
namespace Go.Proofs.Ytfakjamocpamiaa
open Go Go.RowKit Go.Adm
end Go.Proofs.Ytfakjamocpamiaa

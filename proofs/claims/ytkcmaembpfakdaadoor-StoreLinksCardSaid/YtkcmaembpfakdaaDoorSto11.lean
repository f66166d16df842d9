/- insert of the reference. -/
import Derived.Test.YtkcmaembpfakdaaDoorSto10
set_option linter.unusedSimpArgs false
set_option linter.unusedVariables false
set_option maxRecDepth 100000
namespace Go.Adm
open Go Go.RowKit
def JIns (rs : List Res) (fs : List VF) (O0 : World → Prop) (s0 : Nat) (L : Nat → Bool) (vs : Nat → Value) (w : World) : Prop :=
  JW 3 [2] rs fs L vs w ∧ s0 ≤ w.heap.size ∧ (L 3 = false → O0 w)
section
variable {s0 : Nat} {rs : List Res} {fs : List VF} {O0 : World → Prop} {L : Nat → Bool} {vs : Nat → Value} {w w' : World}
theorem JIns.quiet {k : Nat} {v : Value} (h : JIns rs fs O0 s0 L vs w) (hg : w.grownBy w' none) (h3 : k ≠ 3) (hO : O0 w → O0 w') (hv : VF.at fs k v w') :
    JIns rs fs O0 s0 (markC L k) (fun i => if i = k then v else vs i) w' := by
  refine ⟨h.1.quiet hg h3 hv, Nat.le_trans h.2.1 hg.size, fun h1 => hO (h.2.2 (by simpa [markC, Ne.symm h3] using h1))⟩
theorem JIns.write {v : Value} {row : Option Nat} (h : JIns rs fs O0 s0 L vs w) (hg : w.grownBy w' row) (ha : Apart row rs) (hL : L 3 = false)
    (hs : ∀ j u, [2].contains j = false → j ≠ 3 → VF.at fs j u w → VF.at fs j u w') (hv : VF.at fs 3 v w') :
    JIns rs fs O0 s0 (markC L 3) (fun i => if i = 3 then v else vs i) w' :=
  ⟨h.1.write (h.1.1.step hg ha) hL hs hv, Nat.le_trans h.2.1 hg.size, fun h1 => by simp [markC] at h1⟩
end
end Go.Adm
namespace Go.Proofs.YtkcmaembpfakdaaDoor
open Go Go.RowKit Go.Adm

end Go.Proofs.YtkcmaembpfakdaaDoor

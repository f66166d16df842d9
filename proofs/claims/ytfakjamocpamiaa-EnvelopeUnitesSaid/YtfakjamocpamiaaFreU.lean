/- Two boxes made in one drawn region differ. -/
import Derived.Test.YtfakjamocpamiaaFreQ
set_option linter.unusedSimpArgs false
set_option linter.unusedVariables false
namespace Go.Adm
open Go Go.RowKit
section
variable {i j : Nat} {rs : List Res} {fs : List VF} {L : Nat → Bool} {vs : Nat → Value} {w w' : World}
theorem JTwo.fst {v : Value} (h : JTwo i j rs fs L vs w) (hij : i ≠ j) (hg : w.grownBy w' none) (hv : VF.at fs i v w') (hn : ∀ u, VF.at fs j u w → v ≠ u) : JTwo i j rs fs (markC L i) (fun x => if x = i then v else vs x) w' := by
 refine ⟨h.1.quiet hg, h.facts hg hv, fun _ h2 => ?_⟩
 have h4 : L j = true := by simpa [markC, Ne.symm hij] using h2
 show (if i = i then v else vs i) ≠ (if j = i then v else vs j)
 rw [if_pos rfl, if_neg (Ne.symm hij)]
 exact hn _ (h.2.1 j h4)
theorem JTwo.snd {v : Value} (h : JTwo i j rs fs L vs w) (hij : i ≠ j) (hg : w.grownBy w' none) (hv : VF.at fs j v w') (hn : ∀ u, VF.at fs i u w → v ≠ u) : JTwo i j rs fs (markC L j) (fun x => if x = j then v else vs x) w' := by
 refine ⟨h.1.quiet hg, h.facts hg hv, fun h1 _ => ?_⟩
 have h4 : L i = true := by simpa [markC, hij] using h1
 show (if i = j then v else vs i) ≠ (if j = j then v else vs j)
 rw [if_pos rfl, if_neg hij]
 exact fun e => hn _ (h.2.1 i h4) e.symm
end
end Go.Adm

/- Opening structs: their fields one by one. -/
import Derived.Test.YtfakjamocpamiaaOpen
import Derived.OpenShut
set_option linter.unusedSimpArgs false
set_option linter.unusedVariables false
set_option maxRecDepth 100000
namespace Go.Adm
open Go Go.RowKit Go.ChangeShapes Go.WideShapes Go.Deep
section
variable {H : Type} {enc : TypeId × Value → H} {P : Program} {w : World} {base : Nat} {spare : Nat → Bool} {held : Bool}
/-- a field, and what is small of it -/
theorem fldS {t : TypeId} {fs : Array Field} {fuel : Nat} {cs : List Value} {x : DataW H × List MemPlace} (ht : P.underlying t = some (.struct fs)) (h : DataW.trod enc P w base spare held fuel t cs = some x) (hs : Small P t x.1) (i : Nat) (f : Field) (hf : fs[i]? = some f) :
  ∃ m y, DataW.trod enc P w base spare held m f.type ((cs.drop f.offset).take (P.cellsOf f.type)) = some y ∧ Small P f.type y.1 := by
 obtain ⟨xs, n, _, rfl, hl, hlen, hi⟩ := DataW.trod_struct ht h
 have hlt : i < xs.length := by
  rw [hlen]
  rw [Array.getElem?_eq_some_iff] at hf
  obtain ⟨h1, _⟩ := hf
  simpa using h1
 have := hi i f (by simpa using hf)
 rw [List.getElem?_eq_getElem hlt] at this
 refine ⟨n, _, this, fun z hz => hs z ?_⟩
 simp only [DataW.weights, ht]
 exact DataW.weights_mem_each (j := i) (by simp [hf]) (by rw [List.getElem?_map, List.getElem?_eq_getElem hlt]; rfl) z hz
end
end Go.Adm

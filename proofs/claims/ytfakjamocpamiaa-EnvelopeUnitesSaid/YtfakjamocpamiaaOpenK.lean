/- Opening arrays of bytes, structs with arrays in them, slices of arrays of bytes. Opening the parameters of the laws on key trees. -/
import Derived.Test.YtfakjamocpamiaaOpen
import Derived.Test.YtfakjamocpamiaaKyG
import Derived.OpenShut
set_option linter.unusedSimpArgs false
set_option linter.unusedVariables false
set_option maxRecDepth 100000
namespace Go.Adm
open Go Go.RowKit Go.ChangeShapes Go.WideShapes Go.Deep

section
variable {H : Type} {enc : TypeId × Value → H} {P : Program} {w : World} {base : Nat} {spare : Nat → Bool} {held : Bool}

end
end Go.Adm
namespace Go.Proofs.Ytfakjamocpamiaa
open Go Go.RowKit Go.Adm Go.ChangeShapes Go.WideShapes Go.Deep

section
variable {H : Type} {enc : TypeId × Value → H} {w : World} {base b0 : Nat} {held : Bool} {r : Reach} {v : Value} {d : DataW H} {ps : List MemPlace}
theorem fld {P : Program} {t : TypeId} {fs : Array Field} {fuel : Nat} {cs : List Value} {x : DataW H × List MemPlace} (ht : P.underlying t = some (.struct fs)) (h : DataW.trod enc P w base (fun _ => true) held fuel t cs = some x) (i : Nat) (f : Field) (hf : fs[i]? = some f) :
  ∃ m y, DataW.trod enc P w base (fun _ => true) held m f.type ((cs.drop f.offset).take (P.cellsOf f.type)) = some y := by
 obtain ⟨xs, n, _, rfl, hl, hlen, hi⟩ := DataW.trod_struct ht h
 have hlt : i < xs.length := by
  rw [hlen]
  rw [Array.getElem?_eq_some_iff] at hf
  obtain ⟨h1, _⟩ := hf
  simpa using h1
 have := hi i f (by simpa using hf)
 rw [List.getElem?_eq_getElem hlt] at this
 exact ⟨n, _, this⟩
end
end Go.Proofs.Ytfakjamocpamiaa

/- Invert; equality of lists of entries and of changes. -/
import Derived.Test.YtipepcjiogifaaaDoorSnap3
set_option linter.unusedSimpArgs false
set_option linter.unusedVariables false
namespace Go.Adm
open Go Go.RowKit
def ResPost {α : Type} (f : α → List Value) (size : Nat) (r : List α) (err : Int) (tid : TypeId) (w : World) (e : Ending) (w' : World) : Prop :=
  ∃ A c, e = .returned (.tuple #[.slice A r.length c, .int .i64 err]) ∧ Go.Adm.Own w' w.heap.size tid size A r.length c (r.map f).flatten ∧ Below w.heap.size w w'
theorem ResPost.nil {α : Type} {f : α → List Value} {size : Nat} {err : Int} {tid : TypeId} {w w' : World} {e : Ending} (he : e = .returned (.tuple #[.slice none 0 0, .int .i64 err])) (hb : Below w.heap.size w w') : ResPost f size [] err tid w e w' :=
  ⟨none, 0, he, Own.nil _ _ _ _, hb⟩
def invS (l : List C) : List C × Int := if changesB l then (l.map invC, 0) else ([], 1)
end Go.Adm
namespace Go.Proofs.YtipepcjiogifaaaDoor
open Go Go.RowKit Go.Adm

end Go.Proofs.YtipepcjiogifaaaDoor

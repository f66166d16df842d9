/- The creation of a snapshot; the inversion's loop. -/
import Derived.Test.YtoeighacclkplaaDoorSnapMem
set_option linter.unusedSimpArgs false
set_option linter.unusedVariables false
namespace Go.Adm
open Go Go.RowKit
theorem Cells.sub {w : World} {g : Nat} {t : TypeId} {cs vs : List Value} (h : Cells w g t cs) (o : Nat) (hd : ∀ j u, vs[j]? = some u → cs[o + j]? = some u) : ∀ j u, vs[j]? = some u → w.cell? ((⟨g, o, none⟩ : Addr).add j) = some u := fun j u hu => by
  have h1 := hd j u hu
  rw [add_lit]
  rw [List.getElem?_eq_some_iff] at h1
  obtain ⟨h2, h3⟩ := h1
  rw [Cells.cell h h2, h3]
theorem ent_sub (e : E) : ∀ j u, (e.d.map bv)[j]? = some u → (entC e)[1 + j]? = some u := fun j u hu => by
  rw [Nat.add_comm, entC, List.getElem?_cons_succ]; exact hu
theorem chg_sub1 {c : C} (h : C32 c) : ∀ j u, (c.o.map bv)[j]? = some u → (chgC c)[1 + j]? = some u := fun j u hu => by
  have hj := (List.getElem?_eq_some_iff.1 hu).1
  rw [Nat.add_comm, chgC, List.getElem?_cons_succ, List.getElem?_append_left hj]; exact hu
theorem chg_sub2 {c : C} (h : C32 c) : ∀ j u, (c.n.map bv)[j]? = some u → (chgC c)[33 + j]? = some u := fun j u hu => by
  rw [show 33 + j = (32 + j) + 1 from by omega, chgC, List.getElem?_cons_succ, List.getElem?_append_right (by rw [List.length_map, h.1]; omega), List.length_map, h.1, show 32 + j - 32 = j from by omega]; exact hu
theorem flat_step {α : Type} (f : α → List Value) (l : List α) (k : Nat) (hk : k < l.length) : ((l.take (k + 1)).map f).flatten = ((l.take k).map f).flatten ++ f l[k] := by
  rw [List.take_succ_eq_append_getElem hk, List.map_append, List.flatten_append]; simp only [List.map_cons, List.map_nil, List.flatten_cons, List.flatten_nil, List.append_nil]
def OwnPost {α : Type} (f : α → List Value) (size : Nat) (l : List α) (tid : TypeId) (w : World) (e : Ending) (w' : World) : Prop := ∃ A c, e = .returned (.slice A l.length c) ∧ Go.Adm.Own w' w.heap.size tid size A l.length c (l.map f).flatten ∧ Below w.heap.size w w'
end Go.Adm
namespace Go.Proofs.YtoeighacclkplaaDoor
open Go Go.RowKit Go.Adm

end Go.Proofs.YtoeighacclkplaaDoor

/- The laws' guard on documents, as a plain function. -/
import Derived.Test.YtkcmaembpfakdaaDoorDocSpec
set_option linter.unusedSimpArgs false
set_option linter.unusedVariables false
namespace Go.Adm
open Go Go.RowKit

/-! ### the guard of the laws: documents that are not too large -/
def mW (s : ByteArray) : Nat := 1 + min s.size 100000
def mL (l : List ByteArray) : Nat := (l.map mW).sum
def mD (ls : List (List ByteArray)) : Nat := (ls.map mL).sum
def Light (ls : List (List ByteArray)) : Prop := ls.length ≤ 1200 ∧ (∀ l ∈ ls, l.length ≤ 200) ∧ mD ls ≤ 100000
theorem take_succ_get {α : Type} (l : List α) (k : Nat) (h : k < l.length) : l.take (k + 1) = l.take k ++ [l[k]] := List.take_succ_eq_append_getElem h
theorem mL_succ (l : List ByteArray) (k : Nat) (h : k < l.length) : mL (l.take (k + 1)) = mL (l.take k) + (1 + min l[k].size 100000) := by
  unfold mL; rw [take_succ_get l k h, List.map_append, List.sum_append]; simp [mW]
theorem mD_succ (ls : List (List ByteArray)) (k : Nat) (h : k < ls.length) : mD (ls.take (k + 1)) = mD (ls.take k) + mL ls[k] := by
  unfold mD; rw [take_succ_get ls k h, List.map_append, List.sum_append]; simp
theorem mD_mem {ls : List (List ByteArray)} (h : mD ls ≤ 100000) : ∀ l ∈ ls, mL l ≤ 100000 := by
  induction ls with
  | nil => simp
  | cons a r ih =>
    have h' : mL a + mD r ≤ 100000 := by simpa [mD] using h
    intro l hl
    rcases List.mem_cons.1 hl with rfl | hl
    · omega
    · exact ih (by omega) l hl
theorem Light.line {ls : List (List ByteArray)} (h : Light ls) : ∀ l ∈ ls, mL l ≤ 100000 := mD_mem h.2.2
theorem mL_mem {l : List ByteArray} (h : mL l ≤ 100000) : ∀ s ∈ l, s.size < 100000 := by
  induction l with
  | nil => simp
  | cons a r ih =>
    have h' : (1 + min a.size 100000) + mL r ≤ 100000 := by simpa [mL, mW] using h
    intro s hs
    rcases List.mem_cons.1 hs with rfl | hs
    · omega
    · exact ih (by omega) s hs
theorem Light.word {ls : List (List ByteArray)} (h : Light ls) : ∀ l ∈ ls, ∀ s ∈ l, s.size < 100000 := fun l hl => mL_mem (h.line l hl)
end Go.Adm

/- The merge of two lists by places. -/
import Derived.Test.YtipepcjiogifaaaDoorSnapMem
set_option linter.unusedSimpArgs false
set_option linter.unusedVariables false
namespace Go.Adm
open Go Go.RowKit
inductive It (a b : List C) : Type
  | l (i : Fin a.length)
  | r (j : Fin b.length)
  | e (i : Fin a.length) (j : Fin b.length)
def bothF (a b : List C) (i j : Nat) : List (It a b) :=
  if hi : i < a.length then
    if hj : j < b.length then
      if blt a[i].p b[j].p then It.l ⟨i, hi⟩ :: bothF a b (i + 1) j
      else if blt b[j].p a[i].p then It.r ⟨j, hj⟩ :: bothF a b i (j + 1)
      else It.e ⟨i, hi⟩ ⟨j, hj⟩ :: bothF a b (i + 1) (j + 1)
    else It.l ⟨i, hi⟩ :: bothF a b (i + 1) j
  else if hj : j < b.length then It.r ⟨j, hj⟩ :: bothF a b i (j + 1) else []
  termination_by (a.length - i) + (b.length - j)
def lookF (a b : List C) : It a b → Option C × Option C
  | .l i => (some a[i], none)
  | .r j => (none, some b[j])
  | .e i j => (some a[i], some b[j])
theorem bothF_l {a b : List C} {i j : Nat} (hi : i < a.length) (hj : j < b.length) (h : blt a[i].p b[j].p = true) : bothF a b i j = It.l ⟨i, hi⟩ :: bothF a b (i + 1) j := by
  rw [bothF, dif_pos hi, dif_pos hj, if_pos h]
theorem bothF_r {a b : List C} {i j : Nat} (hi : i < a.length) (hj : j < b.length) (h : blt a[i].p b[j].p = false) (h' : blt b[j].p a[i].p = true) : bothF a b i j = It.r ⟨j, hj⟩ :: bothF a b i (j + 1) := by
  rw [bothF, dif_pos hi, dif_pos hj, if_neg (by rw [h]; decide), if_pos h']
theorem bothF_e {a b : List C} {i j : Nat} (hi : i < a.length) (hj : j < b.length) (h : blt a[i].p b[j].p = false) (h' : blt b[j].p a[i].p = false) : bothF a b i j = It.e ⟨i, hi⟩ ⟨j, hj⟩ :: bothF a b (i + 1) (j + 1) := by
  rw [bothF, dif_pos hi, dif_pos hj, if_neg (by rw [h]; decide), if_neg (by rw [h']; decide)]
theorem bothF_l0 {a b : List C} {i j : Nat} (hi : i < a.length) (hj : ¬ j < b.length) : bothF a b i j = It.l ⟨i, hi⟩ :: bothF a b (i + 1) j := by
  rw [bothF, dif_pos hi, dif_neg hj]
theorem bothF_r0 {a b : List C} {i j : Nat} (hi : ¬ i < a.length) (hj : j < b.length) : bothF a b i j = It.r ⟨j, hj⟩ :: bothF a b i (j + 1) := by
  rw [bothF, dif_neg hi, dif_pos hj]
theorem bothF_0 {a b : List C} {i j : Nat} (hi : ¬ i < a.length) (hj : ¬ j < b.length) : bothF a b i j = [] := by
  rw [bothF, dif_neg hi, dif_neg hj]
theorem bothF_map (a b : List C) : ∀ (n i j : Nat), (a.length - i) + (b.length - j) ≤ n → (bothF a b i j).map (lookF a b) = both blt (a.drop i) (b.drop j)
  | n, i, j, hn => by
    by_cases hi : i < a.length
    · by_cases hj : j < b.length
      · obtain ⟨m, rfl⟩ : ∃ m, n = m + 1 := ⟨n - 1, by omega⟩
        have ea := List.drop_eq_getElem_cons hi
        have eb := List.drop_eq_getElem_cons hj
        cases h : blt a[i].p b[j].p with
        | true =>
          rw [bothF_l hi hj h, List.map_cons, bothF_map a b m (i + 1) j (by omega), ea, eb, both, if_pos h, ← eb]
          rfl
        | false =>
          cases h' : blt b[j].p a[i].p with
          | true =>
            rw [bothF_r hi hj h h', List.map_cons, bothF_map a b m i (j + 1) (by omega), ea, eb, both, if_neg (by rw [h]; decide), if_pos h', ← ea]
            rfl
          | false =>
            rw [bothF_e hi hj h h', List.map_cons, bothF_map a b m (i + 1) (j + 1) (by omega), ea, eb, both, if_neg (by rw [h]; decide), if_neg (by rw [h']; decide)]
            rfl
      · obtain ⟨m, rfl⟩ : ∃ m, n = m + 1 := ⟨n - 1, by omega⟩
        have ea := List.drop_eq_getElem_cons hi
        have eb : b.drop j = [] := List.drop_eq_nil_of_le (by omega)
        rw [bothF_l0 hi hj, List.map_cons, bothF_map a b m (i + 1) j (by omega), ea, eb, both]
        rfl
    · by_cases hj : j < b.length
      · obtain ⟨m, rfl⟩ : ∃ m, n = m + 1 := ⟨n - 1, by omega⟩
        have ea : a.drop i = [] := List.drop_eq_nil_of_le (by omega)
        have eb := List.drop_eq_getElem_cons hj
        rw [bothF_r0 hi hj, List.map_cons, bothF_map a b m i (j + 1) (by omega), ea, eb, both]
        rfl
      · rw [bothF_0 hi hj, List.drop_eq_nil_of_le (by omega), List.drop_eq_nil_of_le (by omega), both]
        rfl
theorem bothF_len (a b : List C) : ∀ (n i j : Nat), (a.length - i) + (b.length - j) ≤ n → (bothF a b i j).length ≤ n
  | n, i, j, hn => by
    by_cases hi : i < a.length
    · obtain ⟨m, rfl⟩ : ∃ m, n = m + 1 := ⟨n - 1, by omega⟩
      by_cases hj : j < b.length
      · cases h : blt a[i].p b[j].p with
        | true => rw [bothF_l hi hj h, List.length_cons]; have := bothF_len a b m (i + 1) j (by omega); omega
        | false =>
          cases h' : blt b[j].p a[i].p with
          | true => rw [bothF_r hi hj h h', List.length_cons]; have := bothF_len a b m i (j + 1) (by omega); omega
          | false => rw [bothF_e hi hj h h', List.length_cons]; have := bothF_len a b m (i + 1) (j + 1) (by omega); omega
      · rw [bothF_l0 hi hj, List.length_cons]; have := bothF_len a b m (i + 1) j (by omega); omega
    · by_cases hj : j < b.length
      · obtain ⟨m, rfl⟩ : ∃ m, n = m + 1 := ⟨n - 1, by omega⟩
        rw [bothF_r0 hi hj, List.length_cons]; have := bothF_len a b m i (j + 1) (by omega); omega
      · rw [bothF_0 hi hj]; simp
def ptrA (A : Option Addr) (i : Nat) : Value := .pointer (A.map fun ad => ad.add (i * 65))
def encI (A1 A2 : Option Addr) (a b : List C) : It a b → Array Value
  | .l i => #[ptrA A1 i.val, .pointer none]
  | .r j => #[.pointer none, ptrA A2 j.val]
  | .e i j => #[ptrA A1 i.val, ptrA A2 j.val]
def KpR (rs : List Res) (W W' : World) : Prop := All W rs → All W' rs
end Go.Adm

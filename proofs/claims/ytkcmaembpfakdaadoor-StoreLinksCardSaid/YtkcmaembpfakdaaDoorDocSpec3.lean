/- Lines and documents, written step by step. -/
import Derived.Test.YtkcmaembpfakdaaDoorDocSpec2
set_option linter.unusedSimpArgs false
set_option linter.unusedVariables false
namespace Go.Adm
open Go Go.RowKit

theorem linesE_at {ls : List (List ByteArray)} {k : Nat} (hk : k < ls.length) (h0 : ∀ j (hj : j < ls.length), j < k → lineE ls[j] = 0) (h : lineE ls[k] ≠ 0) : linesE ls = lineE ls[k] := by
  induction ls generalizing k with
  | nil => simp at hk
  | cons a r ih =>
    cases k with
    | zero => simp only [List.getElem_cons_zero] at *; simp [linesE, h]
    | succ k =>
      have ha : lineE a = 0 := h0 0 (by simp) (by omega)
      simp only [List.getElem_cons_succ] at *
      have := ih (k := k) (by simpa using hk) (fun j hj hjk => h0 (j + 1) (by simpa using hj) (by omega)) h
      simp [linesE, ha, this]
theorem linesE_all {ls : List (List ByteArray)} (h0 : ∀ j (hj : j < ls.length), lineE ls[j] = 0) : linesE ls = 0 :=
  linesE_zero.2 fun l hl => by
    obtain ⟨j, hj, rfl⟩ := List.getElem_of_mem hl
    exact h0 j hj
def tW (ls : List (List ByteArray)) : Nat := (ls.map lenW).sum
theorem tW_succ (ls : List (List ByteArray)) (k : Nat) (h : k < ls.length) : tW (ls.take (k + 1)) = tW (ls.take k) + lenW ls[k] := by
  unfold tW; rw [take_succ_get ls k h, List.map_append, List.sum_append]; simp
theorem lenW_succ (l : List ByteArray) (k : Nat) (h : k < l.length) : lenW (l.take (k + 1)) = lenW (l.take k) + ((wordS (bs l[k])).length + 1) := by
  rw [take_succ_get l k h, lenW_snoc]
theorem tW_encD {ls : List (List ByteArray)} (h : linesE ls = 0) : tW ls = (encD ls).length := by
  induction ls with
  | nil => rfl
  | cons l r ih =>
    have h0 := linesE_zero.1 h
    obtain ⟨h1, _, _⟩ := lineE_zero (h0 l (by simp))
    have h4 := ih (linesE_zero.2 fun x hx => h0 x (by simp [hx]))
    have h5 := lineS_len l (by intro he; rw [he] at h1; simp at h1)
    simp only [encD, tW, List.map_cons, List.sum_cons, List.flatMap_cons, List.length_append] at *
    omega
theorem tW_le {ls : List (List ByteArray)} (h : linesE ls = 0) : tW ls ≤ 11796720 * ls.length := by rw [tW_encD h]; exact encD_le h
theorem linesE_take {ls : List (List ByteArray)} (h : linesE ls = 0) (k : Nat) : linesE (ls.take k) = 0 := linesE_zero.2 fun l hl => linesE_zero.1 h l (List.mem_of_mem_take hl)
theorem lenW_take_le {l : List ByteArray} (h : lineE l = 0) (k : Nat) : lenW (l.take k) ≤ 11796720 := by
  obtain ⟨_, h2, h3⟩ := lineE_zero h
  have := lenW_le (l := l.take k) fun w hw => h3 w (List.mem_of_mem_take hw)
  have h4 := List.length_take_le k l
  have h5 := List.length_take_le' k l
  omega

/-- a line's words as far as they are written -/
def partL (l : List ByteArray) (j : Nat) : List UInt8 := (wordsS (l.take j)).drop 1
theorem partL_zero (l : List ByteArray) : partL l 0 = [] := by simp [partL, wordsS]
theorem partL_one (l : List ByteArray) (h : 0 < l.length) : partL l 1 = wordS (bs l[0]) := by
  cases l with
  | nil => simp at h
  | cons w r => simp [partL, wordsS]
theorem partL_succ (l : List ByteArray) (j : Nat) (h0 : 0 < j) (h : j < l.length) : partL l (j + 1) = partL l j ++ 32 :: wordS (bs l[j]) := by
  unfold partL
  rw [take_succ_get l j h, wordsS_append, List.drop_append_of_le_length]
  · simp [wordsS]
  · cases l with
    | nil => simp at h
    | cons w r =>
      cases j with
      | zero => omega
      | succ j => simp [wordsS]
theorem partL_all (l : List ByteArray) (j : Nat) (h : l.length ≤ j) : partL l j ++ [10] = lineS l := by
  unfold partL lineS; rw [List.take_of_length_le h]
theorem partL_len (l : List ByteArray) (j : Nat) : (partL l j).length ≤ lenW (l.take j) := by
  unfold partL
  rw [List.length_drop, wordsS_len]
  omega
theorem encD_succ (ls : List (List ByteArray)) (k : Nat) (h : k < ls.length) : encD (ls.take (k + 1)) = encD (ls.take k) ++ lineS ls[k] := by
  rw [take_succ_get ls k h, encD_snoc]
theorem encD_take_le {ls : List (List ByteArray)} (h : linesE ls = 0) (k : Nat) (hl : ls.length ≤ 1000) : (encD (ls.take k)).length ≤ 11796720000 := by
  have := encD_le (linesE_take h k)
  have h5 := List.length_take_le' k ls
  omega

/-- what Encode leaves -/
def EncPost (u8 : TypeId) (ls : List (List ByteArray)) (w : World) (e : Ending) (w' : World) : Prop :=
  ∃ A n c, e = .returned (.tuple #[.slice A n c, .int .i64 (docE ls)]) ∧ Below w.heap.size w w' ∧ (docE ls = 0 → Own w' w.heap.size u8 1 A n c ((encD ls).map bv)) ∧ (docE ls ≠ 0 → A = none ∧ n = 0 ∧ c = 0)
theorem EncPost.no {u8 : TypeId} {ls : List (List ByteArray)} {w w' : World} {e : Int} (hE : docE ls = e) (h0 : e ≠ 0) (hb : Below w.heap.size w w') :
    EncPost u8 ls w (.returned (.tuple #[.slice none 0 0, .int .i64 e])) w' := ⟨none, 0, 0, by rw [hE], hb, fun h => absurd (hE ▸ h) h0, fun _ => ⟨rfl, rfl, rfl⟩⟩
theorem EncPost.yes {u8 : TypeId} {ls : List (List ByteArray)} {w w' : World} {A : Option Addr} {n c : Nat} (hE : docE ls = 0) (hb : Below w.heap.size w w') (ho : Own w' w.heap.size u8 1 A n c ((encD ls).map bv)) :
    EncPost u8 ls w (.returned (.tuple #[.slice A n c, .int .i64 0])) w' := ⟨A, n, c, by rw [hE], hb, fun _ => ho, fun h => absurd hE h⟩
theorem docE_many {ls : List (List ByteArray)} (h : 1000 < ls.length) : docE ls = 3 := by unfold docE; rw [if_pos h]
theorem docE_line {ls : List (List ByteArray)} (h : ¬ 1000 < ls.length) (h2 : linesE ls ≠ 0) : docE ls = linesE ls := by unfold docE; rw [if_neg h, if_pos h2]
theorem docE_long {ls : List (List ByteArray)} (h : ¬ 1000 < ls.length) (h2 : linesE ls = 0) (h3 : 262144 < (encD ls).length) : docE ls = 3 := by unfold docE; rw [if_neg h, if_neg (by simp [h2]), if_pos h3]
theorem docE_ok {ls : List (List ByteArray)} (h : ¬ 1000 < ls.length) (h2 : linesE ls = 0) (h3 : ¬ 262144 < (encD ls).length) : docE ls = 0 := by unfold docE; rw [if_neg h, if_neg (by simp [h2]), if_neg h3]
end Go.Adm

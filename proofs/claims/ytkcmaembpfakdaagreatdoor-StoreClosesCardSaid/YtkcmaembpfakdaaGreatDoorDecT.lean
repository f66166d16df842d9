/- Decoding as the reference does it, in plain Lean. -/
import Derived.Test.YtkcmaembpfakdaaGreatDoorDec1
import Derived.Test.YtkcmaembpfakdaaGreatDoorDoor
set_option linter.unusedSimpArgs false
set_option linter.unusedVariables false
set_option maxRecDepth 100000
namespace Go.Adm
open Go Go.RowKit
theorem splitK_splitB (c : UInt8) : ∀ (k : Nat) (s : List UInt8), Lib.count s [c] = k → Lib.splitK [c] 0 k s = splitB c s := by
  intro k
  induction k with
  | zero =>
    intro s h
    have hm : c ∉ s := fun hm => by
      obtain ⟨i, hi, _⟩ := ix_some hm
      rw [← Lib.index_one] at hi
      rw [Lib.count_hit (by simp) hi] at h
      omega
    rw [splitB_none hm]
    simp [Lib.splitK]
  | succ k ih =>
    intro s h
    by_cases h0 : Lib.index s [c] = -1
    · rw [Lib.count_miss h0] at h; omega
    · have hm : c ∈ s := by
        apply Classical.byContradiction
        intro hm
        exact h0 (by rw [Lib.index_one]; exact ix_none hm)
      obtain ⟨i, hi, h2, h3, h4⟩ := ix_some hm
      rw [← Lib.index_one] at hi
      rw [Lib.count_hit (by simp) hi] at h
      have e : splitB c s = s.take i :: splitB c (s.drop (i + 1)) := by
        have := splitB_app (s.drop (i + 1)) h3
        rwa [← h4] at this
      rw [Lib.splitK, if_neg (fun e => h0 (beq_iff_eq.1 e)), e, hi]
      rw [show (i : Int).toNat = i from rfl, ih _ (by simpa using (by omega : Lib.count (s.drop (i + [c].length)) [c] = k))]
      simp
theorem splitB_shelf (c : UInt8) (s : ByteArray) : (Lib.splitB ⟨#[c]⟩ 0 (Lib.countB s ⟨#[c]⟩) s).map (fun p => p.data.toList) = splitB c s.data.toList := by
  rw [← splitK_splitB c _ _ rfl, show Lib.count s.data.toList [c] = Lib.countB s ⟨#[c]⟩ from rfl]
  rw [show ([c] : List UInt8) = (⟨#[c]⟩ : ByteArray).data.toList from rfl, ← Lib.splitB_data]
theorem splitB_end {c x : UInt8} (hx : x ≠ c) : ∀ l : List UInt8, (splitB c (l ++ [x])).getLast (splitB_ne _ _) ≠ []
  | [] => by
    have e : splitB c ([] ++ [x]) = [[x]] := by
      show splitB c [x] = _
      rw [splitB, if_neg hx]; rfl
    simp only [e]
    simp
  | y :: l => by
    have ih := splitB_end hx l
    have hn := splitB_ne c (l ++ [x])
    by_cases hy : y = c
    · have e : splitB c (y :: l ++ [x]) = [] :: splitB c (l ++ [x]) := by
        show splitB c (y :: (l ++ [x])) = _
        rw [splitB, if_pos hy]
      simp only [e]
      rw [List.getLast_cons hn]
      exact ih
    · cases hs : splitB c (l ++ [x]) with
      | nil => exact absurd hs hn
      | cons p ps =>
        have e : splitB c (y :: l ++ [x]) = (y :: p) :: ps := by
          show splitB c (y :: (l ++ [x])) = _
          rw [splitB, if_neg hy, hs]
        simp only [e]
        simp only [hs] at ih
        cases ps with
        | nil => simp
        | cons q qs =>
          rw [List.getLast_cons (by simp)]
          rw [List.getLast_cons (by simp)] at ih
          exact ih
theorem decO_bad {b : List UInt8} {x : UInt8} (hx : x ≠ 10) : decO (b ++ [x]) = none := by
  unfold decO
  rw [if_neg (splitB_end hx b)]
theorem decO_good (b : List UInt8) : decO (b ++ [10]) = linesO (splitB 10 b) := by
  have e := splitB_last 10 b
  have e2 : (splitB 10 (b ++ [10])).getLast (splitB_ne _ _) = [] := by simp only [e]; simp
  unfold decO
  rw [if_pos e2, e, List.dropLast_concat]
/-- the words of rows, no line being looked at -/
def rowsO : List (List UInt8) → Option (List (List ByteArray))
  | [] => some []
  | p :: ps => match wordsO (splitB 32 p) with
    | none => none
    | some w => (rowsO ps).map (w :: ·)
theorem rowsO_app : ∀ (a b : List (List UInt8)), rowsO (a ++ b) = (rowsO a).bind fun x => (rowsO b).map (x ++ ·)
  | [], b => by
    show rowsO b = (rowsO b).map ([] ++ ·)
    cases rowsO b <;> rfl
  | p :: a, b => by
    show rowsO (p :: (a ++ b)) = _
    rw [rowsO, rowsO, rowsO_app a b]
    cases wordsO (splitB 32 p) with
    | none => rfl
    | some w => cases rowsO a <;> cases rowsO b <;> rfl
theorem linesO_rows : ∀ (ps : List (List UInt8)), linesO ps = (rowsO ps).bind fun ls => if linesE ls = 0 then some ls else none
  | [] => rfl
  | p :: ps => by
    rw [linesO, rowsO, linesO_rows ps]
    unfold lineO
    cases hw : wordsO (splitB 32 p) with
    | none => rfl
    | some w =>
      cases hr : rowsO ps with
      | none =>
        by_cases hl : lineE w = 0
        · simp [hl]
        · simp [hl]
      | some ls =>
        by_cases hl : lineE w = 0
        · have e : linesE (w :: ls) = linesE ls := by
            show (if lineE w ≠ 0 then lineE w else linesE ls) = _
            rw [if_neg (by simp [hl])]
          by_cases h2 : linesE ls = 0
          · simp [hl, e, h2]
          · simp [hl, e, h2]
        · have e : linesE (w :: ls) = lineE w := by
            show (if lineE w ≠ 0 then lineE w else linesE ls) = _
            rw [if_pos hl]
          simp [hl, e]
theorem decR_rowsNone {b : List UInt8} (h : ¬ 262144 < (b ++ [10]).length) (hr : rowsO (splitB 10 b) = none) : decR (b ++ [10]) = ([], 2) :=
  decR_none h (by rw [decO_good, linesO_rows, hr]; rfl)
theorem decR_rows {b : List UInt8} {ls : List (List ByteArray)} (h : ¬ 262144 < (b ++ [10]).length) (hr : rowsO (splitB 10 b) = some ls) : decR (b ++ [10]) = if docE ls = 0 then (ls, 0) else ([], 2) := by
  by_cases h2 : linesE ls = 0
  · have hd : decO (b ++ [10]) = some ls := by rw [decO_good, linesO_rows, hr]; exact if_pos h2
    have he := (decO_enc hd).1
    by_cases h3 : 1000 < ls.length
    · rw [decR_many h hd h3, if_neg (by rw [docE_many h3]; decide)]
    · rw [if_pos (docE_ok h3 h2 (by rw [he]; exact h))]
      unfold decR
      rw [if_neg h, hd]
      exact if_neg h3
  · have hd : decO (b ++ [10]) = none := by rw [decO_good, linesO_rows, hr]; exact if_neg h2
    rw [decR_none h hd, if_neg]
    intro h0
    exact h2 (docE_zero h0).2.1
end Go.Adm

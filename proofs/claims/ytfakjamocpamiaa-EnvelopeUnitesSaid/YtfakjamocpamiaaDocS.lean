/- What the functions of package document compute, as plain functions on lists of bytes. The laws' guard on documents, as a plain function. Lines and documents, written step by step. -/
import Derived.Test.YtfakjamocpamiaaGen1
set_option linter.unusedSimpArgs false
set_option linter.unusedVariables false
namespace Go.Adm
open Go Go.RowKit

abbrev bs (s : ByteArray) : List UInt8 := s.data.toList
theorem bs_len (s : ByteArray) : (bs s).length = s.size := by simp
theorem bs_take_succ (s : ByteArray) (k : Nat) (h : k < s.size) : (bs s).take (k + 1) = (bs s).take k ++ [s[k]] := by
  rw [List.take_succ_eq_append_getElem (by simpa using h)]; rfl
theorem bs_take_all (s : ByteArray) (k : Nat) (h : ¬ k < s.size) : (bs s).take k = bs s := List.take_of_length_le (by simp; omega)
theorem byte_lt (c : UInt8) : (c.toNat : Int) ≤ 255 := by have := c.toNat_lt; omega

/-- a byte that stands for itself in an encoded word -/
def plainB (c : Int) : Bool := decide (33 ≤ c ∧ c ≤ 125 ∧ c ≠ 37)
def plainU (c : UInt8) : Bool := plainB (c.toNat : Int)
def hexd (c : UInt8) : UInt8 := if c < 10 then 48 + c else 55 + c
def encB (c : UInt8) : List UInt8 := if plainU c then [c] else [37, hexd (c >>> 4), hexd (c &&& 15)]
def encW (l : List UInt8) : List UInt8 := l.flatMap encB
def wordS (l : List UInt8) : List UInt8 := if l = [] then [126] else encW l

theorem encW_snoc (l : List UInt8) (c : UInt8) : encW (l ++ [c]) = encW l ++ encB c := by simp [encW]
theorem encW_succ (s : ByteArray) (k : Nat) (h : k < s.size) : encW ((bs s).take (k + 1)) = encW ((bs s).take k) ++ encB s[k] := by rw [bs_take_succ s k h, encW_snoc]
theorem encB_len (c : UInt8) : (encB c).length = if plainU c then 1 else 3 := by unfold encB; split <;> rfl
theorem encW_len (l : List UInt8) : (encW l).length ≤ 3 * l.length := by
  induction l with
  | nil => simp [encW]
  | cons a t ih => simp only [encW, List.flatMap_cons, List.length_append, List.length_cons] at *; have := encB_len a; split at this <;> omega
theorem encW_ge (l : List UInt8) : l.length ≤ (encW l).length := by
  induction l with
  | nil => simp [encW]
  | cons a t ih => simp only [encW, List.flatMap_cons, List.length_append, List.length_cons] at *; have := encB_len a; split at this <;> omega
theorem encW_take (l : List UInt8) (k : Nat) : (encW (l.take k)).length ≤ 3 * k := by
  have h1 := encW_len (l.take k)
  have h2 := List.length_take_le k l
  omega
theorem wordS_len (l : List UInt8) : (wordS l).length = max (encW l).length 1 := by
  unfold wordS
  split
  · next h => subst h; rfl
  · next h =>
    have := encW_ge l
    have : l.length ≠ 0 := fun h0 => h (List.eq_nil_of_length_eq_zero h0)
    omega

/-- the encoded form of a line, and of lines -/
def wordsS : List ByteArray → List UInt8
  | [] => []
  | w :: r => 32 :: (wordS (bs w) ++ wordsS r)
def lineS (l : List ByteArray) : List UInt8 := (wordsS l).drop 1 ++ [10]
def encD (ls : List (List ByteArray)) : List UInt8 := ls.flatMap lineS
def lenW (l : List ByteArray) : Nat := (l.map fun w => (wordS (bs w)).length + 1).sum

theorem wordsS_append (a b : List ByteArray) : wordsS (a ++ b) = wordsS a ++ wordsS b := by
  induction a with
  | nil => rfl
  | cons w r ih => simp [wordsS, ih]
theorem wordsS_len (l : List ByteArray) : (wordsS l).length = lenW l := by
  induction l with
  | nil => rfl
  | cons w r ih => simp only [wordsS, lenW, List.length_cons, List.length_append, List.map_cons, List.sum_cons] at *; omega
theorem lineS_len (l : List ByteArray) (h : l ≠ []) : (lineS l).length = lenW l := by
  have := wordsS_len l
  cases l with
  | nil => exact absurd rfl h
  | cons w r => simp only [lineS, List.length_append, List.length_drop, List.length_cons, List.length_nil, wordsS] at *; omega
theorem lenW_snoc (l : List ByteArray) (w : ByteArray) : lenW (l ++ [w]) = lenW l + ((wordS (bs w)).length + 1) := by simp [lenW]
theorem encD_snoc (ls : List (List ByteArray)) (l : List ByteArray) : encD (ls ++ [l]) = encD ls ++ lineS l := by simp [encD]
/-- the error of a line, of all lines, of a document -/
def lineE (l : List ByteArray) : Int := if l.length = 0 then 1 else if 120 < l.length then 3 else if l.any (fun w => decide (32768 < w.size)) then 3 else 0
def linesE : List (List ByteArray) → Int
  | [] => 0
  | l :: r => if lineE l ≠ 0 then lineE l else linesE r
def docE (ls : List (List ByteArray)) : Int := if 1000 < ls.length then 3 else if linesE ls ≠ 0 then linesE ls else if 262144 < (encD ls).length then 3 else 0

theorem linesE_zero {ls : List (List ByteArray)} : linesE ls = 0 ↔ ∀ l ∈ ls, lineE l = 0 := by
  induction ls with
  | nil => simp [linesE]
  | cons l r ih =>
    unfold linesE
    split
    · next h => constructor <;> intro h2
                · exact absurd h2 h
                · exact absurd (h2 l (by simp)) h
    · next h => rw [ih]; simp at h; simp [h]
theorem lineE_zero {l : List ByteArray} (h : lineE l = 0) : 0 < l.length ∧ l.length ≤ 120 ∧ ∀ w ∈ l, w.size ≤ 32768 := by
  unfold lineE at h
  split at h
  · cases h
  · split at h
    · cases h
    · split at h
      · cases h
      · next h1 h2 h3 =>
        refine ⟨by omega, by omega, fun w hw => ?_⟩
        rw [List.any_eq_true] at h3
        rcases Nat.lt_or_ge 32768 w.size with hlt | hge
        · exact absurd ⟨w, hw, by simpa using hlt⟩ h3
        · exact hge
theorem lenW_le {l : List ByteArray} (hw : ∀ w ∈ l, w.size ≤ 32768) : lenW l ≤ 98306 * l.length := by
  induction l with
  | nil => simp [lenW]
  | cons w r ih =>
    have h1 := ih fun x hx => hw x (by simp [hx])
    have h2 := hw w (by simp)
    have h3 := encW_len (bs w)
    have h4 := wordS_len (bs w)
    rw [bs_len] at h3
    simp only [lenW, List.map_cons, List.sum_cons, List.length_cons] at *
    omega
theorem encD_le {ls : List (List ByteArray)} (h : linesE ls = 0) : (encD ls).length ≤ 11796720 * ls.length := by
  induction ls with
  | nil => simp [encD]
  | cons l r ih =>
    have h0 := linesE_zero.1 h
    obtain ⟨h1, h2, h3⟩ := lineE_zero (h0 l (by simp))
    have h4 := ih (linesE_zero.2 fun x hx => h0 x (by simp [hx]))
    have h5 := lineS_len l (by intro he; rw [he] at h1; simp at h1)
    have h6 := lenW_le h3
    simp only [encD, List.flatMap_cons, List.length_append, List.length_cons] at *
    omega

end Go.Adm
set_option linter.unusedSimpArgs false
set_option linter.unusedVariables false
namespace Go.Adm
open Go Go.RowKit

/-! ### the guard of the laws: documents that are not too large -/
def mW (s : ByteArray) : Nat := 1 + min s.size 100000
def mL (l : List ByteArray) : Nat := (l.map mW).sum
def mD (ls : List (List ByteArray)) : Nat := (ls.map mL).sum
def Light (ls : List (List ByteArray)) : Prop := ls.length ≤ 1200 ∧ (∀ l ∈ ls, l.length ≤ 200) ∧ mD ls ≤ 100000
theorem take_succ_get {α : Type} (l : List α) (k : Nat) (h : k < l.length) : l.take (k + 1) = l.take k ++ [l[k]] := List.take_succ_eq_append_getElem h
theorem mD_mem {ls : List (List ByteArray)} (h : mD ls ≤ 100000) : ∀ l ∈ ls, mL l ≤ 100000 := by
  induction ls with
  | nil => simp
  | cons a r ih =>
    have h' : mL a + mD r ≤ 100000 := by simpa [mD] using h
    intro l hl
    rcases List.mem_cons.1 hl with rfl | hl
    · omega
    · exact ih (by omega) l hl
theorem Light.line {ls : List (List ByteArray)} (h : Light ls) : ∀ l ∈ ls, mL l ≤ 100000 := mD_mem h.2.2
theorem mL_mem {l : List ByteArray} (h : mL l ≤ 100000) : ∀ s ∈ l, s.size < 100000 := by
  induction l with
  | nil => simp
  | cons a r ih =>
    have h' : (1 + min a.size 100000) + mL r ≤ 100000 := by simpa [mL, mW] using h
    intro s hs
    rcases List.mem_cons.1 hs with rfl | hs
    · omega
    · exact ih (by omega) s hs
theorem Light.word {ls : List (List ByteArray)} (h : Light ls) : ∀ l ∈ ls, ∀ s ∈ l, s.size < 100000 := fun l hl => mL_mem (h.line l hl)
end Go.Adm
set_option linter.unusedSimpArgs false
set_option linter.unusedVariables false
namespace Go.Adm
open Go Go.RowKit

theorem linesE_at {ls : List (List ByteArray)} {k : Nat} (hk : k < ls.length) (h0 : ∀ j (hj : j < ls.length), j < k → lineE ls[j] = 0) (h : lineE ls[k] ≠ 0) : linesE ls = lineE ls[k] := by
  induction ls generalizing k with
  | nil => simp at hk
  | cons a r ih =>
    cases k with
    | zero => simp only [List.getElem_cons_zero] at *; simp [linesE, h]
    | succ k =>
      have ha : lineE a = 0 := h0 0 (by simp) (by omega)
      simp only [List.getElem_cons_succ] at *
      have := ih (k := k) (by simpa using hk) (fun j hj hjk => h0 (j + 1) (by simpa using hj) (by omega)) h
      simp [linesE, ha, this]
theorem linesE_all {ls : List (List ByteArray)} (h0 : ∀ j (hj : j < ls.length), lineE ls[j] = 0) : linesE ls = 0 :=
  linesE_zero.2 fun l hl => by
    obtain ⟨j, hj, rfl⟩ := List.getElem_of_mem hl
    exact h0 j hj
def tW (ls : List (List ByteArray)) : Nat := (ls.map lenW).sum
theorem tW_succ (ls : List (List ByteArray)) (k : Nat) (h : k < ls.length) : tW (ls.take (k + 1)) = tW (ls.take k) + lenW ls[k] := by
  unfold tW; rw [take_succ_get ls k h, List.map_append, List.sum_append]; simp
theorem lenW_succ (l : List ByteArray) (k : Nat) (h : k < l.length) : lenW (l.take (k + 1)) = lenW (l.take k) + ((wordS (bs l[k])).length + 1) := by
  rw [take_succ_get l k h, lenW_snoc]
theorem tW_encD {ls : List (List ByteArray)} (h : linesE ls = 0) : tW ls = (encD ls).length := by
  induction ls with
  | nil => rfl
  | cons l r ih =>
    have h0 := linesE_zero.1 h
    obtain ⟨h1, _, _⟩ := lineE_zero (h0 l (by simp))
    have h4 := ih (linesE_zero.2 fun x hx => h0 x (by simp [hx]))
    have h5 := lineS_len l (by intro he; rw [he] at h1; simp at h1)
    simp only [encD, tW, List.map_cons, List.sum_cons, List.flatMap_cons, List.length_append] at *
    omega
theorem tW_le {ls : List (List ByteArray)} (h : linesE ls = 0) : tW ls ≤ 11796720 * ls.length := by rw [tW_encD h]; exact encD_le h
theorem linesE_take {ls : List (List ByteArray)} (h : linesE ls = 0) (k : Nat) : linesE (ls.take k) = 0 := linesE_zero.2 fun l hl => linesE_zero.1 h l (List.mem_of_mem_take hl)
theorem lenW_take_le {l : List ByteArray} (h : lineE l = 0) (k : Nat) : lenW (l.take k) ≤ 11796720 := by
  obtain ⟨_, h2, h3⟩ := lineE_zero h
  have := lenW_le (l := l.take k) fun w hw => h3 w (List.mem_of_mem_take hw)
  have h4 := List.length_take_le k l
  have h5 := List.length_take_le' k l
  omega

/-- a line's words as far as they are written -/
def partL (l : List ByteArray) (j : Nat) : List UInt8 := (wordsS (l.take j)).drop 1
theorem partL_zero (l : List ByteArray) : partL l 0 = [] := by simp [partL, wordsS]
theorem partL_one (l : List ByteArray) (h : 0 < l.length) : partL l 1 = wordS (bs l[0]) := by
  cases l with
  | nil => simp at h
  | cons w r => simp [partL, wordsS]
theorem partL_succ (l : List ByteArray) (j : Nat) (h0 : 0 < j) (h : j < l.length) : partL l (j + 1) = partL l j ++ 32 :: wordS (bs l[j]) := by
  unfold partL
  rw [take_succ_get l j h, wordsS_append, List.drop_append_of_le_length]
  · simp [wordsS]
  · cases l with
    | nil => simp at h
    | cons w r =>
      cases j with
      | zero => omega
      | succ j => simp [wordsS]
theorem partL_all (l : List ByteArray) (j : Nat) (h : l.length ≤ j) : partL l j ++ [10] = lineS l := by
  unfold partL lineS; rw [List.take_of_length_le h]
theorem partL_len (l : List ByteArray) (j : Nat) : (partL l j).length ≤ lenW (l.take j) := by
  unfold partL
  rw [List.length_drop, wordsS_len]
  omega
theorem encD_succ (ls : List (List ByteArray)) (k : Nat) (h : k < ls.length) : encD (ls.take (k + 1)) = encD (ls.take k) ++ lineS ls[k] := by
  rw [take_succ_get ls k h, encD_snoc]
theorem encD_take_le {ls : List (List ByteArray)} (h : linesE ls = 0) (k : Nat) (hl : ls.length ≤ 1000) : (encD (ls.take k)).length ≤ 11796720000 := by
  have := encD_le (linesE_take h k)
  have h5 := List.length_take_le' k ls
  omega

/-- what Encode leaves -/
def EncPost (u8 : TypeId) (ls : List (List ByteArray)) (w : World) (e : Ending) (w' : World) : Prop :=
  ∃ A n c, e = .returned (.tuple #[.slice A n c, .int .i64 (docE ls)]) ∧ Below w.heap.size w w' ∧ (docE ls = 0 → Own w' w.heap.size u8 1 A n c ((encD ls).map bv)) ∧ (docE ls ≠ 0 → A = none ∧ n = 0 ∧ c = 0)
theorem EncPost.no {u8 : TypeId} {ls : List (List ByteArray)} {w w' : World} {e : Int} (hE : docE ls = e) (h0 : e ≠ 0) (hb : Below w.heap.size w w') :
    EncPost u8 ls w (.returned (.tuple #[.slice none 0 0, .int .i64 e])) w' := ⟨none, 0, 0, by rw [hE], hb, fun h => absurd (hE ▸ h) h0, fun _ => ⟨rfl, rfl, rfl⟩⟩
theorem EncPost.yes {u8 : TypeId} {ls : List (List ByteArray)} {w w' : World} {A : Option Addr} {n c : Nat} (hE : docE ls = 0) (hb : Below w.heap.size w w') (ho : Own w' w.heap.size u8 1 A n c ((encD ls).map bv)) :
    EncPost u8 ls w (.returned (.tuple #[.slice A n c, .int .i64 0])) w' := ⟨A, n, c, by rw [hE], hb, fun _ => ho, fun h => absurd hE h⟩
theorem docE_many {ls : List (List ByteArray)} (h : 1000 < ls.length) : docE ls = 3 := by unfold docE; rw [if_pos h]
theorem docE_line {ls : List (List ByteArray)} (h : ¬ 1000 < ls.length) (h2 : linesE ls ≠ 0) : docE ls = linesE ls := by unfold docE; rw [if_neg h, if_pos h2]
theorem docE_long {ls : List (List ByteArray)} (h : ¬ 1000 < ls.length) (h2 : linesE ls = 0) (h3 : 262144 < (encD ls).length) : docE ls = 3 := by unfold docE; rw [if_neg h, if_neg (by simp [h2]), if_pos h3]
theorem docE_ok {ls : List (List ByteArray)} (h : ¬ 1000 < ls.length) (h2 : linesE ls = 0) (h3 : ¬ 262144 < (encD ls).length) : docE ls = 0 := by unfold docE; rw [if_neg h, if_neg (by simp [h2]), if_neg h3]
end Go.Adm

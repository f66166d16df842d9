/- What the functions of package document compute, as plain functions on lists of bytes. The laws' guard on documents, as a plain function. Lines and documents, written step by step. The walks over package document and its reference: words. The walks over package document and its reference: names, lines, documents. The walks over package document and its reference: lines, documents. document.Encode. admissionref02.Encode. -/
import Derived.Test.YtjdinakdkdjocaaGreatDoorGen1
set_option linter.unusedSimpArgs false
set_option linter.unusedVariables false
namespace Go.Adm
open Go Go.RowKit

abbrev bs (s : ByteArray) : List UInt8 := s.data.toList
theorem bs_len (s : ByteArray) : (bs s).length = s.size := by simp
theorem bs_mk (l : List UInt8) : bs ⟨l.toArray⟩ = l := rfl
theorem mk_bs (s : ByteArray) : (⟨(bs s).toArray⟩ : ByteArray) = s := by cases s; simp [bs]
theorem bs_take_succ (s : ByteArray) (k : Nat) (h : k < s.size) : (bs s).take (k + 1) = (bs s).take k ++ [s[k]] := by
  rw [List.take_succ_eq_append_getElem (by simpa using h)]; rfl
theorem bs_take_all (s : ByteArray) (k : Nat) (h : ¬ k < s.size) : (bs s).take k = bs s := List.take_of_length_le (by simp; omega)
theorem byte_lt (c : UInt8) : (c.toNat : Int) ≤ 255 := by have := c.toNat_lt; omega

/-- a byte that stands for itself in an encoded word -/
def plainB (c : Int) : Bool := decide (33 ≤ c ∧ c ≤ 125 ∧ c ≠ 37)
theorem plainB_is (c : Int) : plainB c = (decide (33 ≤ c) && (decide (c ≤ 125) && (c != 37))) := by
  unfold plainB; rw [Bool.eq_iff_iff]; simp
def plainU (c : UInt8) : Bool := plainB (c.toNat : Int)
def hexd (c : UInt8) : UInt8 := if c < 10 then 48 + c else 55 + c
def encB (c : UInt8) : List UInt8 := if plainU c then [c] else [37, hexd (c >>> 4), hexd (c &&& 15)]
def encW (l : List UInt8) : List UInt8 := l.flatMap encB
def wordS (l : List UInt8) : List UInt8 := if l = [] then [126] else encW l

theorem encW_snoc (l : List UInt8) (c : UInt8) : encW (l ++ [c]) = encW l ++ encB c := by simp [encW]
theorem encW_succ (s : ByteArray) (k : Nat) (h : k < s.size) : encW ((bs s).take (k + 1)) = encW ((bs s).take k) ++ encB s[k] := by rw [bs_take_succ s k h, encW_snoc]
theorem encB_len (c : UInt8) : (encB c).length = if plainU c then 1 else 3 := by unfold encB; split <;> rfl
theorem encW_len (l : List UInt8) : (encW l).length ≤ 3 * l.length := by
  induction l with
  | nil => simp [encW]
  | cons a t ih => simp only [encW, List.flatMap_cons, List.length_append, List.length_cons] at *; have := encB_len a; split at this <;> omega
theorem encW_ge (l : List UInt8) : l.length ≤ (encW l).length := by
  induction l with
  | nil => simp [encW]
  | cons a t ih => simp only [encW, List.flatMap_cons, List.length_append, List.length_cons] at *; have := encB_len a; split at this <;> omega
theorem encW_take (l : List UInt8) (k : Nat) : (encW (l.take k)).length ≤ 3 * k := by
  have h1 := encW_len (l.take k)
  have h2 := List.length_take_le k l
  omega
theorem wordS_len (l : List UInt8) : (wordS l).length = max (encW l).length 1 := by
  unfold wordS
  split
  · next h => subst h; rfl
  · next h =>
    have := encW_ge l
    have : l.length ≠ 0 := fun h0 => h (List.eq_nil_of_length_eq_zero h0)
    omega

/-- the encoded form of a line, and of lines -/
def wordsS : List ByteArray → List UInt8
  | [] => []
  | w :: r => 32 :: (wordS (bs w) ++ wordsS r)
def lineS (l : List ByteArray) : List UInt8 := (wordsS l).drop 1 ++ [10]
def encD (ls : List (List ByteArray)) : List UInt8 := ls.flatMap lineS
def lenW (l : List ByteArray) : Nat := (l.map fun w => (wordS (bs w)).length + 1).sum

theorem wordsS_append (a b : List ByteArray) : wordsS (a ++ b) = wordsS a ++ wordsS b := by
  induction a with
  | nil => rfl
  | cons w r ih => simp [wordsS, ih]
theorem wordsS_len (l : List ByteArray) : (wordsS l).length = lenW l := by
  induction l with
  | nil => rfl
  | cons w r ih => simp only [wordsS, lenW, List.length_cons, List.length_append, List.map_cons, List.sum_cons] at *; omega
theorem lineS_len (l : List ByteArray) (h : l ≠ []) : (lineS l).length = lenW l := by
  have := wordsS_len l
  cases l with
  | nil => exact absurd rfl h
  | cons w r => simp only [lineS, List.length_append, List.length_drop, List.length_cons, List.length_nil, wordsS] at *; omega
theorem lenW_snoc (l : List ByteArray) (w : ByteArray) : lenW (l ++ [w]) = lenW l + ((wordS (bs w)).length + 1) := by simp [lenW]
theorem encD_snoc (ls : List (List ByteArray)) (l : List ByteArray) : encD (ls ++ [l]) = encD ls ++ lineS l := by simp [encD]
theorem encD_append (a b : List (List ByteArray)) : encD (a ++ b) = encD a ++ encD b := by simp [encD]

/-- the error of a line, of all lines, of a document -/
def lineE (l : List ByteArray) : Int := if l.length = 0 then 1 else if 120 < l.length then 3 else if l.any (fun w => decide (32768 < w.size)) then 3 else 0
def linesE : List (List ByteArray) → Int
  | [] => 0
  | l :: r => if lineE l ≠ 0 then lineE l else linesE r
def docE (ls : List (List ByteArray)) : Int := if 1000 < ls.length then 3 else if linesE ls ≠ 0 then linesE ls else if 262144 < (encD ls).length then 3 else 0

theorem lineE_range (l : List ByteArray) : lineE l = 0 ∨ lineE l = 1 ∨ lineE l = 3 := by unfold lineE; split <;> (try split) <;> (try split) <;> simp
theorem linesE_range (ls : List (List ByteArray)) : linesE ls = 0 ∨ linesE ls = 1 ∨ linesE ls = 3 := by
  induction ls with
  | nil => exact .inl rfl
  | cons l r ih => unfold linesE; split; exact lineE_range l; exact ih
theorem docE_range (ls : List (List ByteArray)) : docE ls = 0 ∨ docE ls = 1 ∨ docE ls = 3 := by unfold docE; split; simp; split; exact linesE_range ls; split <;> simp
theorem linesE_zero {ls : List (List ByteArray)} : linesE ls = 0 ↔ ∀ l ∈ ls, lineE l = 0 := by
  induction ls with
  | nil => simp [linesE]
  | cons l r ih =>
    unfold linesE
    split
    · next h => constructor <;> intro h2
                · exact absurd h2 h
                · exact absurd (h2 l (by simp)) h
    · next h => rw [ih]; simp at h; simp [h]
theorem linesE_append (a b : List (List ByteArray)) (h : linesE a = 0) : linesE (a ++ b) = linesE b := by
  induction a with
  | nil => rfl
  | cons l r ih =>
    have h0 := (linesE_zero.1 h)
    have h1 : lineE l = 0 := h0 l (by simp)
    have h2 : linesE r = 0 := linesE_zero.2 fun x hx => h0 x (by simp [hx])
    simp [linesE, h1, ih h2]
theorem lineE_zero {l : List ByteArray} (h : lineE l = 0) : 0 < l.length ∧ l.length ≤ 120 ∧ ∀ w ∈ l, w.size ≤ 32768 := by
  unfold lineE at h
  split at h
  · cases h
  · split at h
    · cases h
    · split at h
      · cases h
      · next h1 h2 h3 =>
        refine ⟨by omega, by omega, fun w hw => ?_⟩
        rw [List.any_eq_true] at h3
        rcases Nat.lt_or_ge 32768 w.size with hlt | hge
        · exact absurd ⟨w, hw, by simpa using hlt⟩ h3
        · exact hge
theorem lenW_le {l : List ByteArray} (hw : ∀ w ∈ l, w.size ≤ 32768) : lenW l ≤ 98306 * l.length := by
  induction l with
  | nil => simp [lenW]
  | cons w r ih =>
    have h1 := ih fun x hx => hw x (by simp [hx])
    have h2 := hw w (by simp)
    have h3 := encW_len (bs w)
    have h4 := wordS_len (bs w)
    rw [bs_len] at h3
    simp only [lenW, List.map_cons, List.sum_cons, List.length_cons] at *
    omega
theorem encD_le {ls : List (List ByteArray)} (h : linesE ls = 0) : (encD ls).length ≤ 11796720 * ls.length := by
  induction ls with
  | nil => simp [encD]
  | cons l r ih =>
    have h0 := linesE_zero.1 h
    obtain ⟨h1, h2, h3⟩ := lineE_zero (h0 l (by simp))
    have h4 := ih (linesE_zero.2 fun x hx => h0 x (by simp [hx]))
    have h5 := lineS_len l (by intro he; rw [he] at h1; simp at h1)
    have h6 := lenW_le h3
    simp only [encD, List.flatMap_cons, List.length_append, List.length_cons] at *
    omega

end Go.Adm
set_option linter.unusedSimpArgs false
set_option linter.unusedVariables false
namespace Go.Adm
open Go Go.RowKit

/-! ### the guard of the laws: documents that are not too large -/
def mW (s : ByteArray) : Nat := 1 + min s.size 100000
def mL (l : List ByteArray) : Nat := (l.map mW).sum
def mD (ls : List (List ByteArray)) : Nat := (ls.map mL).sum
def Light (ls : List (List ByteArray)) : Prop := ls.length ≤ 1200 ∧ (∀ l ∈ ls, l.length ≤ 200) ∧ mD ls ≤ 100000
theorem take_succ_get {α : Type} (l : List α) (k : Nat) (h : k < l.length) : l.take (k + 1) = l.take k ++ [l[k]] := List.take_succ_eq_append_getElem h
theorem mL_succ (l : List ByteArray) (k : Nat) (h : k < l.length) : mL (l.take (k + 1)) = mL (l.take k) + (1 + min l[k].size 100000) := by
  unfold mL; rw [take_succ_get l k h, List.map_append, List.sum_append]; simp [mW]
theorem mD_succ (ls : List (List ByteArray)) (k : Nat) (h : k < ls.length) : mD (ls.take (k + 1)) = mD (ls.take k) + mL ls[k] := by
  unfold mD; rw [take_succ_get ls k h, List.map_append, List.sum_append]; simp
theorem mD_mem {ls : List (List ByteArray)} (h : mD ls ≤ 100000) : ∀ l ∈ ls, mL l ≤ 100000 := by
  induction ls with
  | nil => simp
  | cons a r ih =>
    have h' : mL a + mD r ≤ 100000 := by simpa [mD] using h
    intro l hl
    rcases List.mem_cons.1 hl with rfl | hl
    · omega
    · exact ih (by omega) l hl
theorem Light.line {ls : List (List ByteArray)} (h : Light ls) : ∀ l ∈ ls, mL l ≤ 100000 := mD_mem h.2.2
theorem mL_mem {l : List ByteArray} (h : mL l ≤ 100000) : ∀ s ∈ l, s.size < 100000 := by
  induction l with
  | nil => simp
  | cons a r ih =>
    have h' : (1 + min a.size 100000) + mL r ≤ 100000 := by simpa [mL, mW] using h
    intro s hs
    rcases List.mem_cons.1 hs with rfl | hs
    · omega
    · exact ih (by omega) s hs
theorem Light.word {ls : List (List ByteArray)} (h : Light ls) : ∀ l ∈ ls, ∀ s ∈ l, s.size < 100000 := fun l hl => mL_mem (h.line l hl)
end Go.Adm
set_option linter.unusedSimpArgs false
set_option linter.unusedVariables false
namespace Go.Adm
open Go Go.RowKit

theorem linesE_at {ls : List (List ByteArray)} {k : Nat} (hk : k < ls.length) (h0 : ∀ j (hj : j < ls.length), j < k → lineE ls[j] = 0) (h : lineE ls[k] ≠ 0) : linesE ls = lineE ls[k] := by
  induction ls generalizing k with
  | nil => simp at hk
  | cons a r ih =>
    cases k with
    | zero => simp only [List.getElem_cons_zero] at *; simp [linesE, h]
    | succ k =>
      have ha : lineE a = 0 := h0 0 (by simp) (by omega)
      simp only [List.getElem_cons_succ] at *
      have := ih (k := k) (by simpa using hk) (fun j hj hjk => h0 (j + 1) (by simpa using hj) (by omega)) h
      simp [linesE, ha, this]
theorem linesE_all {ls : List (List ByteArray)} (h0 : ∀ j (hj : j < ls.length), lineE ls[j] = 0) : linesE ls = 0 :=
  linesE_zero.2 fun l hl => by
    obtain ⟨j, hj, rfl⟩ := List.getElem_of_mem hl
    exact h0 j hj
def tW (ls : List (List ByteArray)) : Nat := (ls.map lenW).sum
theorem tW_succ (ls : List (List ByteArray)) (k : Nat) (h : k < ls.length) : tW (ls.take (k + 1)) = tW (ls.take k) + lenW ls[k] := by
  unfold tW; rw [take_succ_get ls k h, List.map_append, List.sum_append]; simp
theorem lenW_succ (l : List ByteArray) (k : Nat) (h : k < l.length) : lenW (l.take (k + 1)) = lenW (l.take k) + ((wordS (bs l[k])).length + 1) := by
  rw [take_succ_get l k h, lenW_snoc]
theorem tW_encD {ls : List (List ByteArray)} (h : linesE ls = 0) : tW ls = (encD ls).length := by
  induction ls with
  | nil => rfl
  | cons l r ih =>
    have h0 := linesE_zero.1 h
    obtain ⟨h1, _, _⟩ := lineE_zero (h0 l (by simp))
    have h4 := ih (linesE_zero.2 fun x hx => h0 x (by simp [hx]))
    have h5 := lineS_len l (by intro he; rw [he] at h1; simp at h1)
    simp only [encD, tW, List.map_cons, List.sum_cons, List.flatMap_cons, List.length_append] at *
    omega
theorem tW_le {ls : List (List ByteArray)} (h : linesE ls = 0) : tW ls ≤ 11796720 * ls.length := by rw [tW_encD h]; exact encD_le h
theorem linesE_take {ls : List (List ByteArray)} (h : linesE ls = 0) (k : Nat) : linesE (ls.take k) = 0 := linesE_zero.2 fun l hl => linesE_zero.1 h l (List.mem_of_mem_take hl)
theorem lenW_take_le {l : List ByteArray} (h : lineE l = 0) (k : Nat) : lenW (l.take k) ≤ 11796720 := by
  obtain ⟨_, h2, h3⟩ := lineE_zero h
  have := lenW_le (l := l.take k) fun w hw => h3 w (List.mem_of_mem_take hw)
  have h4 := List.length_take_le k l
  have h5 := List.length_take_le' k l
  omega

/-- a line's words as far as they are written -/
def partL (l : List ByteArray) (j : Nat) : List UInt8 := (wordsS (l.take j)).drop 1
theorem partL_zero (l : List ByteArray) : partL l 0 = [] := by simp [partL, wordsS]
theorem partL_one (l : List ByteArray) (h : 0 < l.length) : partL l 1 = wordS (bs l[0]) := by
  cases l with
  | nil => simp at h
  | cons w r => simp [partL, wordsS]
theorem partL_succ (l : List ByteArray) (j : Nat) (h0 : 0 < j) (h : j < l.length) : partL l (j + 1) = partL l j ++ 32 :: wordS (bs l[j]) := by
  unfold partL
  rw [take_succ_get l j h, wordsS_append, List.drop_append_of_le_length]
  · simp [wordsS]
  · cases l with
    | nil => simp at h
    | cons w r =>
      cases j with
      | zero => omega
      | succ j => simp [wordsS]
theorem partL_all (l : List ByteArray) (j : Nat) (h : l.length ≤ j) : partL l j ++ [10] = lineS l := by
  unfold partL lineS; rw [List.take_of_length_le h]
theorem partL_len (l : List ByteArray) (j : Nat) : (partL l j).length ≤ lenW (l.take j) := by
  unfold partL
  rw [List.length_drop, wordsS_len]
  omega
theorem encD_succ (ls : List (List ByteArray)) (k : Nat) (h : k < ls.length) : encD (ls.take (k + 1)) = encD (ls.take k) ++ lineS ls[k] := by
  rw [take_succ_get ls k h, encD_snoc]
theorem encD_take_le {ls : List (List ByteArray)} (h : linesE ls = 0) (k : Nat) (hl : ls.length ≤ 1000) : (encD (ls.take k)).length ≤ 11796720000 := by
  have := encD_le (linesE_take h k)
  have h5 := List.length_take_le' k ls
  omega

/-- what Encode leaves -/
def EncPost (u8 : TypeId) (ls : List (List ByteArray)) (w : World) (e : Ending) (w' : World) : Prop :=
  ∃ A n c, e = .returned (.tuple #[.slice A n c, .int .i64 (docE ls)]) ∧ Below w.heap.size w w' ∧ (docE ls = 0 → Own w' w.heap.size u8 1 A n c ((encD ls).map bv)) ∧ (docE ls ≠ 0 → A = none ∧ n = 0 ∧ c = 0)
theorem EncPost.no {u8 : TypeId} {ls : List (List ByteArray)} {w w' : World} {e : Int} (hE : docE ls = e) (h0 : e ≠ 0) (hb : Below w.heap.size w w') :
    EncPost u8 ls w (.returned (.tuple #[.slice none 0 0, .int .i64 e])) w' := ⟨none, 0, 0, by rw [hE], hb, fun h => absurd (hE ▸ h) h0, fun _ => ⟨rfl, rfl, rfl⟩⟩
theorem EncPost.yes {u8 : TypeId} {ls : List (List ByteArray)} {w w' : World} {A : Option Addr} {n c : Nat} (hE : docE ls = 0) (hb : Below w.heap.size w w') (ho : Own w' w.heap.size u8 1 A n c ((encD ls).map bv)) :
    EncPost u8 ls w (.returned (.tuple #[.slice A n c, .int .i64 0])) w' := ⟨A, n, c, by rw [hE], hb, fun _ => ho, fun h => absurd hE h⟩
theorem docE_many {ls : List (List ByteArray)} (h : 1000 < ls.length) : docE ls = 3 := by unfold docE; rw [if_pos h]
theorem docE_line {ls : List (List ByteArray)} (h : ¬ 1000 < ls.length) (h2 : linesE ls ≠ 0) : docE ls = linesE ls := by unfold docE; rw [if_neg h, if_pos h2]
theorem docE_long {ls : List (List ByteArray)} (h : ¬ 1000 < ls.length) (h2 : linesE ls = 0) (h3 : 262144 < (encD ls).length) : docE ls = 3 := by unfold docE; rw [if_neg h, if_neg (by simp [h2]), if_pos h3]
theorem docE_ok {ls : List (List ByteArray)} (h : ¬ 1000 < ls.length) (h2 : linesE ls = 0) (h3 : ¬ 262144 < (encD ls).length) : docE ls = 0 := by unfold docE; rw [if_neg h, if_neg (by simp [h2]), if_neg h3]
end Go.Adm
set_option linter.unusedSimpArgs false
set_option linter.unusedVariables false
namespace Go.Proofs.YtjdinakdkdjocaaGreatDoor
open Go Go.RowKit Go.Adm

theorem el_u8 : ElemOf Tryz.prog 22 5 (.int .u8 0) 1 1 := ElemOf.mk' Tryz.underlying22 (by kernel_rfl) rfl (by decide) (by decide)

set_option maxHeartbeats 400000 in
theorem plain_any (c : Int) (w : World) (h0 : 0 ≤ c) (h1 : c ≤ 255) :
    Calls Tryz.prog 78 #[.int .u8 c] w fun e w' => e = .returned (.bool (plainB c)) ∧ w = w' := by
  go_enter Tryz.func78, Tryz.ntmps78
  go_wp2
  all_goals go_ret
  all_goals exact ⟨ret_bool (by rw [Bool.eq_iff_iff]; simp [plainB]; try omega), rfl⟩

set_option maxHeartbeats 400000 in
theorem refplain_any (c : Int) (w : World) (h0 : 0 ≤ c) (h1 : c ≤ 255) :
    Calls Tryz.prog 71 #[.int .u8 c] w fun e w' => e = .returned (.bool (plainB c)) ∧ w = w' := by
  go_enter Tryz.func71, Tryz.ntmps71
  go_wp2
  all_goals go_ret
  all_goals exact ⟨ret_bool (by rw [Bool.eq_iff_iff]; simp [plainB]; try omega), rfl⟩

set_option maxHeartbeats 400000 in
theorem size_any (s : ByteArray) (w : World) (hs : s.size ≤ 140737488355328) :
    Calls Tryz.prog 67 #[.string s] w fun e w' => e = .returned (.int .i64 (wordS (bs s)).length) ∧ w = w' := by
  go_enter Tryz.func67, Tryz.ntmps67
  go_wp2
  go_loop [3, 4] (fun n i => ∃ k : Nat, k ≤ s.size ∧ i = .int .i64 k ∧ n = .int .i64 (encW ((bs s).take k)).length) (fun _ i => s.size - (intOf i).toNat)
  case atStart => exact ⟨0, Nat.zero_le _, rfl, rfl⟩
  case round =>
    obtain ⟨k, hk, rfl, rfl⟩ := hrel
    have hl := encW_take (bs s) k
    by_cases hlt : k < s.size
    · have hE : (encW ((bs s).take (k + 1))).length = (encW ((bs s).take k)).length + if plainU s[k] then 1 else 3 := by
        rw [encW_succ s k hlt, List.length_append, encB_len]
      have HE := Lib.hid hE
      clear hE
      have hb := byte_lt s[k]
      generalize hc : s[k] = c at *
      have HC := Lib.hid hc
      clear hc
      cases hp : plainB c.toNat <;> have HP := Lib.hid hp <;> clear hp
      all_goals
        go_wp2_with fail
        rw [HC.out]
        refine (plain_any _ _ (by omega) hb).mono ?_
        rintro e w' ⟨rfl, rfl⟩
        rw [HP.out]
        go_wp2
        go_round
        case rel => exact ⟨k + 1, by omega, by go_num, by rw [HE.out, plainU, HP.out]; go_num⟩
        case measure => simp [intOf]; omega
    · have ht := Lib.hid (bs_take_all s k hlt)
      have hw := wordS_len (bs s)
      go_wp2
      all_goals
        go_ret
        exact ⟨ret_int (by rw [ht.out] at *; omega), rfl⟩

def hexT : ByteArray := ⟨#[48, 49, 50, 51, 52, 53, 54, 55, 56, 57, 65, 66, 67, 68, 69, 70]⟩
theorem hex_fin : ∀ n : Fin 16, hexT[n.val]'(show n.val < 16 from n.isLt) = hexd (UInt8.ofNat n.val) := by decide +kernel
theorem hex_of (i : Int) (n : Nat) (hn : n < 16) (e : i.toNat = n) (h : i.toNat < 16) : (⟨#[48, 49, 50, 51, 52, 53, 54, 55, 56, 57, 65, 66, 67, 68, 69, 70]⟩ : ByteArray)[i.toNat]'h = hexd (UInt8.ofNat n) := by
  subst e
  exact hex_fin ⟨i.toNat, h⟩
theorem hex_div (c : UInt8) (h : ((c.toNat : Int) / 16).toNat < 16) : (⟨#[48, 49, 50, 51, 52, 53, 54, 55, 56, 57, 65, 66, 67, 68, 69, 70]⟩ : ByteArray)[((c.toNat : Int) / 16).toNat]'h = hexd (c >>> 4) := by
  have e : UInt8.ofNat (c.toNat / 16) = c >>> 4 := by
    apply UInt8.toNat_inj.1
    have := c.toNat_lt
    rw [UInt8.toNat_shiftRight, Nat.shiftRight_eq_div_pow]
    simp
    omega
  rw [hex_of _ (c.toNat / 16) (by have := c.toNat_lt; omega) (by omega) h, e]
theorem hex_mod (c : UInt8) (h : ((c.toNat : Int) % 16).toNat < 16) : (⟨#[48, 49, 50, 51, 52, 53, 54, 55, 56, 57, 65, 66, 67, 68, 69, 70]⟩ : ByteArray)[((c.toNat : Int) % 16).toNat]'h = hexd (c &&& 15) := by
  have e : UInt8.ofNat (c.toNat % 16) = c &&& 15 := by
    apply UInt8.toNat_inj.1
    rw [UInt8.toNat_and, show (15 : UInt8).toNat = 2 ^ 4 - 1 from rfl, Nat.and_two_pow_sub_one_eq_mod]
    simp
    omega
  rw [hex_of _ (c.toNat % 16) (by omega) (by omega) h, e]

set_option maxHeartbeats 400000 in
theorem Word_any (s : ByteArray) (w : World) (hs : s.size ≤ 10000000000) :
    Calls Tryz.prog 68 #[.string s] w fun e w' => e = .returned (.string ⟨(wordS (bs s)).toArray⟩) ∧ Below w.heap.size w w' := by
  have hl := encW_len (bs s)
  rw [bs_len] at hl
  by_cases h0 : bs s = []
  · have hS : wordS (bs s) = [126] := by rw [h0]; rfl
    have hS := Lib.hid hS
    have hem : s.toList.isEmpty = true := by rw [ByteArray.toList_eq, show s.data.toList = [] from h0]; rfl
    clear h0
    go_enter Tryz.func68, Tryz.ntmps68
    go_wp2
    go_ret
    exact ⟨ret_str (by rw [hS.out]), Below.refl _ _⟩
  · have hem : s.toList.isEmpty = false := by rw [ByteArray.toList_eq]; simpa using h0
    have hS : wordS (bs s) = encW (bs s) := by unfold wordS; rw [if_neg h0]
    have hS := Lib.hid hS
    obtain ⟨i0, hi, hz0, hz1, hz2⟩ := el_u8.hi
    have hmk := fun (W : World) (n : Nat) (hn : n ≤ 100000000000) => run_make (P := Tryz.prog) W 22 5 i0 _ el_u8.ht hi hz0 .i64 .i64 0 (n : Int) (by omega) (by omega) (by rw [hz2]; omega) (by omega)
    have hwl : (wordS (bs s)).length ≤ 100000000000 := by rw [wordS_len]; omega
    generalize hN : (wordS (bs s)).length = N at *
    have HN := Lib.hid hN
    have HMK := fun W => hmk W N hwl
    clear hmk h0 hN
    simp only [Int.toNat_natCast, hz1] at HMK
    have Hz1 := Lib.hid hz1
    have Hi := Lib.hid hi
    clear hi hz0 hz1 hz2
    go_enter Tryz.func68, Tryz.ntmps68
    go_wp2_with fail
    refine (size_any _ _ (by omega)).mono ?_
    rintro e w' ⟨rfl, rfl⟩
    rw [HN.out]
    go_wp2
    go_loopw [3, 4] (fun v i wr => ∃ k A c, k ≤ s.size ∧ i = .int .i64 (k : Nat) ∧ v = .slice A (encW ((bs s).take k)).length c ∧ Own wr w.heap.size 5 1 A (encW ((bs s).take k)).length c ((encW ((bs s).take k)).map bv) ∧ Below w.heap.size w wr) (fun _ i _ => s.size - (intOf i).toNat)
    case atStart =>
      exact ⟨0, _, _, Nat.zero_le _, rfl, rfl, World.ownsRow_made w _ N (Nat.le_refl _) (by unfold maxLen; omega) (by simp [madeCells]), (Below.refl _ _).alloc (Nat.le_refl _) _⟩
    case round =>
      obtain ⟨k, A, c, hk, rfl, rfl, hown, hbel⟩ := hrel
      have hl := encW_take (bs s) k
      by_cases hlt : k < s.size
      · have hE := encW_succ s k hlt
        have hlE : (encW ((bs s).take (k + 1))).length = (encW ((bs s).take k)).length + (encB s[k]).length := by rw [hE, List.length_append]
        have HE := Lib.hid hE
        have HLE := Lib.hid hlE
        clear hE hlE
        have hb := byte_lt s[k]
        generalize hc : s[k] = c at *
        have HC := Lib.hid hc
        clear hc
        have hsz := hbel.size
        cases hp : plainB c.toNat <;> have HP := Lib.hid hp <;> clear hp
        · go_wp2_with fail
          rw [HC.out]
          refine (plain_any _ _ (by omega) hb).mono ?_
          rintro e w' ⟨rfl, rfl⟩
          rw [HP.out]
          go_wp2
          have hc1 : encB c = [37, hexd (c >>> 4), hexd (c &&& 15)] := by unfold encB plainU; rw [HP.out]; rfl
          rw [hc1] at HLE HE
          clear hc1
          have q0 : (0 : Int) ≤ (s[k].toNat : Int) / 16 := by omega
          have q1 : (s[k].toNat : Int) / 16 < 16 := by have := byte_lt s[k]; omega
          have q3 : (0 : Int) ≤ (s[k].toNat : Int) % 16 := by omega
          have q4 : (s[k].toNat : Int) % 16 < 16 := by omega
          have q2 := u8_and15 (x := (s[k].toNat : Int)) (by omega) (by have := byte_lt s[k]; omega)
          go_region_law (refine st_app _ el_u8 rfl _ _ rfl w.heap.size _ _ _ _ rfl (hown.alloc _).drew (wr.heap.size + 1) _ 3 3 _ rfl (Rd.lit wr _ _ 3 rfl).drew (by intro u hu; simp at hu; rcases hu with rfl | rfl | rfl <;> rfl) (by omega) (by simp; omega) ?_; intro A' c' w1 hown1 hbel1 _)
          all_goals
            simp only [hex_div, hex_mod] at hown1
            rw [HC.out] at hown1
            go_wp2
            refine ⟨⟨k + 1, A', c', by omega, by go_num, by rw [HLE.out]; rfl, by rw [HLE.out, HE.out, List.map_append]; exact hown1, hbel.trans (((Below.refl _ _).alloc (by omega) _).drew.trans hbel1)⟩, by simp [intOf]; omega⟩
        · go_wp2_with fail
          rw [HC.out]
          refine (plain_any _ _ (by omega) hb).mono ?_
          rintro e w' ⟨rfl, rfl⟩
          rw [HP.out]
          go_wp2_with (at_builtin; refine wl_app _ el_u8 rfl _ _ rfl w.heap.size _ _ _ _ rfl (hown.alloc _) (wr.heap.size + 1) _ 1 1 [bv s[k]] rfl (Rd.lit wr _ _ 1 rfl) (bv_one [s[k]]) (by omega) (by simp; omega) ?_; intro A' c' w1 hown1 hbel1 _)
          rw [HC.out] at hown1
          have hc1 : encB c = [c] := by unfold encB plainU; rw [HP.out]; rfl
          rw [hc1] at HLE HE
          exact ⟨⟨k + 1, A', c', by omega, by go_num, by rw [HLE.out]; rfl, by rw [HLE.out, HE.out, List.map_append]; exact hown1, hbel.trans ((Below.refl _ _).alloc (by omega) _ |>.trans hbel1)⟩, by simp [intOf]; omega⟩
      · have ht := Lib.hid (bs_take_all s k hlt)
        have hconv := run_conv (P := Tryz.prog) wr 22 9 5 el_u8.ht Tryz.underlying5 Tryz.underlying9 (c := c) (hown.rd)
        go_wp2
        go_ret
        exact ⟨ret_str (by rw [ht.out, hS.out]), hbel⟩

set_option maxHeartbeats 400000 in
theorem refWord_any (s : ByteArray) (w : World) (hs : s.size ≤ 10000000000) :
    Calls Tryz.prog 44 #[.string s] w fun e w' => e = .returned (.string ⟨(wordS (bs s)).toArray⟩) ∧ Below w.heap.size w w' := by
  have hl := encW_len (bs s)
  rw [bs_len] at hl
  by_cases h0 : bs s = []
  · have hS : wordS (bs s) = [126] := by rw [h0]; rfl
    have hS := Lib.hid hS
    have hem : s.toList.isEmpty = true := by rw [ByteArray.toList_eq, show s.data.toList = [] from h0]; rfl
    clear h0
    go_enter Tryz.func44, Tryz.ntmps44
    go_wp2
    go_ret
    exact ⟨ret_str (by rw [hS.out]), Below.refl _ _⟩
  · have hem : s.toList.isEmpty = false := by rw [ByteArray.toList_eq]; simpa using h0
    have hS : wordS (bs s) = encW (bs s) := by unfold wordS; rw [if_neg h0]
    have hS := Lib.hid hS
    clear h0
    go_enter Tryz.func44, Tryz.ntmps44
    go_wp2
    go_loopw [4, 5] (fun v i wr => ∃ k A c, k ≤ s.size ∧ i = .int .i64 (k : Nat) ∧ v = .slice A (encW ((bs s).take k)).length c ∧ Own wr w.heap.size 5 1 A (encW ((bs s).take k)).length c ((encW ((bs s).take k)).map bv) ∧ Below w.heap.size w wr) (fun _ i _ => s.size - (intOf i).toNat)
    case atStart =>
      exact ⟨0, _, _, Nat.zero_le _, rfl, rfl, Own.nil _ _ _ _, Below.refl _ _⟩
    case round =>
      obtain ⟨k, A, c, hk, rfl, rfl, hown, hbel⟩ := hrel
      have hl := encW_take (bs s) k
      by_cases hlt : k < s.size
      · have hE := encW_succ s k hlt
        have hlE : (encW ((bs s).take (k + 1))).length = (encW ((bs s).take k)).length + (encB s[k]).length := by rw [hE, List.length_append]
        have HE := Lib.hid hE
        have HLE := Lib.hid hlE
        clear hE hlE
        have hb := byte_lt s[k]
        generalize hc : s[k] = c at *
        have HC := Lib.hid hc
        clear hc
        have hsz := hbel.size
        cases hp : plainB c.toNat <;> have HP := Lib.hid hp <;> clear hp
        · go_wp2_with fail
          rw [HC.out]
          refine (refplain_any _ _ (by omega) hb).mono ?_
          rintro e w' ⟨rfl, rfl⟩
          rw [HP.out]
          go_wp2
          have hc1 : encB c = [37, hexd (c >>> 4), hexd (c &&& 15)] := by unfold encB plainU; rw [HP.out]; rfl
          rw [hc1] at HLE HE
          clear hc1
          have q0 : (0 : Int) ≤ (s[k].toNat : Int) / 16 := by omega
          have q1 : (s[k].toNat : Int) / 16 < 16 := by have := byte_lt s[k]; omega
          have q3 : (0 : Int) ≤ (s[k].toNat : Int) % 16 := by omega
          have q4 : (s[k].toNat : Int) % 16 < 16 := by omega
          have q2 := u8_and15 (x := (s[k].toNat : Int)) (by omega) (by have := byte_lt s[k]; omega)
          go_region_law (refine st_app _ el_u8 rfl _ _ rfl w.heap.size _ _ _ _ rfl (hown.alloc _).drew (wr.heap.size + 1) _ 3 3 _ rfl (Rd.lit wr _ _ 3 rfl).drew (by intro u hu; simp at hu; rcases hu with rfl | rfl | rfl <;> rfl) (by omega) (by simp; omega) ?_; intro A' c' w1 hown1 hbel1 _)
          all_goals
            simp only [hex_div, hex_mod] at hown1
            rw [HC.out] at hown1
            go_wp2
            refine ⟨⟨k + 1, A', c', by omega, by go_num, by rw [HLE.out]; rfl, by rw [HLE.out, HE.out, List.map_append]; exact hown1, hbel.trans (((Below.refl _ _).alloc (by omega) _).drew.trans hbel1)⟩, by simp [intOf]; omega⟩
        · go_wp2_with fail
          rw [HC.out]
          refine (refplain_any _ _ (by omega) hb).mono ?_
          rintro e w' ⟨rfl, rfl⟩
          rw [HP.out]
          go_wp2_with (at_builtin; refine wl_app _ el_u8 rfl _ _ rfl w.heap.size _ _ _ _ rfl (hown.alloc _) (wr.heap.size + 1) _ 1 1 [bv s[k]] rfl (Rd.lit wr _ _ 1 rfl) (bv_one [s[k]]) (by omega) (by simp; omega) ?_; intro A' c' w1 hown1 hbel1 _)
          rw [HC.out] at hown1
          have hc1 : encB c = [c] := by unfold encB plainU; rw [HP.out]; rfl
          rw [hc1] at HLE HE
          exact ⟨⟨k + 1, A', c', by omega, by go_num, by rw [HLE.out]; rfl, by rw [HLE.out, HE.out, List.map_append]; exact hown1, hbel.trans ((Below.refl _ _).alloc (by omega) _ |>.trans hbel1)⟩, by simp [intOf]; omega⟩
      · have ht := Lib.hid (bs_take_all s k hlt)
        have hconv := run_conv (P := Tryz.prog) wr 22 9 5 el_u8.ht Tryz.underlying5 Tryz.underlying9 (c := c) (hown.rd)
        go_wp2
        go_ret
        exact ⟨ret_str (by rw [ht.out, hS.out]), hbel⟩
end Go.Proofs.YtjdinakdkdjocaaGreatDoor
set_option linter.unusedSimpArgs false
set_option linter.unusedVariables false
namespace Go.Proofs.YtjdinakdkdjocaaGreatDoor
open Go Go.RowKit Go.Adm

def nameC (c : Int) : Bool := (decide (97 ≤ c) && decide (c ≤ 122)) || (decide (48 ≤ c) && decide (c ≤ 57))
def nameX (c : Int) : Bool := decide (c = 46) || decide (c = 95) || decide (c = 45)
def okAt (k : Nat) (c : UInt8) : Bool := nameC c.toNat || (decide (0 < k) && nameX c.toNat)
def nameP (s : ByteArray) : Prop := 1 ≤ s.size ∧ s.size ≤ 64 ∧ ∀ k (h : k < s.size), okAt k s[k] = true
open Classical in
noncomputable def nameB (s : ByteArray) : Bool := decide (nameP s)
theorem nameB_yes {s : ByteArray} (h : nameP s) : nameB s = true := by simp [nameB, h]
theorem nameB_no {s : ByteArray} (h : ¬ nameP s) : nameB s = false := by simp [nameB, h]

set_option maxHeartbeats 400000 in
theorem Name_any (s : ByteArray) (w : World) (hs : s.size ≤ 140737488355328) :
    Calls Tryz.prog 56 #[.string s] w fun e w' => e = .returned (.bool (nameB s)) ∧ w = w' := by
  by_cases hb : 1 ≤ s.size ∧ s.size ≤ 64
  · obtain ⟨h1, h2⟩ := hb
    go_enter Tryz.func56, Tryz.ntmps56
    go_wp2
    go_loop [3] (fun i => ∃ k : Nat, k ≤ s.size ∧ i = .int .i64 k ∧ ∀ j (h : j < s.size), j < k → okAt j s[j] = true) (fun i => s.size - (intOf i).toNat)
    case atStart => exact ⟨0, Nat.zero_le _, rfl, fun _ _ h => absurd h (by omega)⟩
    case round =>
      obtain ⟨k, hk, rfl, hall⟩ := hrel
      have Hall := Lib.hid hall
      clear hall
      by_cases hlt : k < s.size
      · have hb := byte_lt s[k]
        have hok : ∀ b, okAt k s[k] = b → Hid (okAt k s[k] = b) := fun _ h => Lib.hid h
        by_cases h0 : 0 < k
        all_goals
          go_wp2
          all_goals
            first
            | (go_round
               case rel => exact ⟨k + 1, by omega, by go_num, fun j h hj => by
                 rcases Nat.lt_succ_iff_lt_or_eq.1 hj with h3 | h3
                 · exact Hall.out j h h3
                 · subst h3
                   try simp only [Bool.not_eq_true, Bool.not_eq_false, Bool.not_eq_true', Bool.not_eq_false', Bool.or_eq_true, Bool.or_eq_false_iff, decide_eq_true_eq, decide_eq_false_iff_not, beq_iff_eq, beq_eq_false_iff_ne, ne_eq] at *
                   simp [okAt, nameC, nameX]
                   omega⟩
               case measure => simp [intOf]; omega)
            | (go_ret
               refine ⟨ret_bool (nameB_no fun hp => ?_).symm, rfl⟩
               have := hp.2.2 k hlt
               simp [okAt, nameC, nameX] at this
               try simp only [Bool.not_eq_true, Bool.not_eq_false, Bool.not_eq_true', Bool.not_eq_false', Bool.or_eq_true, Bool.or_eq_false_iff, decide_eq_true_eq, decide_eq_false_iff_not, beq_iff_eq, beq_eq_false_iff_ne, ne_eq] at *
               omega)
      · go_wp2
        go_ret
        exact ⟨ret_bool (nameB_yes ⟨h1, h2, fun j h => Hall.out j h (by omega)⟩).symm, rfl⟩
  · have hn : Hid (nameB s = false) := Lib.hid (nameB_no fun hp => hb ⟨hp.1, hp.2.1⟩)
    rcases Nat.lt_or_ge s.size 1 with h1 | h1
    · go_enter Tryz.func56, Tryz.ntmps56
      go_wp2
      go_ret
      exact ⟨ret_bool hn.out.symm, rfl⟩
    · have h2 : 64 < s.size := by omega
      go_enter Tryz.func56, Tryz.ntmps56
      go_wp2
      go_ret
      exact ⟨ret_bool hn.out.symm, rfl⟩

set_option maxHeartbeats 400000 in
theorem refName_any (s : ByteArray) (w : World) (hs : s.size ≤ 140737488355328) :
    Calls Tryz.prog 38 #[.string s] w fun e w' => e = .returned (.bool (nameB s)) ∧ w = w' := by
  by_cases hb : 1 ≤ s.size ∧ s.size ≤ 64
  · obtain ⟨h1, h2⟩ := hb
    have hem : s.toList.isEmpty = false := by rw [ByteArray.toList_eq]; simp; intro he; have : s.size = 0 := by rw [← bs_len, bs, he]; rfl
                                              omega
    by_cases hx : nameX s[0].toNat = true
    · have hn : Hid (nameB s = false) := Lib.hid (nameB_no fun hp => by
        have := hp.2.2 0 (by omega)
        simp [okAt] at this
        simp [nameC, nameX] at this hx
        omega)
      simp only [nameX, Bool.or_eq_true, decide_eq_true_eq] at hx
      have hx' := Lib.hid hx
      clear hx
      rcases hx'.out with (hx | hx) | hx
      all_goals
        clear hx'
        go_enter Tryz.func38, Tryz.ntmps38
        go_wp2
        go_ret
        exact ⟨ret_bool hn.out.symm, rfl⟩
    · have HX : Hid (¬ nameX s[0].toNat = true) := Lib.hid hx
      have hx1 : ((s[0].toNat : Int) == 46) = false := by simp [nameX] at hx; simp; omega
      have hx2 : ((s[0].toNat : Int) == 95) = false := by simp [nameX] at hx; simp; omega
      have hx3 : ((s[0].toNat : Int) == 45) = false := by simp [nameX] at hx; simp; omega
      clear hx
      go_enter Tryz.func38, Tryz.ntmps38
      go_wp2
      go_loop [3] (fun i => ∃ k : Nat, k ≤ s.size ∧ i = .int .i64 k ∧ ∀ j (h : j < s.size), j < k → okAt j s[j] = true) (fun i => s.size - (intOf i).toNat)
      case atStart => exact ⟨0, Nat.zero_le _, rfl, fun _ _ h => absurd h (by omega)⟩
      case round =>
        obtain ⟨k, hk, rfl, hall⟩ := hrel
        have Hall := Lib.hid hall
        clear hall hx1 hx2 hx3
        by_cases hlt : k < s.size
        · have hb := byte_lt s[k]
          go_wp2
          all_goals
            first
            | (go_round
               case rel => exact ⟨k + 1, by omega, by go_num, fun j h hj => by
                 rcases Nat.lt_succ_iff_lt_or_eq.1 hj with h3 | h3
                 · exact Hall.out j h h3
                 · subst h3
                   rcases Nat.eq_zero_or_pos j with h0 | h0
                   · subst h0
                     have hx := HX.out
                     try simp only [Bool.not_eq_true, Bool.not_eq_false, Bool.not_eq_true', Bool.not_eq_false', Bool.or_eq_true, Bool.or_eq_false_iff, decide_eq_true_eq, decide_eq_false_iff_not, beq_iff_eq, beq_eq_false_iff_ne, ne_eq] at *
                     simp [okAt, nameC, nameX] at *
                     omega
                   · try simp only [Bool.not_eq_true, Bool.not_eq_false, Bool.not_eq_true', Bool.not_eq_false', Bool.or_eq_true, Bool.or_eq_false_iff, decide_eq_true_eq, decide_eq_false_iff_not, beq_iff_eq, beq_eq_false_iff_ne, ne_eq] at *
                     simp [okAt, nameC, nameX]
                     omega⟩
               case measure => simp [intOf]; omega)
            | (go_ret
               refine ⟨ret_bool (nameB_no fun hp => ?_).symm, rfl⟩
               have := hp.2.2 k hlt
               simp [okAt, nameC, nameX] at this
               try simp only [Bool.not_eq_true, Bool.not_eq_false, Bool.not_eq_true', Bool.not_eq_false', Bool.or_eq_true, Bool.or_eq_false_iff, decide_eq_true_eq, decide_eq_false_iff_not, beq_iff_eq, beq_eq_false_iff_ne, ne_eq] at *
               omega)
        · go_wp2
          go_ret
          exact ⟨ret_bool (nameB_yes ⟨h1, h2, fun j h => Hall.out j h (by omega)⟩).symm, rfl⟩
  · have hn : Hid (nameB s = false) := Lib.hid (nameB_no fun hp => hb ⟨hp.1, hp.2.1⟩)
    rcases Nat.lt_or_ge s.size 1 with h1 | h1
    · have hem : s.toList.isEmpty = true := by
        rw [ByteArray.toList_eq, List.eq_nil_of_length_eq_zero (show s.data.toList.length = 0 by have := bs_len s; simp only [bs] at this; omega)]; rfl
      go_enter Tryz.func38, Tryz.ntmps38
      go_wp2
      go_ret
      exact ⟨ret_bool hn.out.symm, rfl⟩
    · have h2 : 64 < s.size := by omega
      have hem : s.toList.isEmpty = false := by rw [ByteArray.toList_eq]; simp; intro he; have : s.size = 0 := by rw [← bs_len, bs, he]; rfl
                                                omega
      go_enter Tryz.func38, Tryz.ntmps38
      go_wp2
      go_ret
      exact ⟨ret_bool hn.out.symm, rfl⟩
end Go.Proofs.YtjdinakdkdjocaaGreatDoor
set_option linter.unusedSimpArgs false
set_option linter.unusedVariables false
namespace Go.Proofs.YtjdinakdkdjocaaGreatDoor
open Go Go.RowKit Go.Adm

theorem any_long {l : List ByteArray} {k : Nat} (hk : k < l.length) (h : 32768 < l[k].size) : l.any (fun w => decide (32768 < w.size)) = true := by
  rw [List.any_eq_true]
  exact ⟨l[k], List.getElem_mem hk, by simpa using h⟩
theorem lineE_of_long {l : List ByteArray} {k : Nat} (hk : k < l.length) (h : 32768 < l[k].size) (h2 : l.length ≤ 120) : lineE l = 3 := by
  unfold lineE
  rw [if_neg (by omega), if_neg (by omega), if_pos (any_long hk h)]
theorem lineE_of_ok {l : List ByteArray} (h1 : 0 < l.length) (h2 : l.length ≤ 120) (h : ∀ j (hj : j < l.length), l[j].size ≤ 32768) : lineE l = 0 := by
  unfold lineE
  rw [if_neg (by omega), if_neg (by omega), if_neg]
  intro ha
  rw [List.any_eq_true] at ha
  obtain ⟨x, hx, hl⟩ := ha
  obtain ⟨j, hj, rfl⟩ := List.getElem_of_mem hx
  have := h j hj
  simp at hl
  omega

set_option maxHeartbeats 400000 in
theorem check_any (w : World) (B : Nat) (A : Option Addr) (n c : Nat) (l : List ByteArray) (h : Strs w B A n l) (hnm : n ≤ maxLen) :
    Calls Tryz.prog 50 #[.slice A n c] w fun e w' => e = .returned (.int .i64 (lineE l)) ∧ w = w' := by
  have hn : n ≤ 9223372036854775807 := hnm
  have hlen := h.len
  have H := Lib.hid h
  clear h
  by_cases h0 : n = 0
  · subst h0
    have hE : Hid (lineE l = 1) := Lib.hid (by unfold lineE; rw [if_pos hlen])
    clear hlen
    go_enter Tryz.func50, Tryz.ntmps50
    go_wp2
    go_ret
    exact ⟨ret_int hE.out.symm, rfl⟩
  · have h0' : ((n : Int) == 0) = false := by simp; omega
    by_cases h1 : 120 < n
    · have hE : Hid (lineE l = 3) := Lib.hid (by unfold lineE; rw [if_neg (by omega), if_pos (by omega)])
      clear hlen
      go_enter Tryz.func50, Tryz.ntmps50
      go_wp2
      go_ret
      exact ⟨ret_int hE.out.symm, rfl⟩
    · have HL : Hid (l.length = n) := Lib.hid hlen
      clear hlen
      go_enter Tryz.func50, Tryz.ntmps50
      go_wp2
      go_loop [4, 15] (fun _ i => ∃ k : Nat, k ≤ n ∧ i = .int .i64 k ∧ ∀ j (hj : j < l.length), j < k → l[j].size ≤ 32768) (fun _ i => n - (intOf i).toNat)
      case atStart => exact ⟨0, Nat.zero_le _, rfl, fun _ _ h => absurd h (by omega)⟩
      case round =>
        obtain ⟨k, hk, rfl, hall⟩ := hrel
        have Hall := Lib.hid hall
        clear hall
        by_cases hlt : k < n
        · have hkl : k < l.length := by rw [HL.out]; exact hlt
          obtain ⟨ad, rfl, _, hc, hsz⟩ := H.out.at_ hkl
          by_cases hlong : 32768 < l[k].size
          · have hE : Hid (lineE l = 3) := Lib.hid (lineE_of_long hkl hlong (by rw [HL.out]; omega))
            go_wp2
            go_ret
            exact ⟨ret_int hE.out.symm, rfl⟩
          · go_wp2
            go_round
            case rel => exact ⟨k + 1, by omega, by go_num, fun j hj h3 => by
                rcases Nat.lt_succ_iff_lt_or_eq.1 h3 with h4 | h4
                · exact Hall.out j hj h4
                · subst h4; omega⟩
            case measure => simp [intOf]; omega
        · have hE : Hid (lineE l = 0) := Lib.hid (lineE_of_ok (by rw [HL.out]; omega) (by rw [HL.out]; omega) fun j hj => Hall.out j hj (by rw [HL.out] at hj; omega))
          go_wp2
          go_ret
          exact ⟨ret_int hE.out.symm, rfl⟩
def LightPost (ls : List (List ByteArray)) (w : World) (e : Ending) (w' : World) : Prop := ∃ b : Bool, e = .returned (.bool b) ∧ (b = true → Light ls) ∧ w = w'

end Go.Proofs.YtjdinakdkdjocaaGreatDoor
set_option linter.unusedSimpArgs false
set_option linter.unusedVariables false
set_option maxRecDepth 100000
namespace Go.Proofs.YtjdinakdkdjocaaGreatDoor
open Go Go.RowKit Go.Adm

set_option maxHeartbeats 2000000 in
theorem Encode_any (w : World) (B : Nat) (A : Option Addr) (n c : Nat) (ls : List (List ByteArray)) (h : Lines w B A n ls) (hB : B ≤ w.heap.size) :
    Calls Tryz.prog 37 #[.slice A n c] w (EncPost 5 ls w) := by
  have hle := h.le
  have HL := Lib.hid h.len
  have H := Lib.hid h
  clear h
  by_cases h1 : 1000 < n
  · have hE : Hid (docE ls = 3) := Lib.hid (docE_many (by rw [HL.out]; exact h1))
    go_enter Tryz.func37, Tryz.ntmps37
    go_wp2
    go_ret2
    exact EncPost.no hE.out (by decide) (Below.refl _ _)
  · obtain ⟨i0, hi, hz0, hz1, hz2⟩ := el_u8.hi
    have hmk := fun (W : World) (n : Nat) (hn : n ≤ 100000000000) => run_make (P := Tryz.prog) W 22 5 i0 _ el_u8.ht hi hz0 .i64 .i64 0 (n : Int) (by omega) (by omega) (by rw [hz2]; omega) (by omega)
    have Hz1 := Lib.hid hz1
    simp only [Int.toNat_natCast, hz1] at hmk
    have HMK := Lib.hid hmk
    have Hi := Lib.hid hi
    clear hi hz0 hz1 hz2 hmk
    go_enter Tryz.func37, Tryz.ntmps37
    go_wp2
    go_loop [5, 6, 22] (fun _ _ i => ∃ k : Nat, k ≤ n ∧ i = .int .i64 k ∧ ∀ j (hj : j < ls.length), j < k → lineE ls[j] = 0) (fun _ _ i => n - (intOf i).toNat)
    case atStart => exact ⟨0, Nat.zero_le _, rfl, fun _ _ h => absurd h (by omega)⟩
    case round =>
      obtain ⟨k, hk, rfl, hall⟩ := hrel
      have Hall := Lib.hid hall
      clear hall
      by_cases hlt : k < n
      · have hkl : k < ls.length := by rw [HL.out]; exact hlt
        obtain ⟨ad, A', c', rfl, _, hc, hcl, hcb, hS⟩ := H.out.at_ hkl
        have hcb' : c' ≤ 9223372036854775807 := hcb
        have HS := Lib.hid hS
        clear hS
        by_cases he : lineE ls[k] = 0
        · have HE := Lib.hid he
          clear he
          go_wp2_with fail
          refine (check_any _ B _ _ _ _ HS.out (Nat.le_trans hcl hcb)).mono ?_
          rintro e w' ⟨rfl, rfl⟩
          rw [HE.out]
          go_wp2
          go_round
          case rel => exact ⟨k + 1, by omega, by go_num, fun j hj h3 => by
                rcases Nat.lt_succ_iff_lt_or_eq.1 h3 with h4 | h4
                · exact Hall.out j hj h4
                · subst h4; exact HE.out⟩
          case measure => simp [intOf]; omega
        · have hx : (lineE ls[k] != 0) = true := by simpa using he
          have hE : Hid (docE ls = lineE ls[k]) := Lib.hid (by rw [docE_line (by rw [HL.out]; exact h1) (by rw [linesE_at hkl Hall.out he]; exact he), linesE_at hkl Hall.out he])
          have He := Lib.hid he
          clear he
          go_wp2_with fail
          refine (check_any _ B _ _ _ _ HS.out (Nat.le_trans hcl hcb)).mono ?_
          rintro e w' ⟨rfl, rfl⟩
          go_wp2
          go_ret2
          exact EncPost.no hE.out He.out (Below.refl _ _)
      · have hE0 : linesE ls = 0 := linesE_all fun j hj => Hall.out j hj (by rw [HL.out] at hj; omega)
        have htot : ∀ k, tW (ls.take k) ≤ 11796720000 := fun k => by
          have := tW_le (linesE_take hE0 k)
          have h5 := List.length_take_le' k ls
          rw [HL.out] at h5
          omega
        have Htot := Lib.hid htot
        have HE0 := Lib.hid hE0
        clear hE0 htot Hall
        go_wp2
        go_loop [7, 34] (fun s i => ∃ k : Nat, k ≤ n ∧ i = .int .i64 k ∧ s = .int .i64 (tW (ls.take k))) (fun _ i => n - (intOf i).toNat)
        case atStart => exact ⟨0, Nat.zero_le _, rfl, rfl⟩
        case round =>
          obtain ⟨k, hk, rfl, rfl⟩ := hrel
          have ht1 := Htot.out k
          by_cases hlt : k < n
          · have hkl : k < ls.length := by rw [HL.out]; exact hlt
            obtain ⟨ad, A', c', rfl, _, hc, hcl, hcb, hS⟩ := H.out.at_ hkl
            have hcb' : c' ≤ 9223372036854775807 := hcb
            have HS := Lib.hid hS
            have ht2 := Htot.out (k + 1)
            have hM := tW_succ ls k hkl
            have HM := Lib.hid hM
            have hln := fun j => lenW_take_le (linesE_zero.1 HE0.out _ (List.getElem_mem hkl)) j
            have Hln := Lib.hid hln
            clear hS hM hln
            generalize hl : ls[k] = l at *
            have Hl := Lib.hid hl
            clear hl
            go_wp2
            go_loop [7, 40] (fun s i => ∃ j : Nat, j ≤ l.length ∧ i = .int .i64 j ∧ s = .int .i64 (tW (ls.take k) + lenW (l.take j) : Nat)) (fun _ i => l.length - (intOf i).toNat)
            case atStart => exact ⟨0, Nat.zero_le _, rfl, by simp [lenW]⟩
            case round =>
              obtain ⟨j, hj, rfl, rfl⟩ := hrel
              have hl1 := Hln.out j
              by_cases hjt : j < l.length
              · obtain ⟨ad2, rfl, _, hc2, hsz⟩ := HS.out.at_ hjt
                have hl2 := Hln.out (j + 1)
                have hM2 := lenW_succ l j hjt
                have hb2 : (wordS (bs l[j])).length ≤ 11796720 := by omega
                have HM2 := Lib.hid hM2
                clear hM2 hl2
                go_wp2_with fail
                refine (size_any _ _ hsz).mono ?_
                rintro e w' ⟨rfl, rfl⟩
                go_wp2
                go_round
                case rel => exact ⟨j + 1, by omega, by go_num, congrArg (Value.int .i64) (by rw [HM2.out]; omega)⟩
                case measure => simp [intOf]; omega
              · have ht := Lib.hid (List.take_of_length_le (l := l) (i := j) (by omega))
                go_wp2
                rw [ht.out, ← HM.out]
                go_round
                case rel => exact ⟨k + 1, by omega, by go_num, rfl⟩
                case measure => simp [intOf]; omega
          · obtain rfl : n = k := by omega
            have hL := HL.out
            have hte : tW (ls.take ls.length) = (encD ls).length := by rw [List.take_length, tW_encD HE0.out]
            rw [hL] at hte
            rw [hte] at ht1 ⊢
            clear hL hte
            by_cases hbig : 262144 < (encD ls).length
            · have hE : Hid (docE ls = 3) := Lib.hid (docE_long (by rw [HL.out]; exact h1) HE0.out hbig)
              go_wp2
              go_ret2
              exact EncPost.no hE.out (by decide) (Below.refl _ _)
            · have hE : Hid (docE ls = 0) := Lib.hid (docE_ok (by rw [HL.out]; exact h1) HE0.out hbig)
              have hmk := fun W => HMK.out W (encD ls).length (by omega)
              have Hln := fun k => encD_take_le HE0.out k (by rw [HL.out]; omega)
              have HLn := Lib.hid Hln
              clear Hln
              go_wp2
              go_loopw [12, 57] (fun v i wr => ∃ k A' c', k ≤ n ∧ i = .int .i64 (k : Nat) ∧ v = .slice A' (encD (ls.take k)).length c' ∧ Own wr w.heap.size 5 1 A' (encD (ls.take k)).length c' ((encD (ls.take k)).map bv) ∧ Below w.heap.size w wr) (fun _ i _ => n - (intOf i).toNat)
              case atStart => exact ⟨0, _, _, Nat.zero_le _, rfl, rfl, World.ownsRow_made w _ _ (Nat.le_refl _) (by unfold maxLen; omega) (by simp [madeCells]), (Below.refl _ _).alloc (Nat.le_refl _) _⟩
              case round =>
                obtain ⟨k, A0, c0, hk, rfl, rfl, hown, hbel⟩ := hrel
                have hn1 := HLn.out k
                by_cases hlt : k < n
                · have hkl : k < ls.length := by rw [HL.out]; exact hlt
                  obtain ⟨ad, A', c', rfl, hc, hcl, hcb, hS⟩ := H.out.at_in hbel hB hkl
                  have hcb' : c' ≤ 9223372036854775807 := hcb
                  have HS := Lib.hid hS
                  have HM := Lib.hid (encD_succ ls k hkl)
                  have hn2 := HLn.out (k + 1)
                  have HX := Lib.hid (linesE_zero.1 HE0.out _ (List.getElem_mem hkl))
                  clear hS
                  generalize hl : ls[k] = l at *
                  have Hl := Lib.hid hl
                  clear hl
                  generalize hX : encD (ls.take k) = X at *
                  go_wp2
                  clear hc
                  have HOWN := Lib.hid hown
                  have HBEL := Lib.hid hbel
                  clear hown hbel
                  obtain ⟨wo, rfl⟩ : ∃ wo : World, wo = wr := ⟨_, rfl⟩
                  go_loopw [12, 63] (fun v i wr => ∃ j A' c', j ≤ l.length ∧ i = .int .i64 (j : Nat) ∧ v = .slice A' (X ++ partL l j).length c' ∧ Own wr w.heap.size 5 1 A' (X ++ partL l j).length c' ((X ++ partL l j).map bv) ∧ Below w.heap.size w wr) (fun _ i _ => l.length - (intOf i).toNat)
                  case atStart => exact ⟨0, _, _, Nat.zero_le _, rfl, by rw [partL_zero, List.append_nil], by rw [partL_zero, List.append_nil]; exact HOWN.out, HBEL.out⟩
                  case round =>
                    obtain ⟨j, A1, c1, hj, rfl, rfl, hown, hbel⟩ := hrel
                    by_cases hjt : j < l.length
                    · obtain ⟨ad2, rfl, hc2, _⟩ := HS.out.at_in hbel hB hjt
                      have hw1 := (lineE_zero HX.out).2.2 _ (List.getElem_mem hjt)
                      have hp1 := partL_len l j
                      have hp2 := lenW_take_le HX.out j
                      have hw2 := wordS_len (bs l[j])
                      have hw3 := encW_len (bs l[j])
                      rw [bs_len] at hw3
                      have hxl : (X ++ partL l j).length ≤ 20000000000 := by rw [List.length_append]; omega
                      have hwl : (wordS (bs l[j])).length ≤ 100000 := by omega
                      clear hp1 hp2 hw2 hw3
                      have hsz := hbel.size
                      have hY1 : 0 < j → X ++ partL l (j + 1) = (X ++ partL l j) ++ 32 :: wordS (bs l[j]) := fun h0 => by rw [partL_succ l j h0 hjt, List.append_assoc]
                      have hY2 : ¬ 0 < j → X ++ partL l (j + 1) = (X ++ partL l j) ++ wordS (bs l[j]) := fun h0 => by
                        obtain rfl : j = 0 := by omega
                        rw [partL_one l hjt, partL_zero, List.append_nil]
                      generalize hY : X ++ partL l j = Y at *
                      clear hY
                      by_cases hj0 : 0 < j
                      · have HP := Lib.hid (hY1 hj0)
                        clear hY1 hY2
                        go_wp2_with (at_builtin; refine wl_app _ el_u8 rfl _ _ rfl w.heap.size _ _ _ _ rfl (hown.alloc _) (wr.heap.size + 1) _ 1 1 _ rfl (Rd.lit wr _ _ 1 rfl) (bv_one [32]) (by omega) (by simp; omega) ?_; intro A2 c2 w2 hown2 hbel2 _)
                        have hbelA : Below w.heap.size w w2 := hbel.trans (((Below.refl _ _).alloc (by omega) _).trans hbel2)
                        have hszA := hbelA.size
                        clear hbel2
                        refine (Word_any _ _ (by omega)).mono ?_
                        rintro e w3 ⟨rfl, hb3⟩
                        have hown3 := hown2.kept hb3
                        have hbelB := hbelA.trans (hb3.mono hszA)
                        have hszB := hbelB.size
                        clear hb3 hown2
                        go_wp2_with (at_builtin; refine wl_app_str _ el_u8 Tryz.underlying9 rfl _ _ rfl w.heap.size _ _ _ _ rfl hown3 _ rfl (by rw [bsize]; omega) hszB ?_; intro A4 c4 w4 hown4 hbel4 _)
                        rw [bsize] at hown4
                        refine ⟨⟨j + 1, A4, c4, by omega, by go_num, ?_, ?_, hbelB.trans hbel4⟩, by simp [intOf]; omega⟩
                        · rw [HP.out]; exact slice_len _ _ (by simp; omega)
                        · rw [HP.out]; exact hown4.cast (by simp; omega) (by simp [bv])
                      · have HP := Lib.hid (hY2 hj0)
                        clear hY1 hY2
                        go_wp2_with fail
                        refine (Word_any _ _ (by omega)).mono ?_
                        rintro e w3 ⟨rfl, hb3⟩
                        have hown3 := hown.kept hb3
                        have hbelB := hbel.trans (hb3.mono hsz)
                        have hszB := hbelB.size
                        clear hb3 hown
                        go_wp2_with (at_builtin; refine wl_app_str _ el_u8 Tryz.underlying9 rfl _ _ rfl w.heap.size _ _ _ _ rfl hown3 _ rfl (by rw [bsize]; omega) hszB ?_; intro A4 c4 w4 hown4 hbel4 _)
                        rw [bsize] at hown4
                        refine ⟨⟨j + 1, A4, c4, by omega, by go_num, ?_, ?_, hbelB.trans hbel4⟩, by simp [intOf]; omega⟩
                        · rw [HP.out]; exact slice_len _ _ (by simp)
                        · rw [HP.out]; exact hown4.cast (by simp) (by simp [bv])
                    · have hp1 := partL_len l j
                      have hp2 := lenW_take_le HX.out j
                      have hxl : (X ++ partL l j).length ≤ 20000000000 := by rw [List.length_append]; omega
                      clear hp1 hp2
                      have hsz := hbel.size
                      have hP : encD (ls.take (k + 1)) = (X ++ partL l j) ++ [10] := by rw [HM.out, List.append_assoc, partL_all l j (by omega)]
                      have HP := Lib.hid hP
                      clear hP
                      generalize hY : X ++ partL l j = Y at *
                      clear hY
                      go_wp2_with (at_builtin; refine wl_app _ el_u8 rfl _ _ rfl w.heap.size _ _ _ _ rfl (hown.alloc _) (wr.heap.size + 1) _ 1 1 _ rfl (Rd.lit wr _ _ 1 rfl) (bv_one [10]) (by omega) (by simp; omega) ?_; intro A2 c2 w2 hown2 hbel2 _)
                      refine ⟨⟨k + 1, A2, c2, by omega, by go_num, ?_, ?_, hbel.trans (((Below.refl _ _).alloc (by omega) _).trans hbel2)⟩, by simp [intOf]; omega⟩
                      · rw [HP.out]; exact slice_len _ _ (by simp)
                      · rw [HP.out]; exact hown2.cast (by simp) (by simp [bv])
                · go_wp2
                  go_ret2
                  have ht : ls.take k = ls := List.take_of_length_le (by rw [HL.out]; omega)
                  rw [ht] at hown ⊢
                  exact EncPost.yes hE.out hbel hown
end Go.Proofs.YtjdinakdkdjocaaGreatDoor
set_option linter.unusedSimpArgs false
set_option linter.unusedVariables false
namespace Go.Proofs.YtjdinakdkdjocaaGreatDoor
open Go Go.RowKit Go.Adm

theorem lenW_take_small {l : List ByteArray} (j : Nat) (hl : l.length ≤ 120) (h : ∀ i (hi : i < l.length), i < j → l[i].size ≤ 32768) : lenW (l.take j) ≤ 11796720 := by
  have := lenW_le (l := l.take j) fun w hw => by
    obtain ⟨i, hi, rfl⟩ := List.getElem_of_mem hw
    rw [List.length_take] at hi
    rw [List.getElem_take]
    exact h i (by omega) (by omega)
  have h5 := List.length_take_le' j l
  omega

set_option maxHeartbeats 2000000 in
theorem refEncode_any (w : World) (B : Nat) (A : Option Addr) (n c : Nat) (ls : List (List ByteArray)) (h : Lines w B A n ls) (hB : B ≤ w.heap.size) :
    Calls Tryz.prog 16 #[.slice A n c] w (EncPost 5 ls w) := by
  have hle := h.le
  have HL := Lib.hid h.len
  have H := Lib.hid h
  clear h
  by_cases h1 : 1000 < n
  · have hE : Hid (docE ls = 3) := Lib.hid (docE_many (by rw [HL.out]; exact h1))
    go_enter Tryz.func16, Tryz.ntmps16
    go_wp2
    go_ret2
    exact EncPost.no hE.out (by decide) (Below.refl _ _)
  · go_enter Tryz.func16, Tryz.ntmps16
    go_wp2
    go_loopw [4, 5, 6] (fun v i _ wr => ∃ k A' c', k ≤ n ∧ i = .int .i64 (k : Nat) ∧ v = .slice A' (encD (ls.take k)).length c' ∧ Own wr w.heap.size 5 1 A' (encD (ls.take k)).length c' ((encD (ls.take k)).map bv) ∧ Below w.heap.size w wr ∧ ∀ j (hj : j < ls.length), j < k → lineE ls[j] = 0) (fun _ i _ _ => n - (intOf i).toNat)
    case atStart => exact ⟨0, _, _, Nat.zero_le _, rfl, rfl, Own.nil _ _ _ _, Below.refl _ _, fun _ _ h => absurd h (by omega)⟩
    case round =>
      obtain ⟨k, A0, c0, hk, rfl, rfl, hown, hbel, hall⟩ := hrel
      have Hall := Lib.hid hall
      clear hall
      have hn1 : (encD (ls.take k)).length ≤ 11796720000 := by
        have h3 : linesE (ls.take k) = 0 := linesE_all fun j hj => by
          rw [List.length_take] at hj
          rw [List.getElem_take]
          exact Hall.out j (by omega) (by omega)
        have h4 := encD_le h3
        have h5 := List.length_take_le k ls
        omega
      by_cases hlt : k < n
      · have hkl : k < ls.length := by rw [HL.out]; exact hlt
        obtain ⟨ad, A', c', rfl, hadB, hcw, hcl, hcb, hS⟩ := H.out.at_ hkl
        have hc := (hbel.cell (p := ad.add k) (by rw [add_block]; omega)).trans hcw
        have HCW := Lib.hid hcw
        clear hcw
        have HS := Lib.hid hS
        have HM := Lib.hid (encD_succ ls k hkl)
        have HE : Hid (lineE ls[k] ≠ 0 → docE ls = lineE ls[k]) := Lib.hid fun he => by
          rw [docE_line (by rw [HL.out]; exact h1) (by rw [linesE_at hkl Hall.out he]; exact he), linesE_at hkl Hall.out he]
        clear hS
        generalize hl : ls[k] = l at *
        have Hl := Lib.hid hl
        clear hl
        by_cases hl0 : l.length = 0
        · have hx : ((l.length : Int) == 0) = true := by simp [hl0]
          have hLE : lineE l = 1 := by unfold lineE; rw [if_pos hl0]
          have hE : Hid (docE ls = 1) := Lib.hid (by rw [HE.out (by rw [hLE]; decide), hLE])
          clear hl0 hLE
          go_wp2
          go_ret2
          exact EncPost.no hE.out (by decide) hbel
        · have hx : ((l.length : Int) == 0) = false := by simp; exact fun h => hl0 (by rw [h]; rfl)
          by_cases hl1 : 120 < l.length
          · have hLE : lineE l = 3 := by unfold lineE; rw [if_neg hl0, if_pos hl1]
            have hE : Hid (docE ls = 3) := Lib.hid (by rw [HE.out (by rw [hLE]; decide), hLE])
            clear hl0 hLE
            go_wp2
            go_ret2
            exact EncPost.no hE.out (by decide) hbel
          · have HT : Hid (∀ j, (∀ i (hi : i < l.length), i < j → l[i].size ≤ 32768) → lenW (l.take j) ≤ 11796720) := Lib.hid fun j => lenW_take_small j (by omega)
            have HT0 := HT
            generalize hX : encD (ls.take k) = X at *
            go_wp2
            have HOWN := Lib.hid hown
            have HBEL := Lib.hid hbel
            clear hown hbel hc
            obtain ⟨wo, rfl⟩ : ∃ wo : World, wo = wr := ⟨_, rfl⟩
            go_loopw [4, 6] (fun v i wr => ∃ j A' c', j ≤ l.length ∧ i = .int .i64 (j : Nat) ∧ v = .slice A' (X ++ partL l j).length c' ∧ Own wr w.heap.size 5 1 A' (X ++ partL l j).length c' ((X ++ partL l j).map bv) ∧ Below w.heap.size w wr ∧ ∀ i (hi : i < l.length), i < j → l[i].size ≤ 32768) (fun _ i _ => l.length - (intOf i).toNat)
            case atStart => exact ⟨0, _, _, Nat.zero_le _, rfl, by rw [partL_zero, List.append_nil], by rw [partL_zero, List.append_nil]; exact HOWN.out, HBEL.out, fun _ _ h => absurd h (by omega)⟩
            case round =>
              obtain ⟨j, A1, c1, hj, rfl, rfl, hown, hbel, hwds⟩ := hrel
              have Hwds := Lib.hid hwds
              have HT : Hid (∀ i, i ≤ j → lenW (l.take i) ≤ 11796720) := Lib.hid fun i hi => HT0.out i fun q hq hq2 => Hwds.out q hq (by omega)
              clear hwds
              have hc := (hbel.cell (p := ad.add k) (by rw [add_block]; omega)).trans HCW.out
              by_cases hjt : j < l.length
              · obtain ⟨ad2, rfl, had2B, hc2w, _⟩ := HS.out.at_ hjt
                have hc2 := (hbel.cell (p := ad2.add j) (by rw [add_block]; omega)).trans hc2w
                have HC2W := Lib.hid hc2w
                clear hc2w
                by_cases hlong : 32768 < l[j].size
                · have hLE : lineE l = 3 := lineE_of_long hjt hlong (by omega)
                  have hE : Hid (docE ls = 3) := Lib.hid (by rw [HE.out (by rw [hLE]; decide), hLE])
                  clear hLE
                  go_wp2
                  go_ret2
                  exact EncPost.no hE.out (by decide) hbel
                · skip
                  have hw1 : l[j].size ≤ 32768 := by omega
                  have hp1 := partL_len l j
                  have hp2 := HT.out j (by omega)
                  have hw2 := wordS_len (bs l[j])
                  have hw3 := encW_len (bs l[j])
                  rw [bs_len] at hw3
                  have hxl : (X ++ partL l j).length ≤ 20000000000 := by rw [List.length_append]; omega
                  have hwl : (wordS (bs l[j])).length ≤ 100000 := by omega
                  clear hp1 hp2 hw2 hw3
                  have hsz := hbel.size
                  have hY1 : 0 < j → X ++ partL l (j + 1) = (X ++ partL l j) ++ 32 :: wordS (bs l[j]) := fun h0 => by rw [partL_succ l j h0 hjt, List.append_assoc]
                  have hY2 : ¬ 0 < j → X ++ partL l (j + 1) = (X ++ partL l j) ++ wordS (bs l[j]) := fun h0 => by
                    obtain rfl : j = 0 := by omega
                    rw [partL_one l hjt, partL_zero, List.append_nil]
                  generalize hY : X ++ partL l j = Y at *
                  clear hY
                  by_cases hj0 : 0 < j
                  · have HP := Lib.hid (hY1 hj0)
                    clear hY1 hY2
                    go_wp2_with (at_builtin; refine wl_app _ el_u8 rfl _ _ rfl w.heap.size _ _ _ _ rfl (hown.alloc _) (wr.heap.size + 1) _ 1 1 _ rfl (Rd.lit wr _ _ 1 rfl) (bv_one [32]) (by omega) (by simp; omega) ?_; intro A2 c2 w2 hown2 hbel2 _; have hbelA : Below w.heap.size w w2 := hbel.trans (((Below.refl _ _).alloc (by omega) _).trans hbel2); have hszA := hbelA.size; clear hbel2; have hcA := (hbelA.cell (p := ad.add k) (by rw [add_block]; omega)).trans HCW.out; have hc2A := (hbelA.cell (p := ad2.add j) (by rw [add_block]; omega)).trans HC2W.out)
                    refine (refWord_any _ _ (by omega)).mono ?_
                    rintro e w3 ⟨rfl, hb3⟩
                    have hown3 := hown2.kept hb3
                    have hbelB := hbelA.trans (hb3.mono hszA)
                    have hszB := hbelB.size
                    clear hb3 hown2
                    go_wp2_with (at_builtin; refine wl_app_str _ el_u8 Tryz.underlying9 rfl _ _ rfl w.heap.size _ _ _ _ rfl hown3 _ rfl (by rw [bsize]; omega) hszB ?_; intro A4 c4 w4 hown4 hbel4 _)
                    rw [bsize] at hown4
                    refine ⟨⟨j + 1, A4, c4, by omega, by go_num, ?_, ?_, hbelB.trans hbel4, fun i hi h3 => by
                      rcases Nat.lt_succ_iff_lt_or_eq.1 h3 with h4 | h4
                      · exact Hwds.out i hi h4
                      · subst h4; exact hw1⟩, by simp [intOf]; omega⟩
                    · rw [HP.out]; exact slice_len _ _ (by simp; omega)
                    · rw [HP.out]; exact hown4.cast (by simp; omega) (by simp [bv])
                  · have HP := Lib.hid (hY2 hj0)
                    clear hY1 hY2
                    go_wp2_with fail
                    refine (refWord_any _ _ (by omega)).mono ?_
                    rintro e w3 ⟨rfl, hb3⟩
                    have hown3 := hown.kept hb3
                    have hbelB := hbel.trans (hb3.mono hsz)
                    have hszB := hbelB.size
                    clear hb3 hown
                    go_wp2_with (at_builtin; refine wl_app_str _ el_u8 Tryz.underlying9 rfl _ _ rfl w.heap.size _ _ _ _ rfl hown3 _ rfl (by rw [bsize]; omega) hszB ?_; intro A4 c4 w4 hown4 hbel4 _)
                    rw [bsize] at hown4
                    refine ⟨⟨j + 1, A4, c4, by omega, by go_num, ?_, ?_, hbelB.trans hbel4, fun i hi h3 => by
                      rcases Nat.lt_succ_iff_lt_or_eq.1 h3 with h4 | h4
                      · exact Hwds.out i hi h4
                      · subst h4; exact hw1⟩, by simp [intOf]; omega⟩
                    · rw [HP.out]; exact slice_len _ _ (by simp)
                    · rw [HP.out]; exact hown4.cast (by simp) (by simp [bv])
              · have HX : Hid (lineE l = 0) := Lib.hid (lineE_of_ok (by omega) (by omega) fun i hi => Hwds.out i hi (by omega))
                have hp1 := partL_len l j
                have hp2 := HT.out j (by omega)
                have hxl : (X ++ partL l j).length ≤ 20000000000 := by rw [List.length_append]; omega
                clear hp1 hp2
                have hsz := hbel.size
                have hP : encD (ls.take (k + 1)) = (X ++ partL l j) ++ [10] := by rw [HM.out, List.append_assoc, partL_all l j (by omega)]
                have HP := Lib.hid hP
                clear hP
                generalize hY : X ++ partL l j = Y at *
                clear hY
                go_wp2_with (at_builtin; refine wl_app _ el_u8 rfl _ _ rfl w.heap.size _ _ _ _ rfl (hown.alloc _) (wr.heap.size + 1) _ 1 1 _ rfl (Rd.lit wr _ _ 1 rfl) (bv_one [10]) (by omega) (by simp; omega) ?_; intro A2 c2 w2 hown2 hbel2 _)
                refine ⟨⟨k + 1, A2, c2, by omega, by go_num, ?_, ?_, hbel.trans (((Below.refl _ _).alloc (by omega) _).trans hbel2), fun i hi h3 => by
                  rcases Nat.lt_succ_iff_lt_or_eq.1 h3 with h4 | h4
                  · exact Hall.out i hi h4
                  · subst h4; rw [Hl.out]; exact HX.out⟩, by simp [intOf]; omega⟩
                · rw [HP.out]; exact slice_len _ _ (by simp)
                · rw [HP.out]; exact hown2.cast (by simp) (by simp [bv])
      · have ht : ls.take k = ls := List.take_of_length_le (by rw [HL.out]; omega)
        rw [ht] at hown hn1 ⊢
        have hE0 : linesE ls = 0 := linesE_all fun j hj => Hall.out j hj (by rw [HL.out] at hj; omega)
        by_cases hbig : 262144 < (encD ls).length
        · have hE : Hid (docE ls = 3) := Lib.hid (docE_long (by rw [HL.out]; exact h1) hE0 hbig)
          clear ht hE0
          go_wp2
          go_ret2
          exact EncPost.no hE.out (by decide) hbel
        · have hE : Hid (docE ls = 0) := Lib.hid (docE_ok (by rw [HL.out]; exact h1) hE0 hbig)
          clear ht hE0
          go_wp2
          go_ret2
          exact EncPost.yes hE.out hbel hown
end Go.Proofs.YtjdinakdkdjocaaGreatDoor

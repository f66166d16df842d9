/- The laws' guard on documents, as a plain function. Lines and documents, written step by step. The walks over package document and its reference: lines, documents. Documents in two parts; decoding of words. admissionref02.Encode. The decimal form of a number: the reference. -/
import Derived.Test.YtkcmaembpfakdaaGreatDoorDoc1
import Derived.Test.YtkcmaembpfakdaaGreatDoorNum1
import Derived.Lib.Bytealg
import Derived.IntWalk
set_option linter.unusedSimpArgs false
set_option linter.unusedVariables false
namespace Go.Adm
open Go Go.RowKit

/-! ### the guard of the laws: documents that are not too large -/
def mW (s : ByteArray) : Nat := 1 + min s.size 100000
def mL (l : List ByteArray) : Nat := (l.map mW).sum
def mD (ls : List (List ByteArray)) : Nat := (ls.map mL).sum
def Light (ls : List (List ByteArray)) : Prop := ls.length ≤ 1200 ∧ (∀ l ∈ ls, l.length ≤ 200) ∧ mD ls ≤ 100000
theorem take_succ_get {α : Type} (l : List α) (k : Nat) (h : k < l.length) : l.take (k + 1) = l.take k ++ [l[k]] := List.take_succ_eq_append_getElem h
theorem mL_succ (l : List ByteArray) (k : Nat) (h : k < l.length) : mL (l.take (k + 1)) = mL (l.take k) + (1 + min l[k].size 100000) := by
  unfold mL; rw [take_succ_get l k h, List.map_append, List.sum_append]; simp [mW]
theorem mD_succ (ls : List (List ByteArray)) (k : Nat) (h : k < ls.length) : mD (ls.take (k + 1)) = mD (ls.take k) + mL ls[k] := by
  unfold mD; rw [take_succ_get ls k h, List.map_append, List.sum_append]; simp
theorem mD_mem {ls : List (List ByteArray)} (h : mD ls ≤ 100000) : ∀ l ∈ ls, mL l ≤ 100000 := by
  induction ls with
  | nil => simp
  | cons a r ih =>
    have h' : mL a + mD r ≤ 100000 := by simpa [mD] using h
    intro l hl
    rcases List.mem_cons.1 hl with rfl | hl
    · omega
    · exact ih (by omega) l hl
theorem Light.line {ls : List (List ByteArray)} (h : Light ls) : ∀ l ∈ ls, mL l ≤ 100000 := mD_mem h.2.2
theorem mL_mem {l : List ByteArray} (h : mL l ≤ 100000) : ∀ s ∈ l, s.size < 100000 := by
  induction l with
  | nil => simp
  | cons a r ih =>
    have h' : (1 + min a.size 100000) + mL r ≤ 100000 := by simpa [mL, mW] using h
    intro s hs
    rcases List.mem_cons.1 hs with rfl | hs
    · omega
    · exact ih (by omega) s hs
theorem Light.word {ls : List (List ByteArray)} (h : Light ls) : ∀ l ∈ ls, ∀ s ∈ l, s.size < 100000 := fun l hl => mL_mem (h.line l hl)
end Go.Adm
set_option linter.unusedSimpArgs false
set_option linter.unusedVariables false
namespace Go.Adm
open Go Go.RowKit

theorem linesE_at {ls : List (List ByteArray)} {k : Nat} (hk : k < ls.length) (h0 : ∀ j (hj : j < ls.length), j < k → lineE ls[j] = 0) (h : lineE ls[k] ≠ 0) : linesE ls = lineE ls[k] := by
  induction ls generalizing k with
  | nil => simp at hk
  | cons a r ih =>
    cases k with
    | zero => simp only [List.getElem_cons_zero] at *; simp [linesE, h]
    | succ k =>
      have ha : lineE a = 0 := h0 0 (by simp) (by omega)
      simp only [List.getElem_cons_succ] at *
      have := ih (k := k) (by simpa using hk) (fun j hj hjk => h0 (j + 1) (by simpa using hj) (by omega)) h
      simp [linesE, ha, this]
theorem linesE_all {ls : List (List ByteArray)} (h0 : ∀ j (hj : j < ls.length), lineE ls[j] = 0) : linesE ls = 0 :=
  linesE_zero.2 fun l hl => by
    obtain ⟨j, hj, rfl⟩ := List.getElem_of_mem hl
    exact h0 j hj
def tW (ls : List (List ByteArray)) : Nat := (ls.map lenW).sum
theorem tW_succ (ls : List (List ByteArray)) (k : Nat) (h : k < ls.length) : tW (ls.take (k + 1)) = tW (ls.take k) + lenW ls[k] := by
  unfold tW; rw [take_succ_get ls k h, List.map_append, List.sum_append]; simp
theorem lenW_succ (l : List ByteArray) (k : Nat) (h : k < l.length) : lenW (l.take (k + 1)) = lenW (l.take k) + ((wordS (bs l[k])).length + 1) := by
  rw [take_succ_get l k h, lenW_snoc]
theorem tW_encD {ls : List (List ByteArray)} (h : linesE ls = 0) : tW ls = (encD ls).length := by
  induction ls with
  | nil => rfl
  | cons l r ih =>
    have h0 := linesE_zero.1 h
    obtain ⟨h1, _, _⟩ := lineE_zero (h0 l (by simp))
    have h4 := ih (linesE_zero.2 fun x hx => h0 x (by simp [hx]))
    have h5 := lineS_len l (by intro he; rw [he] at h1; simp at h1)
    simp only [encD, tW, List.map_cons, List.sum_cons, List.flatMap_cons, List.length_append] at *
    omega
theorem tW_le {ls : List (List ByteArray)} (h : linesE ls = 0) : tW ls ≤ 11796720 * ls.length := by rw [tW_encD h]; exact encD_le h
theorem linesE_take {ls : List (List ByteArray)} (h : linesE ls = 0) (k : Nat) : linesE (ls.take k) = 0 := linesE_zero.2 fun l hl => linesE_zero.1 h l (List.mem_of_mem_take hl)
theorem lenW_take_le {l : List ByteArray} (h : lineE l = 0) (k : Nat) : lenW (l.take k) ≤ 11796720 := by
  obtain ⟨_, h2, h3⟩ := lineE_zero h
  have := lenW_le (l := l.take k) fun w hw => h3 w (List.mem_of_mem_take hw)
  have h4 := List.length_take_le k l
  have h5 := List.length_take_le' k l
  omega

/-- a line's words as far as they are written -/
def partL (l : List ByteArray) (j : Nat) : List UInt8 := (wordsS (l.take j)).drop 1
theorem partL_zero (l : List ByteArray) : partL l 0 = [] := by simp [partL, wordsS]
theorem partL_one (l : List ByteArray) (h : 0 < l.length) : partL l 1 = wordS (bs l[0]) := by
  cases l with
  | nil => simp at h
  | cons w r => simp [partL, wordsS]
theorem partL_succ (l : List ByteArray) (j : Nat) (h0 : 0 < j) (h : j < l.length) : partL l (j + 1) = partL l j ++ 32 :: wordS (bs l[j]) := by
  unfold partL
  rw [take_succ_get l j h, wordsS_append, List.drop_append_of_le_length]
  · simp [wordsS]
  · cases l with
    | nil => simp at h
    | cons w r =>
      cases j with
      | zero => omega
      | succ j => simp [wordsS]
theorem partL_all (l : List ByteArray) (j : Nat) (h : l.length ≤ j) : partL l j ++ [10] = lineS l := by
  unfold partL lineS; rw [List.take_of_length_le h]
theorem partL_len (l : List ByteArray) (j : Nat) : (partL l j).length ≤ lenW (l.take j) := by
  unfold partL
  rw [List.length_drop, wordsS_len]
  omega
theorem encD_succ (ls : List (List ByteArray)) (k : Nat) (h : k < ls.length) : encD (ls.take (k + 1)) = encD (ls.take k) ++ lineS ls[k] := by
  rw [take_succ_get ls k h, encD_snoc]
theorem encD_take_le {ls : List (List ByteArray)} (h : linesE ls = 0) (k : Nat) (hl : ls.length ≤ 1000) : (encD (ls.take k)).length ≤ 11796720000 := by
  have := encD_le (linesE_take h k)
  have h5 := List.length_take_le' k ls
  omega

/-- what Encode leaves -/
def EncPost (u8 : TypeId) (ls : List (List ByteArray)) (w : World) (e : Ending) (w' : World) : Prop :=
  ∃ A n c, e = .returned (.tuple #[.slice A n c, .int .i64 (docE ls)]) ∧ Below w.heap.size w w' ∧ (docE ls = 0 → Own w' w.heap.size u8 1 A n c ((encD ls).map bv)) ∧ (docE ls ≠ 0 → A = none ∧ n = 0 ∧ c = 0)
theorem EncPost.no {u8 : TypeId} {ls : List (List ByteArray)} {w w' : World} {e : Int} (hE : docE ls = e) (h0 : e ≠ 0) (hb : Below w.heap.size w w') :
    EncPost u8 ls w (.returned (.tuple #[.slice none 0 0, .int .i64 e])) w' := ⟨none, 0, 0, by rw [hE], hb, fun h => absurd (hE ▸ h) h0, fun _ => ⟨rfl, rfl, rfl⟩⟩
theorem EncPost.yes {u8 : TypeId} {ls : List (List ByteArray)} {w w' : World} {A : Option Addr} {n c : Nat} (hE : docE ls = 0) (hb : Below w.heap.size w w') (ho : Own w' w.heap.size u8 1 A n c ((encD ls).map bv)) :
    EncPost u8 ls w (.returned (.tuple #[.slice A n c, .int .i64 0])) w' := ⟨A, n, c, by rw [hE], hb, fun _ => ho, fun h => absurd hE h⟩
theorem docE_many {ls : List (List ByteArray)} (h : 1000 < ls.length) : docE ls = 3 := by unfold docE; rw [if_pos h]
theorem docE_line {ls : List (List ByteArray)} (h : ¬ 1000 < ls.length) (h2 : linesE ls ≠ 0) : docE ls = linesE ls := by unfold docE; rw [if_neg h, if_pos h2]
theorem docE_long {ls : List (List ByteArray)} (h : ¬ 1000 < ls.length) (h2 : linesE ls = 0) (h3 : 262144 < (encD ls).length) : docE ls = 3 := by unfold docE; rw [if_neg h, if_neg (by simp [h2]), if_pos h3]
theorem docE_ok {ls : List (List ByteArray)} (h : ¬ 1000 < ls.length) (h2 : linesE ls = 0) (h3 : ¬ 262144 < (encD ls).length) : docE ls = 0 := by unfold docE; rw [if_neg h, if_neg (by simp [h2]), if_neg h3]
end Go.Adm
set_option linter.unusedSimpArgs false
set_option linter.unusedVariables false
namespace Go.Proofs.YtkcmaembpfakdaaGreatDoor
open Go Go.RowKit Go.Adm

theorem any_long {l : List ByteArray} {k : Nat} (hk : k < l.length) (h : 32768 < l[k].size) : l.any (fun w => decide (32768 < w.size)) = true := by
  rw [List.any_eq_true]
  exact ⟨l[k], List.getElem_mem hk, by simpa using h⟩
theorem lineE_of_long {l : List ByteArray} {k : Nat} (hk : k < l.length) (h : 32768 < l[k].size) (h2 : l.length ≤ 120) : lineE l = 3 := by
  unfold lineE
  rw [if_neg (by omega), if_neg (by omega), if_pos (any_long hk h)]
theorem lineE_of_ok {l : List ByteArray} (h1 : 0 < l.length) (h2 : l.length ≤ 120) (h : ∀ j (hj : j < l.length), l[j].size ≤ 32768) : lineE l = 0 := by
  unfold lineE
  rw [if_neg (by omega), if_neg (by omega), if_neg]
  intro ha
  rw [List.any_eq_true] at ha
  obtain ⟨x, hx, hl⟩ := ha
  obtain ⟨j, hj, rfl⟩ := List.getElem_of_mem hx
  have := h j hj
  simp at hl
  omega

set_option maxHeartbeats 400000 in
theorem check_any (w : World) (B : Nat) (A : Option Addr) (n c : Nat) (l : List ByteArray) (h : Strs w B A n l) (hnm : n ≤ maxLen) :
    Calls Tryz.prog 67 #[.slice A n c] w fun e w' => e = .returned (.int .i64 (lineE l)) ∧ w = w' := by
  have hn : n ≤ 9223372036854775807 := hnm
  have hlen := h.len
  have H := Lib.hid h
  clear h
  by_cases h0 : n = 0
  · subst h0
    have hE : Hid (lineE l = 1) := Lib.hid (by unfold lineE; rw [if_pos hlen])
    clear hlen
    go_enter Tryz.func67, Tryz.ntmps67
    go_wp2
    go_ret
    exact ⟨ret_int hE.out.symm, rfl⟩
  · have h0' : ((n : Int) == 0) = false := by simp; omega
    by_cases h1 : 120 < n
    · have hE : Hid (lineE l = 3) := Lib.hid (by unfold lineE; rw [if_neg (by omega), if_pos (by omega)])
      clear hlen
      go_enter Tryz.func67, Tryz.ntmps67
      go_wp2
      go_ret
      exact ⟨ret_int hE.out.symm, rfl⟩
    · have HL : Hid (l.length = n) := Lib.hid hlen
      clear hlen
      go_enter Tryz.func67, Tryz.ntmps67
      go_wp2
      go_loop [4, 15] (fun _ i => ∃ k : Nat, k ≤ n ∧ i = .int .i64 k ∧ ∀ j (hj : j < l.length), j < k → l[j].size ≤ 32768) (fun _ i => n - (intOf i).toNat)
      case atStart => exact ⟨0, Nat.zero_le _, rfl, fun _ _ h => absurd h (by omega)⟩
      case round =>
        obtain ⟨k, hk, rfl, hall⟩ := hrel
        have Hall := Lib.hid hall
        clear hall
        by_cases hlt : k < n
        · have hkl : k < l.length := by rw [HL.out]; exact hlt
          obtain ⟨ad, rfl, _, hc, hsz⟩ := H.out.at_ hkl
          by_cases hlong : 32768 < l[k].size
          · have hE : Hid (lineE l = 3) := Lib.hid (lineE_of_long hkl hlong (by rw [HL.out]; omega))
            go_wp2
            go_ret
            exact ⟨ret_int hE.out.symm, rfl⟩
          · go_wp2
            go_round
            case rel => exact ⟨k + 1, by omega, by go_num, fun j hj h3 => by
                rcases Nat.lt_succ_iff_lt_or_eq.1 h3 with h4 | h4
                · exact Hall.out j hj h4
                · subst h4; omega⟩
            case measure => simp [intOf]; omega
        · have hE : Hid (lineE l = 0) := Lib.hid (lineE_of_ok (by rw [HL.out]; omega) (by rw [HL.out]; omega) fun j hj => Hall.out j hj (by rw [HL.out] at hj; omega))
          go_wp2
          go_ret
          exact ⟨ret_int hE.out.symm, rfl⟩
def LightPost (ls : List (List ByteArray)) (w : World) (e : Ending) (w' : World) : Prop := ∃ b : Bool, e = .returned (.bool b) ∧ (b = true → Light ls) ∧ w = w'

end Go.Proofs.YtkcmaembpfakdaaGreatDoor
set_option linter.unusedSimpArgs false
set_option linter.unusedVariables false
namespace Go.Adm
open Go Go.RowKit

/-! ### two documents, one behind the other -/
theorem linesE_append_left {a b : List (List ByteArray)} (h : linesE a ≠ 0) : linesE (a ++ b) = linesE a := by
  induction a with
  | nil => exact absurd rfl h
  | cons l r ih =>
    by_cases hl : lineE l = 0
    · have e1 : linesE (l :: r) = linesE r := by simp [linesE, hl]
      rw [e1] at h ⊢
      rw [← ih h]
      simp [linesE, hl]
    · simp [linesE, hl]
theorem docE_app_left {a b : List (List ByteArray)} (h : docE a ≠ 0) : docE (a ++ b) ≠ 0 := by
  by_cases h1 : 1000 < (a ++ b).length
  · rw [docE_many h1]; decide
  · have h1a : ¬ 1000 < a.length := by simp at h1; omega
    by_cases h2 : linesE a = 0
    · have h3 : 262144 < (encD a).length := by
        rcases Nat.lt_or_ge 262144 (encD a).length with h4 | h4
        · exact h4
        · exact absurd (docE_ok h1a h2 (by omega)) h
      by_cases h5 : linesE (a ++ b) = 0
      · rw [docE_long h1 h5 (by rw [encD_append, List.length_append]; omega)]; decide
      · rw [docE_line h1 h5]; exact h5
    · rw [docE_line h1 (by rw [linesE_append_left h2]; exact h2), linesE_append_left h2]; exact h2
theorem docE_app_right {a b : List (List ByteArray)} (ha : docE a = 0) (h : docE b ≠ 0) : docE (a ++ b) ≠ 0 := by
  by_cases h1 : 1000 < (a ++ b).length
  · rw [docE_many h1]; decide
  · have h1b : ¬ 1000 < b.length := by simp at h1; omega
    have h1a : ¬ 1000 < a.length := by simp at h1; omega
    have h2a : linesE a = 0 := by
      rcases Decidable.em (linesE a = 0) with h2 | h2
      · exact h2
      · rw [docE_line h1a h2] at ha; exact ha
    have e := linesE_append a b h2a
    by_cases h2 : linesE b = 0
    · have h3 : 262144 < (encD b).length := by
        rcases Nat.lt_or_ge 262144 (encD b).length with h4 | h4
        · exact h4
        · exact absurd (docE_ok h1b h2 (by omega)) h
      rw [docE_long h1 (by rw [e]; exact h2) (by rw [encD_append, List.length_append]; omega)]; decide
    · rw [docE_line h1 (by rw [e]; exact h2), e]; exact h2
theorem docE_zero {a : List (List ByteArray)} (h : docE a = 0) : ¬ 1000 < a.length ∧ linesE a = 0 ∧ ¬ 262144 < (encD a).length := by
  have h1 : ¬ 1000 < a.length := fun h1 => by rw [docE_many h1] at h; cases h
  have h2 : linesE a = 0 := by
    rcases Decidable.em (linesE a = 0) with h2 | h2
    · exact h2
    · rw [docE_line h1 h2] at h; exact h
  exact ⟨h1, h2, fun h3 => by rw [docE_long h1 h2 h3] at h; cases h⟩
theorem docE_app_both {a b : List (List ByteArray)} (ha : docE a = 0) (hb : docE b = 0) : docE (a ++ b) = 3 ∨ docE (a ++ b) = 0 := by
  obtain ⟨_, h2, _⟩ := docE_zero ha
  obtain ⟨_, h4, _⟩ := docE_zero hb
  by_cases h1 : 1000 < (a ++ b).length
  · exact .inl (docE_many h1)
  · have e := linesE_append a b h2
    by_cases h3 : 262144 < (encD (a ++ b)).length
    · exact .inl (docE_long h1 (by rw [e]; exact h4) h3)
    · exact .inr (docE_ok h1 (by rw [e]; exact h4) h3)

/-! ### words back from their encoded form -/
/-- the value of an upper-case hexadecimal digit -/
def hexv (c : UInt8) : Option Nat := if 48 ≤ c.toNat ∧ c.toNat ≤ 57 then some (c.toNat - 48) else if 65 ≤ c.toNat ∧ c.toNat ≤ 70 then some (c.toNat - 55) else none
def unw : List UInt8 → Option (List UInt8)
  | [] => some []
  | c :: r => if plainU c then (unw r).map (c :: ·) else if c = 37 then
      match r with
      | x :: y :: t => match hexv x, hexv y with
        | some a, some b => if plainU (UInt8.ofNat (16 * a + b)) then none else (unw t).map (UInt8.ofNat (16 * a + b) :: ·)
        | _, _ => none
      | _ => none
    else none
def unwordS (l : List UInt8) : Option (List UInt8) := if l = [126] then some [] else if l = [] then none else unw l

theorem hexv_lt {c : UInt8} {n : Nat} (h : hexv c = some n) : n < 16 := by
  unfold hexv at h
  split at h
  · injection h with h; omega
  · split at h
    · injection h with h; omega
    · cases h
def hexdU : List UInt8 := [48, 49, 50, 51, 52, 53, 54, 55, 56, 57, 65, 66, 67, 68, 69, 70]
theorem indexByte_hex : ∀ n : Fin 256, Lib.indexByte hexdU (UInt8.ofNat n.val) = match hexv (UInt8.ofNat n.val) with | some k => (k : Int) | none => -1 := by decide +kernel
theorem indexByte_hexv (c : UInt8) : Lib.indexByte hexdU c = match hexv c with | some k => (k : Int) | none => -1 := by
  have h := indexByte_hex ⟨c.toNat, c.toNat_lt⟩
  simpa using h
theorem hexd_inv : ∀ n : Fin 16, hexv (hexd (UInt8.ofNat n.val)) = some n.val := by decide +kernel
theorem enc_pair (c : UInt8) : hexv (hexd (c >>> 4)) = some (c.toNat / 16) ∧ hexv (hexd (c &&& 15)) = some (c.toNat % 16) := by
  have hc := c.toNat_lt
  have e1 : c >>> 4 = UInt8.ofNat (c.toNat / 16) := by
    apply UInt8.toNat_inj.1
    rw [UInt8.toNat_shiftRight, Nat.shiftRight_eq_div_pow]
    simp
    omega
  have e2 : c &&& 15 = UInt8.ofNat (c.toNat % 16) := by
    apply UInt8.toNat_inj.1
    rw [UInt8.toNat_and, show (15 : UInt8).toNat = 2 ^ 4 - 1 from rfl, Nat.and_two_pow_sub_one_eq_mod]
    simp
    omega
  rw [e1, e2]
  exact ⟨hexd_inv ⟨c.toNat / 16, by omega⟩, hexd_inv ⟨c.toNat % 16, by omega⟩⟩
theorem unw_plain (c : UInt8) (r : List UInt8) (h : plainU c = true) : unw (c :: r) = (unw r).map (c :: ·) := by
  rw [unw.eq_def]
  simp only [h, if_true]
theorem unw_hex (x y : UInt8) (r : List UInt8) (a b : Nat) (hx : hexv x = some a) (hy : hexv y = some b) (hp : plainU (UInt8.ofNat (16 * a + b)) = false) :
    unw (37 :: x :: y :: r) = (unw r).map (UInt8.ofNat (16 * a + b) :: ·) := by
  rw [unw.eq_def]
  simp only [show plainU 37 = false from rfl, hx, hy, hp, Bool.false_eq_true, if_false, if_true]
theorem unw_odd (c : UInt8) (r : List UInt8) (h : plainU c = false) (h2 : c ≠ 37) : unw (c :: r) = none := by
  rw [unw.eq_def]
  simp only [h, h2, Bool.false_eq_true, if_false]
theorem unw_short (r : List UInt8) (h : r.length < 2) : unw (37 :: r) = none := by
  rw [unw.eq_def]
  match r, h with
  | [], _ => rfl
  | [x], _ => rfl
  | _ :: _ :: _, h => simp at h; omega
theorem unw_bad (x y : UInt8) (r : List UInt8) (h : hexv x = none ∨ hexv y = none) : unw (37 :: x :: y :: r) = none := by
  rw [unw.eq_def]
  simp only [show plainU 37 = false from rfl, Bool.false_eq_true, if_false, if_true]
  rcases h with h | h
  · rw [h]
  · rw [h]; cases hexv x <;> rfl
theorem unw_stands (x y : UInt8) (r : List UInt8) (a b : Nat) (hx : hexv x = some a) (hy : hexv y = some b) (hp : plainU (UInt8.ofNat (16 * a + b)) = true) : unw (37 :: x :: y :: r) = none := by
  rw [unw.eq_def]
  simp only [show plainU 37 = false from rfl, hx, hy, hp, Bool.false_eq_true, if_false, if_true]
/-- the value of a digit as Go has it: -1 for none -/
def hexI (c : UInt8) : Int := match hexv c with | some k => (k : Int) | none => -1
theorem hexI_some {c : UInt8} {k : Nat} (h : hexv c = some k) : hexI c = k := by unfold hexI; rw [h]
theorem hexI_none {c : UInt8} (h : hexv c = none) : hexI c = -1 := by unfold hexI; rw [h]
def hexJ (c : UInt8) : Int := match hexv c with | some k => (k : Int) | none => 16
theorem hexJ_some {c : UInt8} {k : Nat} (h : hexv c = some k) : hexJ c = k := by unfold hexJ; rw [h]
theorem hexJ_none {c : UInt8} (h : hexv c = none) : hexJ c = 16 := by unfold hexJ; rw [h]
theorem hexJ_dec {c : UInt8} (h : 48 ≤ c.toNat ∧ c.toNat ≤ 57) : hexJ c = (c.toNat : Int) - 48 := by
  unfold hexJ hexv; rw [if_pos h]; simp only []; omega
theorem hexJ_let {c : UInt8} (h : 65 ≤ c.toNat ∧ c.toNat ≤ 70) : hexJ c = (c.toNat : Int) - 55 := by
  unfold hexJ hexv; rw [if_neg (by omega), if_pos h]; simp only []; omega
theorem hexJ_no {c : UInt8} (h : ¬ (48 ≤ c.toNat ∧ c.toNat ≤ 57)) (h2 : ¬ (65 ≤ c.toNat ∧ c.toNat ≤ 70)) : hexJ c = 16 := by
  unfold hexJ hexv; rw [if_neg h, if_neg h2]
/-- an encoded word is decoded to the word -/
theorem unw_encW (l r : List UInt8) : unw (encW l ++ r) = (unw r).map (l ++ ·) := by
  induction l with
  | nil => simp [encW]
  | cons c t ih =>
    have e : encW (c :: t) = encB c ++ encW t := rfl
    rw [e, List.append_assoc]
    by_cases hp : plainU c
    · have e1 : encB c = [c] := by unfold encB; rw [if_pos hp]
      rw [e1]
      rw [List.cons_append, List.nil_append, unw_plain c _ hp, ih]
      cases unw r <;> rfl
    · have e1 : encB c = [37, hexd (c >>> 4), hexd (c &&& 15)] := by unfold encB; rw [if_neg hp]
      obtain ⟨h1, h2⟩ := enc_pair c
      have e3 : UInt8.ofNat (16 * (c.toNat / 16) + c.toNat % 16) = c := by
        rw [Nat.div_add_mod]; simp
      rw [e1]
      have h3 := unw_hex _ _ (encW t ++ r) _ _ h1 h2 (by rw [e3]; simpa using hp)
      rw [e3] at h3
      simp only [List.cons_append, List.nil_append]
      rw [h3, ih]
      cases unw r <;> rfl
theorem unw_encW' (l : List UInt8) : unw (encW l) = some l := by
  have := unw_encW l []
  simpa [unw] using this
theorem encW_nil {l : List UInt8} (h : encW l = []) : l = [] := by
  have := encW_ge l
  rw [h] at this
  exact List.eq_nil_of_length_eq_zero (by simpa using this)
theorem encB_not (c : UInt8) : 126 ∉ encB c := by
  unfold encB
  split
  · next h =>
    intro h2
    simp at h2
    subst h2
    exact absurd h (by decide)
  · intro h2
    have := enc_pair c
    simp at h2
    rcases h2 with h2 | h2
    · rw [← h2, show hexv 126 = none from rfl] at this; exact absurd this.1 (by simp)
    · rw [← h2, show hexv 126 = none from rfl] at this; exact absurd this.2 (by simp)
theorem encW_not (l : List UInt8) : 126 ∉ encW l := by
  unfold encW
  rw [List.mem_flatMap]
  rintro ⟨c, _, h⟩
  exact encB_not c h
theorem unwordS_wordS (l : List UInt8) : unwordS (wordS l) = some l := by
  unfold wordS unwordS
  by_cases h : l = []
  · subst h; rfl
  · rw [if_neg h]
    have h1 : encW l ≠ [126] := fun h1 => encW_not l (by rw [h1]; simp)
    have h2 : encW l ≠ [] := fun h2 => h (encW_nil h2)
    rw [if_neg h1, if_neg h2, unw_encW']
/-- the bytes of an encoded word -/
theorem hexd_range (c : UInt8) (h : c.toNat < 16) : 48 ≤ (hexd c).toNat ∧ (hexd c).toNat ≤ 70 := by
  have : ∀ n : Fin 16, 48 ≤ (hexd (UInt8.ofNat n.val)).toNat ∧ (hexd (UInt8.ofNat n.val)).toNat ≤ 70 := by decide +kernel
  have := this ⟨c.toNat, h⟩
  simpa using this
theorem encB_range (c : UInt8) : ∀ b ∈ encB c, 33 ≤ b.toNat ∧ b.toNat ≤ 126 := by
  unfold encB
  split
  · next h =>
    intro b hb
    simp at hb
    subst hb
    simp [plainU, plainB] at h
    omega
  · intro b hb
    have h1 := hexd_range (c >>> 4) (by rw [UInt8.toNat_shiftRight, Nat.shiftRight_eq_div_pow]; have := c.toNat_lt; simp; omega)
    have h2 := hexd_range (c &&& 15) (by rw [UInt8.toNat_and, show (15 : UInt8).toNat = 2 ^ 4 - 1 from rfl, Nat.and_two_pow_sub_one_eq_mod]; omega)
    simp at hb
    rcases hb with rfl | rfl | rfl
    · decide
    · omega
    · omega
theorem wordS_range (l : List UInt8) : ∀ b ∈ wordS l, 33 ≤ b.toNat ∧ b.toNat ≤ 126 := by
  unfold wordS
  split
  · simp
  · intro b hb
    obtain ⟨c, _, h⟩ := List.mem_flatMap.1 hb
    exact encB_range c b h
end Go.Adm
set_option linter.unusedSimpArgs false
set_option linter.unusedVariables false
namespace Go.Proofs.YtkcmaembpfakdaaGreatDoor
open Go Go.RowKit Go.Adm

theorem lenW_take_small {l : List ByteArray} (j : Nat) (hl : l.length ≤ 120) (h : ∀ i (hi : i < l.length), i < j → l[i].size ≤ 32768) : lenW (l.take j) ≤ 11796720 := by
  have := lenW_le (l := l.take j) fun w hw => by
    obtain ⟨i, hi, rfl⟩ := List.getElem_of_mem hw
    rw [List.length_take] at hi
    rw [List.getElem_take]
    exact h i (by omega) (by omega)
  have h5 := List.length_take_le' j l
  omega

set_option maxHeartbeats 2000000 in
theorem refEncode_any (w : World) (B : Nat) (A : Option Addr) (n c : Nat) (ls : List (List ByteArray)) (h : Lines w B A n ls) (hB : B ≤ w.heap.size) :
    Calls Tryz.prog 24 #[.slice A n c] w (EncPost 5 ls w) := by
  have hle := h.le
  have HL := Lib.hid h.len
  have H := Lib.hid h
  clear h
  by_cases h1 : 1000 < n
  · have hE : Hid (docE ls = 3) := Lib.hid (docE_many (by rw [HL.out]; exact h1))
    go_enter Tryz.func24, Tryz.ntmps24
    go_wp2
    go_ret2
    exact EncPost.no hE.out (by decide) (Below.refl _ _)
  · go_enter Tryz.func24, Tryz.ntmps24
    go_wp2
    go_loopw [4, 5, 6] (fun v i _ wr => ∃ k A' c', k ≤ n ∧ i = .int .i64 (k : Nat) ∧ v = .slice A' (encD (ls.take k)).length c' ∧ Own wr w.heap.size 5 1 A' (encD (ls.take k)).length c' ((encD (ls.take k)).map bv) ∧ Below w.heap.size w wr ∧ ∀ j (hj : j < ls.length), j < k → lineE ls[j] = 0) (fun _ i _ _ => n - (intOf i).toNat)
    case atStart => exact ⟨0, _, _, Nat.zero_le _, rfl, rfl, Own.nil _ _ _ _, Below.refl _ _, fun _ _ h => absurd h (by omega)⟩
    case round =>
      obtain ⟨k, A0, c0, hk, rfl, rfl, hown, hbel, hall⟩ := hrel
      have Hall := Lib.hid hall
      clear hall
      have hn1 : (encD (ls.take k)).length ≤ 11796720000 := by
        have h3 : linesE (ls.take k) = 0 := linesE_all fun j hj => by
          rw [List.length_take] at hj
          rw [List.getElem_take]
          exact Hall.out j (by omega) (by omega)
        have h4 := encD_le h3
        have h5 := List.length_take_le k ls
        omega
      by_cases hlt : k < n
      · have hkl : k < ls.length := by rw [HL.out]; exact hlt
        obtain ⟨ad, A', c', rfl, hadB, hcw, hcl, hcb, hS⟩ := H.out.at_ hkl
        have hc := (hbel.cell (p := ad.add k) (by rw [add_block]; omega)).trans hcw
        have HCW := Lib.hid hcw
        clear hcw
        have HS := Lib.hid hS
        have HM := Lib.hid (encD_succ ls k hkl)
        have HE : Hid (lineE ls[k] ≠ 0 → docE ls = lineE ls[k]) := Lib.hid fun he => by
          rw [docE_line (by rw [HL.out]; exact h1) (by rw [linesE_at hkl Hall.out he]; exact he), linesE_at hkl Hall.out he]
        clear hS
        generalize hl : ls[k] = l at *
        have Hl := Lib.hid hl
        clear hl
        by_cases hl0 : l.length = 0
        · have hx : ((l.length : Int) == 0) = true := by simp [hl0]
          have hLE : lineE l = 1 := by unfold lineE; rw [if_pos hl0]
          have hE : Hid (docE ls = 1) := Lib.hid (by rw [HE.out (by rw [hLE]; decide), hLE])
          clear hl0 hLE
          go_wp2
          go_ret2
          exact EncPost.no hE.out (by decide) hbel
        · have hx : ((l.length : Int) == 0) = false := by simp; exact fun h => hl0 (by rw [h]; rfl)
          by_cases hl1 : 120 < l.length
          · have hLE : lineE l = 3 := by unfold lineE; rw [if_neg hl0, if_pos hl1]
            have hE : Hid (docE ls = 3) := Lib.hid (by rw [HE.out (by rw [hLE]; decide), hLE])
            clear hl0 hLE
            go_wp2
            go_ret2
            exact EncPost.no hE.out (by decide) hbel
          · have HT : Hid (∀ j, (∀ i (hi : i < l.length), i < j → l[i].size ≤ 32768) → lenW (l.take j) ≤ 11796720) := Lib.hid fun j => lenW_take_small j (by omega)
            have HT0 := HT
            generalize hX : encD (ls.take k) = X at *
            go_wp2
            have HOWN := Lib.hid hown
            have HBEL := Lib.hid hbel
            clear hown hbel hc
            obtain ⟨wo, rfl⟩ : ∃ wo : World, wo = wr := ⟨_, rfl⟩
            go_loopw [4, 6] (fun v i wr => ∃ j A' c', j ≤ l.length ∧ i = .int .i64 (j : Nat) ∧ v = .slice A' (X ++ partL l j).length c' ∧ Own wr w.heap.size 5 1 A' (X ++ partL l j).length c' ((X ++ partL l j).map bv) ∧ Below w.heap.size w wr ∧ ∀ i (hi : i < l.length), i < j → l[i].size ≤ 32768) (fun _ i _ => l.length - (intOf i).toNat)
            case atStart => exact ⟨0, _, _, Nat.zero_le _, rfl, by rw [partL_zero, List.append_nil], by rw [partL_zero, List.append_nil]; exact HOWN.out, HBEL.out, fun _ _ h => absurd h (by omega)⟩
            case round =>
              obtain ⟨j, A1, c1, hj, rfl, rfl, hown, hbel, hwds⟩ := hrel
              have Hwds := Lib.hid hwds
              have HT : Hid (∀ i, i ≤ j → lenW (l.take i) ≤ 11796720) := Lib.hid fun i hi => HT0.out i fun q hq hq2 => Hwds.out q hq (by omega)
              clear hwds
              have hc := (hbel.cell (p := ad.add k) (by rw [add_block]; omega)).trans HCW.out
              by_cases hjt : j < l.length
              · obtain ⟨ad2, rfl, had2B, hc2w, _⟩ := HS.out.at_ hjt
                have hc2 := (hbel.cell (p := ad2.add j) (by rw [add_block]; omega)).trans hc2w
                have HC2W := Lib.hid hc2w
                clear hc2w
                by_cases hlong : 32768 < l[j].size
                · have hLE : lineE l = 3 := lineE_of_long hjt hlong (by omega)
                  have hE : Hid (docE ls = 3) := Lib.hid (by rw [HE.out (by rw [hLE]; decide), hLE])
                  clear hLE
                  go_wp2
                  go_ret2
                  exact EncPost.no hE.out (by decide) hbel
                · skip
                  have hw1 : l[j].size ≤ 32768 := by omega
                  have hp1 := partL_len l j
                  have hp2 := HT.out j (by omega)
                  have hw2 := wordS_len (bs l[j])
                  have hw3 := encW_len (bs l[j])
                  rw [bs_len] at hw3
                  have hxl : (X ++ partL l j).length ≤ 20000000000 := by rw [List.length_append]; omega
                  have hwl : (wordS (bs l[j])).length ≤ 100000 := by omega
                  clear hp1 hp2 hw2 hw3
                  have hsz := hbel.size
                  have hY1 : 0 < j → X ++ partL l (j + 1) = (X ++ partL l j) ++ 32 :: wordS (bs l[j]) := fun h0 => by rw [partL_succ l j h0 hjt, List.append_assoc]
                  have hY2 : ¬ 0 < j → X ++ partL l (j + 1) = (X ++ partL l j) ++ wordS (bs l[j]) := fun h0 => by
                    obtain rfl : j = 0 := by omega
                    rw [partL_one l hjt, partL_zero, List.append_nil]
                  generalize hY : X ++ partL l j = Y at *
                  clear hY
                  by_cases hj0 : 0 < j
                  · have HP := Lib.hid (hY1 hj0)
                    clear hY1 hY2
                    go_wp2_with (at_builtin; refine wl_app _ el_u8 rfl _ _ rfl w.heap.size _ _ _ _ rfl (hown.alloc _) (wr.heap.size + 1) _ 1 1 _ rfl (Rd.lit wr _ _ 1 rfl) (bv_one [32]) (by omega) (by simp; omega) ?_; intro A2 c2 w2 hown2 hbel2 _; have hbelA : Below w.heap.size w w2 := hbel.trans (((Below.refl _ _).alloc (by omega) _).trans hbel2); have hszA := hbelA.size; clear hbel2; have hcA := (hbelA.cell (p := ad.add k) (by rw [add_block]; omega)).trans HCW.out; have hc2A := (hbelA.cell (p := ad2.add j) (by rw [add_block]; omega)).trans HC2W.out)
                    refine (refWord_any _ _ (by omega)).mono ?_
                    rintro e w3 ⟨rfl, hb3⟩
                    have hown3 := hown2.kept hb3
                    have hbelB := hbelA.trans (hb3.mono hszA)
                    have hszB := hbelB.size
                    clear hb3 hown2
                    go_wp2_with (at_builtin; refine wl_app_str _ el_u8 Tryz.underlying9 rfl _ _ rfl w.heap.size _ _ _ _ rfl hown3 _ rfl (by rw [bsize]; omega) hszB ?_; intro A4 c4 w4 hown4 hbel4 _)
                    rw [bsize] at hown4
                    refine ⟨⟨j + 1, A4, c4, by omega, by go_num, ?_, ?_, hbelB.trans hbel4, fun i hi h3 => by
                      rcases Nat.lt_succ_iff_lt_or_eq.1 h3 with h4 | h4
                      · exact Hwds.out i hi h4
                      · subst h4; exact hw1⟩, by simp [intOf]; omega⟩
                    · rw [HP.out]; exact slice_len _ _ (by simp; omega)
                    · rw [HP.out]; exact hown4.cast (by simp; omega) (by simp [bv])
                  · have HP := Lib.hid (hY2 hj0)
                    clear hY1 hY2
                    go_wp2_with fail
                    refine (refWord_any _ _ (by omega)).mono ?_
                    rintro e w3 ⟨rfl, hb3⟩
                    have hown3 := hown.kept hb3
                    have hbelB := hbel.trans (hb3.mono hsz)
                    have hszB := hbelB.size
                    clear hb3 hown
                    go_wp2_with (at_builtin; refine wl_app_str _ el_u8 Tryz.underlying9 rfl _ _ rfl w.heap.size _ _ _ _ rfl hown3 _ rfl (by rw [bsize]; omega) hszB ?_; intro A4 c4 w4 hown4 hbel4 _)
                    rw [bsize] at hown4
                    refine ⟨⟨j + 1, A4, c4, by omega, by go_num, ?_, ?_, hbelB.trans hbel4, fun i hi h3 => by
                      rcases Nat.lt_succ_iff_lt_or_eq.1 h3 with h4 | h4
                      · exact Hwds.out i hi h4
                      · subst h4; exact hw1⟩, by simp [intOf]; omega⟩
                    · rw [HP.out]; exact slice_len _ _ (by simp)
                    · rw [HP.out]; exact hown4.cast (by simp) (by simp [bv])
              · have HX : Hid (lineE l = 0) := Lib.hid (lineE_of_ok (by omega) (by omega) fun i hi => Hwds.out i hi (by omega))
                have hp1 := partL_len l j
                have hp2 := HT.out j (by omega)
                have hxl : (X ++ partL l j).length ≤ 20000000000 := by rw [List.length_append]; omega
                clear hp1 hp2
                have hsz := hbel.size
                have hP : encD (ls.take (k + 1)) = (X ++ partL l j) ++ [10] := by rw [HM.out, List.append_assoc, partL_all l j (by omega)]
                have HP := Lib.hid hP
                clear hP
                generalize hY : X ++ partL l j = Y at *
                clear hY
                go_wp2_with (at_builtin; refine wl_app _ el_u8 rfl _ _ rfl w.heap.size _ _ _ _ rfl (hown.alloc _) (wr.heap.size + 1) _ 1 1 _ rfl (Rd.lit wr _ _ 1 rfl) (bv_one [10]) (by omega) (by simp; omega) ?_; intro A2 c2 w2 hown2 hbel2 _)
                refine ⟨⟨k + 1, A2, c2, by omega, by go_num, ?_, ?_, hbel.trans (((Below.refl _ _).alloc (by omega) _).trans hbel2), fun i hi h3 => by
                  rcases Nat.lt_succ_iff_lt_or_eq.1 h3 with h4 | h4
                  · exact Hall.out i hi h4
                  · subst h4; rw [Hl.out]; exact HX.out⟩, by simp [intOf]; omega⟩
                · rw [HP.out]; exact slice_len _ _ (by simp)
                · rw [HP.out]; exact hown2.cast (by simp) (by simp [bv])
      · have ht : ls.take k = ls := List.take_of_length_le (by rw [HL.out]; omega)
        rw [ht] at hown hn1 ⊢
        have hE0 : linesE ls = 0 := linesE_all fun j hj => Hall.out j hj (by rw [HL.out] at hj; omega)
        by_cases hbig : 262144 < (encD ls).length
        · have hE : Hid (docE ls = 3) := Lib.hid (docE_long (by rw [HL.out]; exact h1) hE0 hbig)
          clear ht hE0
          go_wp2
          go_ret2
          exact EncPost.no hE.out (by decide) hbel
        · have hE : Hid (docE ls = 0) := Lib.hid (docE_ok (by rw [HL.out]; exact h1) hE0 hbig)
          clear ht hE0
          go_wp2
          go_ret2
          exact EncPost.yes hE.out hbel hown
end Go.Proofs.YtkcmaembpfakdaaGreatDoor
set_option linter.unusedSimpArgs false
set_option linter.unusedVariables false
set_option maxRecDepth 100000
namespace Go.Proofs.YtkcmaembpfakdaaGreatDoor
open Go Go.RowKit Go.Adm Go.Lib
theorem dec_short (u : Nat) : (Lib.decDigits u).length ≤ u / 10 + 1 := by
  induction u using Nat.strongRecOn with
  | _ u ih =>
    by_cases h : u < 10
    · rw [Lib.decDigits, dif_pos h]; simp
    · rw [Lib.decDigits, dif_neg h, List.length_append, List.length_singleton]
      have := ih (u / 10) (by omega)
      omega
/-- the loop of the reference: what it lays from behind -/
theorem refNumber_pos (u0 : Nat) (hu : 0 < u0) : Lib.decDigits u0 = todo u0 ++ [] := by
  unfold todo; rw [if_neg (by omega), List.append_nil]

set_option maxHeartbeats 3200000 in
theorem refNumber_any (n : Int) (h0 : -9223372036854775808 ≤ n) (h1 : n ≤ 9223372036854775807) (w : World) :
    Calls Tryz.prog 22 #[.int .i64 n] w fun e w' => e = .returned (.string ⟨(Lib.itoa n).toArray⟩) ∧ Below w.heap.size w w' := by
  by_cases hz : n = 0
  · subst hz
    go_enter Tryz.func22, Tryz.ntmps22
    go_wp2
    go_ret
    exact ⟨ret_str (by decide +kernel), Below.refl _ _⟩
  · have d0 : (n == 0) = false := by simpa using hz
    cases dneg : decide (n < 0) with
    | true =>
      have hn := of_decide_eq_true dneg
      obtain ⟨u0, hu0⟩ : ∃ u : Nat, n = -(u : Int) := ⟨n.natAbs, by omega⟩
      have hres := Lib.hid (show Lib.itoa n = 45 :: Lib.decDigits u0 by unfold Lib.itoa; rw [if_pos hn, show n.natAbs = u0 from by omega])
      have q1 : IntKind.u64.wrap n = n + 18446744073709551616 := by simp [IntKind.wrap, IntKind.signed, IntKind.bits]; omega
      have q2 : IntKind.u64.wrap (-(n + 18446744073709551616)) = (u0 : Int) := by simp [IntKind.wrap, IntKind.signed, IntKind.bits]; omega
      have hpos := Lib.hid (refNumber_pos u0 (by omega))
      have hlt : u0 < 18446744073709551616 := by omega
      have hpre := Lib.hid (show (⟨#[45]⟩ : ByteArray).data.toList ++ Lib.decDigits u0 = Lib.itoa n by rw [hres.out]; rfl)
      clear hu0 hn hres
      go_enter Tryz.func22, Tryz.ntmps22
      go_wp2
      go_loopw [4, 5] (fun u s wr => ∃ (v : Nat) (a : ByteArray), u = .int .u64 v ∧ s = .string a ∧ v < 18446744073709551616 ∧ Hid (todo v ++ a.data.toList = Lib.decDigits u0) ∧ Below w.heap.size w wr) (fun u _ _ => (intOf u).toNat)
      case atStart => exact ⟨u0, ⟨#[]⟩, rfl, rfl, hlt, Lib.hid hpos.out.symm, Below.refl _ _⟩
      case round =>
        obtain ⟨v, a, rfl, rfl, hv, HA, hb⟩ := hrel
        have hsb := hb.size
        have hsz : a.size ≤ 1844674407370955162 := by
          have e1 := congrArg List.length HA.out
          have e2 := dec_short u0
          have e3 : a.data.toList.length = a.size := Array.length_toList
          rw [List.length_append, e3] at e1
          omega
        by_cases hp : 0 < v
        · have d1 : decide (0 < v) = true := by simp; omega
          obtain ⟨x, hx⟩ : ∃ x : UInt8, x = UInt8.ofNat (48 + v % 10) := ⟨_, rfl⟩
          have hxn : x.toNat = 48 + v % 10 := by rw [hx, UInt8.toNat_ofNat']; omega
          have HS := Lib.hid (todo_step v hp a.data.toList)
          rw [← hx] at HS
          clear hx
          have hxi : 48 + (v : Int) % 10 = (x.toNat : Int) := by omega
          have hconv : (convert 36 9 (.slice (some ⟨wr.heap.size, 0, none⟩) 1 1)).run Tryz.prog (wr.alloc (.cells #[.int .u8 (48 + (v : Int) % 10)] 5)) = .ok (.string ⟨#[x]⟩) (wr.alloc (.cells #[.int .u8 (48 + (v : Int) % 10)] 5)) := by
            rw [hxi]
            exact run_conv (P := Tryz.prog) (l := [x]) _ 36 9 5 el_u8.ht Tryz.underlying5 Tryz.underlying9 (Rd.lit wr #[.int .u8 (x.toNat : Int)] 5 1 rfl)
          clear hp hxi
          go_wp2
          refine ⟨⟨v / 10, ⟨#[x]⟩ ++ a, rfl, rfl, by omega, Lib.hid ?_, hb.alloc (by omega) _⟩, by have := of_decide_eq_true d1; simp [intOf]; omega⟩
          rw [← HA.out, ← HS.out, ByteArray.data_append, Array.toList_append]
          rfl
        · obtain rfl : v = 0 := by omega
          have d1 : decide (0 < (0 : Nat)) = false := by simp
          go_wp2
          go_ret
          refine ⟨?_, hb⟩
          rw [← hpre.out, ← HA.out]
          apply congrArg (fun s => Ending.returned (Value.string s))
          apply ByteArray.ext
          apply Array.ext'
          simp [ByteArray.data_append, todo]
    | false =>
      have hn := of_decide_eq_false dneg
      obtain ⟨u0, hu0⟩ : ∃ u : Nat, n = (u : Int) := ⟨n.toNat, by omega⟩
      subst hu0
      have hres := Lib.hid (show Lib.itoa (u0 : Int) = Lib.decDigits u0 by unfold Lib.itoa; rw [if_neg hn, Int.toNat_natCast])
      have q1 : IntKind.u64.wrap (u0 : Int) = (u0 : Int) := IntWalk.u64_in _ (by omega)
      have hpos := Lib.hid (refNumber_pos u0 (by omega))
      have hlt : u0 < 18446744073709551616 := by omega
      have hpre := Lib.hid (show (⟨#[]⟩ : ByteArray).data.toList ++ Lib.decDigits u0 = Lib.itoa (u0 : Int) by rw [hres.out]; rfl)
      clear hn hres
      go_enter Tryz.func22, Tryz.ntmps22
      go_wp2
      go_loopw [4, 5] (fun u s wr => ∃ (v : Nat) (a : ByteArray), u = .int .u64 v ∧ s = .string a ∧ v < 18446744073709551616 ∧ Hid (todo v ++ a.data.toList = Lib.decDigits u0) ∧ Below w.heap.size w wr) (fun u _ _ => (intOf u).toNat)
      case atStart => exact ⟨u0, ⟨#[]⟩, rfl, rfl, hlt, Lib.hid hpos.out.symm, Below.refl _ _⟩
      case round =>
        obtain ⟨v, a, rfl, rfl, hv, HA, hb⟩ := hrel
        have hsb := hb.size
        have hsz : a.size ≤ 1844674407370955162 := by
          have e1 := congrArg List.length HA.out
          have e2 := dec_short u0
          have e3 : a.data.toList.length = a.size := Array.length_toList
          rw [List.length_append, e3] at e1
          omega
        by_cases hp : 0 < v
        · have d1 : decide (0 < v) = true := by simp; omega
          obtain ⟨x, hx⟩ : ∃ x : UInt8, x = UInt8.ofNat (48 + v % 10) := ⟨_, rfl⟩
          have hxn : x.toNat = 48 + v % 10 := by rw [hx, UInt8.toNat_ofNat']; omega
          have HS := Lib.hid (todo_step v hp a.data.toList)
          rw [← hx] at HS
          clear hx
          have hxi : 48 + (v : Int) % 10 = (x.toNat : Int) := by omega
          have hconv : (convert 36 9 (.slice (some ⟨wr.heap.size, 0, none⟩) 1 1)).run Tryz.prog (wr.alloc (.cells #[.int .u8 (48 + (v : Int) % 10)] 5)) = .ok (.string ⟨#[x]⟩) (wr.alloc (.cells #[.int .u8 (48 + (v : Int) % 10)] 5)) := by
            rw [hxi]
            exact run_conv (P := Tryz.prog) (l := [x]) _ 36 9 5 el_u8.ht Tryz.underlying5 Tryz.underlying9 (Rd.lit wr #[.int .u8 (x.toNat : Int)] 5 1 rfl)
          clear hp hxi
          go_wp2
          refine ⟨⟨v / 10, ⟨#[x]⟩ ++ a, rfl, rfl, by omega, Lib.hid ?_, hb.alloc (by omega) _⟩, by have := of_decide_eq_true d1; simp [intOf]; omega⟩
          rw [← HA.out, ← HS.out, ByteArray.data_append, Array.toList_append]
          rfl
        · obtain rfl : v = 0 := by omega
          have d1 : decide (0 < (0 : Nat)) = false := by simp
          go_wp2
          go_ret
          refine ⟨?_, hb⟩
          rw [← hpre.out, ← HA.out]
          apply congrArg (fun s => Ending.returned (Value.string s))
          apply ByteArray.ext
          apply Array.ext'
          simp [ByteArray.data_append, todo]
end Go.Proofs.YtkcmaembpfakdaaGreatDoor

/- Documents in two parts; decoding of words. -/
import Derived.Test.YtkcmaembpfakdaaDoorDocSpec3
import Derived.Lib.Bytealg
set_option linter.unusedSimpArgs false
set_option linter.unusedVariables false
namespace Go.Adm
open Go Go.RowKit

/-! ### two documents, one behind the other -/
theorem linesE_append_left {a b : List (List ByteArray)} (h : linesE a ≠ 0) : linesE (a ++ b) = linesE a := by
  induction a with
  | nil => exact absurd rfl h
  | cons l r ih =>
    by_cases hl : lineE l = 0
    · have e1 : linesE (l :: r) = linesE r := by simp [linesE, hl]
      rw [e1] at h ⊢
      rw [← ih h]
      simp [linesE, hl]
    · simp [linesE, hl]
theorem docE_app_left {a b : List (List ByteArray)} (h : docE a ≠ 0) : docE (a ++ b) ≠ 0 := by
  by_cases h1 : 1000 < (a ++ b).length
  · rw [docE_many h1]; decide
  · have h1a : ¬ 1000 < a.length := by simp at h1; omega
    by_cases h2 : linesE a = 0
    · have h3 : 262144 < (encD a).length := by
        rcases Nat.lt_or_ge 262144 (encD a).length with h4 | h4
        · exact h4
        · exact absurd (docE_ok h1a h2 (by omega)) h
      by_cases h5 : linesE (a ++ b) = 0
      · rw [docE_long h1 h5 (by rw [encD_append, List.length_append]; omega)]; decide
      · rw [docE_line h1 h5]; exact h5
    · rw [docE_line h1 (by rw [linesE_append_left h2]; exact h2), linesE_append_left h2]; exact h2
theorem docE_app_right {a b : List (List ByteArray)} (ha : docE a = 0) (h : docE b ≠ 0) : docE (a ++ b) ≠ 0 := by
  by_cases h1 : 1000 < (a ++ b).length
  · rw [docE_many h1]; decide
  · have h1b : ¬ 1000 < b.length := by simp at h1; omega
    have h1a : ¬ 1000 < a.length := by simp at h1; omega
    have h2a : linesE a = 0 := by
      rcases Decidable.em (linesE a = 0) with h2 | h2
      · exact h2
      · rw [docE_line h1a h2] at ha; exact ha
    have e := linesE_append a b h2a
    by_cases h2 : linesE b = 0
    · have h3 : 262144 < (encD b).length := by
        rcases Nat.lt_or_ge 262144 (encD b).length with h4 | h4
        · exact h4
        · exact absurd (docE_ok h1b h2 (by omega)) h
      rw [docE_long h1 (by rw [e]; exact h2) (by rw [encD_append, List.length_append]; omega)]; decide
    · rw [docE_line h1 (by rw [e]; exact h2), e]; exact h2
theorem docE_zero {a : List (List ByteArray)} (h : docE a = 0) : ¬ 1000 < a.length ∧ linesE a = 0 ∧ ¬ 262144 < (encD a).length := by
  have h1 : ¬ 1000 < a.length := fun h1 => by rw [docE_many h1] at h; cases h
  have h2 : linesE a = 0 := by
    rcases Decidable.em (linesE a = 0) with h2 | h2
    · exact h2
    · rw [docE_line h1 h2] at h; exact h
  exact ⟨h1, h2, fun h3 => by rw [docE_long h1 h2 h3] at h; cases h⟩
theorem docE_app_both {a b : List (List ByteArray)} (ha : docE a = 0) (hb : docE b = 0) : docE (a ++ b) = 3 ∨ docE (a ++ b) = 0 := by
  obtain ⟨_, h2, _⟩ := docE_zero ha
  obtain ⟨_, h4, _⟩ := docE_zero hb
  by_cases h1 : 1000 < (a ++ b).length
  · exact .inl (docE_many h1)
  · have e := linesE_append a b h2
    by_cases h3 : 262144 < (encD (a ++ b)).length
    · exact .inl (docE_long h1 (by rw [e]; exact h4) h3)
    · exact .inr (docE_ok h1 (by rw [e]; exact h4) h3)

/-! ### words back from their encoded form -/
/-- the value of an upper-case hexadecimal digit -/
def hexv (c : UInt8) : Option Nat := if 48 ≤ c.toNat ∧ c.toNat ≤ 57 then some (c.toNat - 48) else if 65 ≤ c.toNat ∧ c.toNat ≤ 70 then some (c.toNat - 55) else none
def unw : List UInt8 → Option (List UInt8)
  | [] => some []
  | c :: r => if plainU c then (unw r).map (c :: ·) else if c = 37 then
      match r with
      | x :: y :: t => match hexv x, hexv y with
        | some a, some b => if plainU (UInt8.ofNat (16 * a + b)) then none else (unw t).map (UInt8.ofNat (16 * a + b) :: ·)
        | _, _ => none
      | _ => none
    else none
def unwordS (l : List UInt8) : Option (List UInt8) := if l = [126] then some [] else if l = [] then none else unw l

theorem hexv_lt {c : UInt8} {n : Nat} (h : hexv c = some n) : n < 16 := by
  unfold hexv at h
  split at h
  · injection h with h; omega
  · split at h
    · injection h with h; omega
    · cases h
def hexdU : List UInt8 := [48, 49, 50, 51, 52, 53, 54, 55, 56, 57, 65, 66, 67, 68, 69, 70]
theorem indexByte_hex : ∀ n : Fin 256, Lib.indexByte hexdU (UInt8.ofNat n.val) = match hexv (UInt8.ofNat n.val) with | some k => (k : Int) | none => -1 := by decide +kernel
theorem indexByte_hexv (c : UInt8) : Lib.indexByte hexdU c = match hexv c with | some k => (k : Int) | none => -1 := by
  have h := indexByte_hex ⟨c.toNat, c.toNat_lt⟩
  simpa using h
theorem hexd_inv : ∀ n : Fin 16, hexv (hexd (UInt8.ofNat n.val)) = some n.val := by decide +kernel
theorem enc_pair (c : UInt8) : hexv (hexd (c >>> 4)) = some (c.toNat / 16) ∧ hexv (hexd (c &&& 15)) = some (c.toNat % 16) := by
  have hc := c.toNat_lt
  have e1 : c >>> 4 = UInt8.ofNat (c.toNat / 16) := by
    apply UInt8.toNat_inj.1
    rw [UInt8.toNat_shiftRight, Nat.shiftRight_eq_div_pow]
    simp
    omega
  have e2 : c &&& 15 = UInt8.ofNat (c.toNat % 16) := by
    apply UInt8.toNat_inj.1
    rw [UInt8.toNat_and, show (15 : UInt8).toNat = 2 ^ 4 - 1 from rfl, Nat.and_two_pow_sub_one_eq_mod]
    simp
    omega
  rw [e1, e2]
  exact ⟨hexd_inv ⟨c.toNat / 16, by omega⟩, hexd_inv ⟨c.toNat % 16, by omega⟩⟩
theorem unw_plain (c : UInt8) (r : List UInt8) (h : plainU c = true) : unw (c :: r) = (unw r).map (c :: ·) := by
  rw [unw.eq_def]
  simp only [h, if_true]
theorem unw_hex (x y : UInt8) (r : List UInt8) (a b : Nat) (hx : hexv x = some a) (hy : hexv y = some b) (hp : plainU (UInt8.ofNat (16 * a + b)) = false) :
    unw (37 :: x :: y :: r) = (unw r).map (UInt8.ofNat (16 * a + b) :: ·) := by
  rw [unw.eq_def]
  simp only [show plainU 37 = false from rfl, hx, hy, hp, Bool.false_eq_true, if_false, if_true]
theorem unw_odd (c : UInt8) (r : List UInt8) (h : plainU c = false) (h2 : c ≠ 37) : unw (c :: r) = none := by
  rw [unw.eq_def]
  simp only [h, h2, Bool.false_eq_true, if_false]
theorem unw_short (r : List UInt8) (h : r.length < 2) : unw (37 :: r) = none := by
  rw [unw.eq_def]
  match r, h with
  | [], _ => rfl
  | [x], _ => rfl
  | _ :: _ :: _, h => simp at h; omega
theorem unw_bad (x y : UInt8) (r : List UInt8) (h : hexv x = none ∨ hexv y = none) : unw (37 :: x :: y :: r) = none := by
  rw [unw.eq_def]
  simp only [show plainU 37 = false from rfl, Bool.false_eq_true, if_false, if_true]
  rcases h with h | h
  · rw [h]
  · rw [h]; cases hexv x <;> rfl
theorem unw_stands (x y : UInt8) (r : List UInt8) (a b : Nat) (hx : hexv x = some a) (hy : hexv y = some b) (hp : plainU (UInt8.ofNat (16 * a + b)) = true) : unw (37 :: x :: y :: r) = none := by
  rw [unw.eq_def]
  simp only [show plainU 37 = false from rfl, hx, hy, hp, Bool.false_eq_true, if_false, if_true]
/-- the value of a digit as Go has it: -1 for none -/
def hexI (c : UInt8) : Int := match hexv c with | some k => (k : Int) | none => -1
theorem hexI_some {c : UInt8} {k : Nat} (h : hexv c = some k) : hexI c = k := by unfold hexI; rw [h]
theorem hexI_none {c : UInt8} (h : hexv c = none) : hexI c = -1 := by unfold hexI; rw [h]
def hexJ (c : UInt8) : Int := match hexv c with | some k => (k : Int) | none => 16
theorem hexJ_some {c : UInt8} {k : Nat} (h : hexv c = some k) : hexJ c = k := by unfold hexJ; rw [h]
theorem hexJ_none {c : UInt8} (h : hexv c = none) : hexJ c = 16 := by unfold hexJ; rw [h]
theorem hexJ_dec {c : UInt8} (h : 48 ≤ c.toNat ∧ c.toNat ≤ 57) : hexJ c = (c.toNat : Int) - 48 := by
  unfold hexJ hexv; rw [if_pos h]; simp only []; omega
theorem hexJ_let {c : UInt8} (h : 65 ≤ c.toNat ∧ c.toNat ≤ 70) : hexJ c = (c.toNat : Int) - 55 := by
  unfold hexJ hexv; rw [if_neg (by omega), if_pos h]; simp only []; omega
theorem hexJ_no {c : UInt8} (h : ¬ (48 ≤ c.toNat ∧ c.toNat ≤ 57)) (h2 : ¬ (65 ≤ c.toNat ∧ c.toNat ≤ 70)) : hexJ c = 16 := by
  unfold hexJ hexv; rw [if_neg h, if_neg h2]
/-- an encoded word is decoded to the word -/
theorem unw_encW (l r : List UInt8) : unw (encW l ++ r) = (unw r).map (l ++ ·) := by
  induction l with
  | nil => simp [encW]
  | cons c t ih =>
    have e : encW (c :: t) = encB c ++ encW t := rfl
    rw [e, List.append_assoc]
    by_cases hp : plainU c
    · have e1 : encB c = [c] := by unfold encB; rw [if_pos hp]
      rw [e1]
      rw [List.cons_append, List.nil_append, unw_plain c _ hp, ih]
      cases unw r <;> rfl
    · have e1 : encB c = [37, hexd (c >>> 4), hexd (c &&& 15)] := by unfold encB; rw [if_neg hp]
      obtain ⟨h1, h2⟩ := enc_pair c
      have e3 : UInt8.ofNat (16 * (c.toNat / 16) + c.toNat % 16) = c := by
        rw [Nat.div_add_mod]; simp
      rw [e1]
      have h3 := unw_hex _ _ (encW t ++ r) _ _ h1 h2 (by rw [e3]; simpa using hp)
      rw [e3] at h3
      simp only [List.cons_append, List.nil_append]
      rw [h3, ih]
      cases unw r <;> rfl
theorem unw_encW' (l : List UInt8) : unw (encW l) = some l := by
  have := unw_encW l []
  simpa [unw] using this
theorem encW_nil {l : List UInt8} (h : encW l = []) : l = [] := by
  have := encW_ge l
  rw [h] at this
  exact List.eq_nil_of_length_eq_zero (by simpa using this)
theorem encB_not (c : UInt8) : 126 ∉ encB c := by
  unfold encB
  split
  · next h =>
    intro h2
    simp at h2
    subst h2
    exact absurd h (by decide)
  · intro h2
    have := enc_pair c
    simp at h2
    rcases h2 with h2 | h2
    · rw [← h2, show hexv 126 = none from rfl] at this; exact absurd this.1 (by simp)
    · rw [← h2, show hexv 126 = none from rfl] at this; exact absurd this.2 (by simp)
theorem encW_not (l : List UInt8) : 126 ∉ encW l := by
  unfold encW
  rw [List.mem_flatMap]
  rintro ⟨c, _, h⟩
  exact encB_not c h
theorem unwordS_wordS (l : List UInt8) : unwordS (wordS l) = some l := by
  unfold wordS unwordS
  by_cases h : l = []
  · subst h; rfl
  · rw [if_neg h]
    have h1 : encW l ≠ [126] := fun h1 => encW_not l (by rw [h1]; simp)
    have h2 : encW l ≠ [] := fun h2 => h (encW_nil h2)
    rw [if_neg h1, if_neg h2, unw_encW']
/-- the bytes of an encoded word -/
theorem hexd_range (c : UInt8) (h : c.toNat < 16) : 48 ≤ (hexd c).toNat ∧ (hexd c).toNat ≤ 70 := by
  have : ∀ n : Fin 16, 48 ≤ (hexd (UInt8.ofNat n.val)).toNat ∧ (hexd (UInt8.ofNat n.val)).toNat ≤ 70 := by decide +kernel
  have := this ⟨c.toNat, h⟩
  simpa using this
theorem encB_range (c : UInt8) : ∀ b ∈ encB c, 33 ≤ b.toNat ∧ b.toNat ≤ 126 := by
  unfold encB
  split
  · next h =>
    intro b hb
    simp at hb
    subst hb
    simp [plainU, plainB] at h
    omega
  · intro b hb
    have h1 := hexd_range (c >>> 4) (by rw [UInt8.toNat_shiftRight, Nat.shiftRight_eq_div_pow]; have := c.toNat_lt; simp; omega)
    have h2 := hexd_range (c &&& 15) (by rw [UInt8.toNat_and, show (15 : UInt8).toNat = 2 ^ 4 - 1 from rfl, Nat.and_two_pow_sub_one_eq_mod]; omega)
    simp at hb
    rcases hb with rfl | rfl | rfl
    · decide
    · omega
    · omega
theorem wordS_range (l : List UInt8) : ∀ b ∈ wordS l, 33 ≤ b.toNat ∧ b.toNat ≤ 126 := by
  unfold wordS
  split
  · simp
  · intro b hb
    obtain ⟨c, _, h⟩ := List.mem_flatMap.1 hb
    exact encB_range c b h
end Go.Adm

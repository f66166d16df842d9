/- Documents in two parts; decoding of words. Documents decoded, in plain Lean: words and lines found again; what is decoded is the encoded form. -/
import Derived.Test.YtjdinakdkdjocaaGreatDoorDocA
import Derived.Lib.Bytealg
set_option linter.unusedSimpArgs false
set_option linter.unusedVariables false
namespace Go.Adm
open Go Go.RowKit

/-! ### two documents, one behind the other -/
theorem linesE_append_left {a b : List (List ByteArray)} (h : linesE a ≠ 0) : linesE (a ++ b) = linesE a := by
  induction a with
  | nil => exact absurd rfl h
  | cons l r ih =>
    by_cases hl : lineE l = 0
    · have e1 : linesE (l :: r) = linesE r := by simp [linesE, hl]
      rw [e1] at h ⊢
      rw [← ih h]
      simp [linesE, hl]
    · simp [linesE, hl]
theorem docE_app_left {a b : List (List ByteArray)} (h : docE a ≠ 0) : docE (a ++ b) ≠ 0 := by
  by_cases h1 : 1000 < (a ++ b).length
  · rw [docE_many h1]; decide
  · have h1a : ¬ 1000 < a.length := by simp at h1; omega
    by_cases h2 : linesE a = 0
    · have h3 : 262144 < (encD a).length := by
        rcases Nat.lt_or_ge 262144 (encD a).length with h4 | h4
        · exact h4
        · exact absurd (docE_ok h1a h2 (by omega)) h
      by_cases h5 : linesE (a ++ b) = 0
      · rw [docE_long h1 h5 (by rw [encD_append, List.length_append]; omega)]; decide
      · rw [docE_line h1 h5]; exact h5
    · rw [docE_line h1 (by rw [linesE_append_left h2]; exact h2), linesE_append_left h2]; exact h2
theorem docE_app_right {a b : List (List ByteArray)} (ha : docE a = 0) (h : docE b ≠ 0) : docE (a ++ b) ≠ 0 := by
  by_cases h1 : 1000 < (a ++ b).length
  · rw [docE_many h1]; decide
  · have h1b : ¬ 1000 < b.length := by simp at h1; omega
    have h1a : ¬ 1000 < a.length := by simp at h1; omega
    have h2a : linesE a = 0 := by
      rcases Decidable.em (linesE a = 0) with h2 | h2
      · exact h2
      · rw [docE_line h1a h2] at ha; exact ha
    have e := linesE_append a b h2a
    by_cases h2 : linesE b = 0
    · have h3 : 262144 < (encD b).length := by
        rcases Nat.lt_or_ge 262144 (encD b).length with h4 | h4
        · exact h4
        · exact absurd (docE_ok h1b h2 (by omega)) h
      rw [docE_long h1 (by rw [e]; exact h2) (by rw [encD_append, List.length_append]; omega)]; decide
    · rw [docE_line h1 (by rw [e]; exact h2), e]; exact h2
theorem docE_zero {a : List (List ByteArray)} (h : docE a = 0) : ¬ 1000 < a.length ∧ linesE a = 0 ∧ ¬ 262144 < (encD a).length := by
  have h1 : ¬ 1000 < a.length := fun h1 => by rw [docE_many h1] at h; cases h
  have h2 : linesE a = 0 := by
    rcases Decidable.em (linesE a = 0) with h2 | h2
    · exact h2
    · rw [docE_line h1 h2] at h; exact h
  exact ⟨h1, h2, fun h3 => by rw [docE_long h1 h2 h3] at h; cases h⟩
theorem docE_app_both {a b : List (List ByteArray)} (ha : docE a = 0) (hb : docE b = 0) : docE (a ++ b) = 3 ∨ docE (a ++ b) = 0 := by
  obtain ⟨_, h2, _⟩ := docE_zero ha
  obtain ⟨_, h4, _⟩ := docE_zero hb
  by_cases h1 : 1000 < (a ++ b).length
  · exact .inl (docE_many h1)
  · have e := linesE_append a b h2
    by_cases h3 : 262144 < (encD (a ++ b)).length
    · exact .inl (docE_long h1 (by rw [e]; exact h4) h3)
    · exact .inr (docE_ok h1 (by rw [e]; exact h4) h3)

/-! ### words back from their encoded form -/
/-- the value of an upper-case hexadecimal digit -/
def hexv (c : UInt8) : Option Nat := if 48 ≤ c.toNat ∧ c.toNat ≤ 57 then some (c.toNat - 48) else if 65 ≤ c.toNat ∧ c.toNat ≤ 70 then some (c.toNat - 55) else none
def unw : List UInt8 → Option (List UInt8)
  | [] => some []
  | c :: r => if plainU c then (unw r).map (c :: ·) else if c = 37 then
      match r with
      | x :: y :: t => match hexv x, hexv y with
        | some a, some b => if plainU (UInt8.ofNat (16 * a + b)) then none else (unw t).map (UInt8.ofNat (16 * a + b) :: ·)
        | _, _ => none
      | _ => none
    else none
def unwordS (l : List UInt8) : Option (List UInt8) := if l = [126] then some [] else if l = [] then none else unw l

theorem hexv_lt {c : UInt8} {n : Nat} (h : hexv c = some n) : n < 16 := by
  unfold hexv at h
  split at h
  · injection h with h; omega
  · split at h
    · injection h with h; omega
    · cases h
def hexdU : List UInt8 := [48, 49, 50, 51, 52, 53, 54, 55, 56, 57, 65, 66, 67, 68, 69, 70]
theorem indexByte_hex : ∀ n : Fin 256, Lib.indexByte hexdU (UInt8.ofNat n.val) = match hexv (UInt8.ofNat n.val) with | some k => (k : Int) | none => -1 := by decide +kernel
theorem indexByte_hexv (c : UInt8) : Lib.indexByte hexdU c = match hexv c with | some k => (k : Int) | none => -1 := by
  have h := indexByte_hex ⟨c.toNat, c.toNat_lt⟩
  simpa using h
theorem hexd_inv : ∀ n : Fin 16, hexv (hexd (UInt8.ofNat n.val)) = some n.val := by decide +kernel
theorem enc_pair (c : UInt8) : hexv (hexd (c >>> 4)) = some (c.toNat / 16) ∧ hexv (hexd (c &&& 15)) = some (c.toNat % 16) := by
  have hc := c.toNat_lt
  have e1 : c >>> 4 = UInt8.ofNat (c.toNat / 16) := by
    apply UInt8.toNat_inj.1
    rw [UInt8.toNat_shiftRight, Nat.shiftRight_eq_div_pow]
    simp
    omega
  have e2 : c &&& 15 = UInt8.ofNat (c.toNat % 16) := by
    apply UInt8.toNat_inj.1
    rw [UInt8.toNat_and, show (15 : UInt8).toNat = 2 ^ 4 - 1 from rfl, Nat.and_two_pow_sub_one_eq_mod]
    simp
    omega
  rw [e1, e2]
  exact ⟨hexd_inv ⟨c.toNat / 16, by omega⟩, hexd_inv ⟨c.toNat % 16, by omega⟩⟩
theorem unw_plain (c : UInt8) (r : List UInt8) (h : plainU c = true) : unw (c :: r) = (unw r).map (c :: ·) := by
  rw [unw.eq_def]
  simp only [h, if_true]
theorem unw_hex (x y : UInt8) (r : List UInt8) (a b : Nat) (hx : hexv x = some a) (hy : hexv y = some b) (hp : plainU (UInt8.ofNat (16 * a + b)) = false) :
    unw (37 :: x :: y :: r) = (unw r).map (UInt8.ofNat (16 * a + b) :: ·) := by
  rw [unw.eq_def]
  simp only [show plainU 37 = false from rfl, hx, hy, hp, Bool.false_eq_true, if_false, if_true]
theorem unw_odd (c : UInt8) (r : List UInt8) (h : plainU c = false) (h2 : c ≠ 37) : unw (c :: r) = none := by
  rw [unw.eq_def]
  simp only [h, h2, Bool.false_eq_true, if_false]
theorem unw_short (r : List UInt8) (h : r.length < 2) : unw (37 :: r) = none := by
  rw [unw.eq_def]
  match r, h with
  | [], _ => rfl
  | [x], _ => rfl
  | _ :: _ :: _, h => simp at h; omega
theorem unw_bad (x y : UInt8) (r : List UInt8) (h : hexv x = none ∨ hexv y = none) : unw (37 :: x :: y :: r) = none := by
  rw [unw.eq_def]
  simp only [show plainU 37 = false from rfl, Bool.false_eq_true, if_false, if_true]
  rcases h with h | h
  · rw [h]
  · rw [h]; cases hexv x <;> rfl
theorem unw_stands (x y : UInt8) (r : List UInt8) (a b : Nat) (hx : hexv x = some a) (hy : hexv y = some b) (hp : plainU (UInt8.ofNat (16 * a + b)) = true) : unw (37 :: x :: y :: r) = none := by
  rw [unw.eq_def]
  simp only [show plainU 37 = false from rfl, hx, hy, hp, Bool.false_eq_true, if_false, if_true]
/-- the value of a digit as Go has it: -1 for none -/
def hexI (c : UInt8) : Int := match hexv c with | some k => (k : Int) | none => -1
theorem hexI_some {c : UInt8} {k : Nat} (h : hexv c = some k) : hexI c = k := by unfold hexI; rw [h]
theorem hexI_none {c : UInt8} (h : hexv c = none) : hexI c = -1 := by unfold hexI; rw [h]
def hexJ (c : UInt8) : Int := match hexv c with | some k => (k : Int) | none => 16
theorem hexJ_some {c : UInt8} {k : Nat} (h : hexv c = some k) : hexJ c = k := by unfold hexJ; rw [h]
theorem hexJ_none {c : UInt8} (h : hexv c = none) : hexJ c = 16 := by unfold hexJ; rw [h]
theorem hexJ_dec {c : UInt8} (h : 48 ≤ c.toNat ∧ c.toNat ≤ 57) : hexJ c = (c.toNat : Int) - 48 := by
  unfold hexJ hexv; rw [if_pos h]; simp only []; omega
theorem hexJ_let {c : UInt8} (h : 65 ≤ c.toNat ∧ c.toNat ≤ 70) : hexJ c = (c.toNat : Int) - 55 := by
  unfold hexJ hexv; rw [if_neg (by omega), if_pos h]; simp only []; omega
theorem hexJ_no {c : UInt8} (h : ¬ (48 ≤ c.toNat ∧ c.toNat ≤ 57)) (h2 : ¬ (65 ≤ c.toNat ∧ c.toNat ≤ 70)) : hexJ c = 16 := by
  unfold hexJ hexv; rw [if_neg h, if_neg h2]
/-- an encoded word is decoded to the word -/
theorem unw_encW (l r : List UInt8) : unw (encW l ++ r) = (unw r).map (l ++ ·) := by
  induction l with
  | nil => simp [encW]
  | cons c t ih =>
    have e : encW (c :: t) = encB c ++ encW t := rfl
    rw [e, List.append_assoc]
    by_cases hp : plainU c
    · have e1 : encB c = [c] := by unfold encB; rw [if_pos hp]
      rw [e1]
      rw [List.cons_append, List.nil_append, unw_plain c _ hp, ih]
      cases unw r <;> rfl
    · have e1 : encB c = [37, hexd (c >>> 4), hexd (c &&& 15)] := by unfold encB; rw [if_neg hp]
      obtain ⟨h1, h2⟩ := enc_pair c
      have e3 : UInt8.ofNat (16 * (c.toNat / 16) + c.toNat % 16) = c := by
        rw [Nat.div_add_mod]; simp
      rw [e1]
      have h3 := unw_hex _ _ (encW t ++ r) _ _ h1 h2 (by rw [e3]; simpa using hp)
      rw [e3] at h3
      simp only [List.cons_append, List.nil_append]
      rw [h3, ih]
      cases unw r <;> rfl
theorem unw_encW' (l : List UInt8) : unw (encW l) = some l := by
  have := unw_encW l []
  simpa [unw] using this
theorem encW_nil {l : List UInt8} (h : encW l = []) : l = [] := by
  have := encW_ge l
  rw [h] at this
  exact List.eq_nil_of_length_eq_zero (by simpa using this)
theorem encB_not (c : UInt8) : 126 ∉ encB c := by
  unfold encB
  split
  · next h =>
    intro h2
    simp at h2
    subst h2
    exact absurd h (by decide)
  · intro h2
    have := enc_pair c
    simp at h2
    rcases h2 with h2 | h2
    · rw [← h2, show hexv 126 = none from rfl] at this; exact absurd this.1 (by simp)
    · rw [← h2, show hexv 126 = none from rfl] at this; exact absurd this.2 (by simp)
theorem encW_not (l : List UInt8) : 126 ∉ encW l := by
  unfold encW
  rw [List.mem_flatMap]
  rintro ⟨c, _, h⟩
  exact encB_not c h
theorem unwordS_wordS (l : List UInt8) : unwordS (wordS l) = some l := by
  unfold wordS unwordS
  by_cases h : l = []
  · subst h; rfl
  · rw [if_neg h]
    have h1 : encW l ≠ [126] := fun h1 => encW_not l (by rw [h1]; simp)
    have h2 : encW l ≠ [] := fun h2 => h (encW_nil h2)
    rw [if_neg h1, if_neg h2, unw_encW']
/-- the bytes of an encoded word -/
theorem hexd_range (c : UInt8) (h : c.toNat < 16) : 48 ≤ (hexd c).toNat ∧ (hexd c).toNat ≤ 70 := by
  have : ∀ n : Fin 16, 48 ≤ (hexd (UInt8.ofNat n.val)).toNat ∧ (hexd (UInt8.ofNat n.val)).toNat ≤ 70 := by decide +kernel
  have := this ⟨c.toNat, h⟩
  simpa using this
theorem encB_range (c : UInt8) : ∀ b ∈ encB c, 33 ≤ b.toNat ∧ b.toNat ≤ 126 := by
  unfold encB
  split
  · next h =>
    intro b hb
    simp at hb
    subst hb
    simp [plainU, plainB] at h
    omega
  · intro b hb
    have h1 := hexd_range (c >>> 4) (by rw [UInt8.toNat_shiftRight, Nat.shiftRight_eq_div_pow]; have := c.toNat_lt; simp; omega)
    have h2 := hexd_range (c &&& 15) (by rw [UInt8.toNat_and, show (15 : UInt8).toNat = 2 ^ 4 - 1 from rfl, Nat.and_two_pow_sub_one_eq_mod]; omega)
    simp at hb
    rcases hb with rfl | rfl | rfl
    · decide
    · omega
    · omega
theorem wordS_range (l : List UInt8) : ∀ b ∈ wordS l, 33 ≤ b.toNat ∧ b.toNat ≤ 126 := by
  unfold wordS
  split
  · simp
  · intro b hb
    obtain ⟨c, _, h⟩ := List.mem_flatMap.1 hb
    exact encB_range c b h
end Go.Adm
set_option linter.unusedSimpArgs false
set_option linter.unusedVariables false
set_option maxRecDepth 100000
namespace Go.Adm
open Go Go.RowKit
/-- the parts between the bytes c -/
def splitB (c : UInt8) : List UInt8 → List (List UInt8)
  | [] => [[]]
  | x :: r => if x = c then [] :: splitB c r else match splitB c r with
    | [] => [[x]]
    | p :: ps => (x :: p) :: ps
theorem splitB_ne (c : UInt8) : ∀ l, splitB c l ≠ []
  | [] => by simp [splitB]
  | x :: r => by
    unfold splitB
    split
    · simp
    · split <;> simp
theorem splitB_none {c : UInt8} : ∀ {l : List UInt8}, c ∉ l → splitB c l = [l]
  | [], _ => rfl
  | x :: r, h => by
    rw [List.mem_cons] at h
    have e : splitB c r = [r] := splitB_none (fun hm => h (Or.inr hm))
    unfold splitB
    rw [if_neg (fun e => h (Or.inl e.symm)), e]
theorem splitB_app {c : UInt8} : ∀ {l : List UInt8} (r : List UInt8), c ∉ l → splitB c (l ++ c :: r) = l :: splitB c r
  | [], r, _ => by
    show splitB c (c :: r) = _
    rw [splitB, if_pos rfl]
  | x :: l, r, h => by
    rw [List.mem_cons] at h
    have e : splitB c (l ++ c :: r) = l :: splitB c r := splitB_app r (fun hm => h (Or.inr hm))
    show splitB c (x :: (l ++ c :: r)) = _
    rw [splitB, if_neg (fun e => h (Or.inl e.symm)), e]
theorem splitB_last (c : UInt8) : ∀ l : List UInt8, splitB c (l ++ [c]) = splitB c l ++ [[]]
  | [] => by
    show (if c = c then [] :: splitB c [] else _) = _
    rw [if_pos rfl]; rfl
  | x :: r => by
    show splitB c (x :: (r ++ [c])) = _
    rw [splitB, splitB_last c r]
    by_cases h : x = c
    · rw [if_pos h, splitB, if_pos h]; rfl
    · rw [if_neg h, splitB, if_neg h]
      cases hs : splitB c r with
      | nil => exact absurd hs (splitB_ne c r)
      | cons p ps => rfl
theorem splitB_mem {c : UInt8} : ∀ {l : List UInt8}, ∀ p ∈ splitB c l, c ∉ p
  | [], p, hp => by
    rw [splitB, List.mem_singleton] at hp
    subst hp; simp
  | x :: r, p, hp => by
    unfold splitB at hp
    split at hp
    · rcases List.mem_cons.1 hp with h | h
      · subst h; simp
      · exact splitB_mem p h
    · rename_i hx
      cases hs : splitB c r with
      | nil => exact absurd hs (splitB_ne c r)
      | cons q qs =>
        rw [hs] at hp
        rcases List.mem_cons.1 hp with h | h
        · subst h
          rw [List.mem_cons]
          rintro (h | h)
          · exact hx h.symm
          · exact splitB_mem (l := r) q (by rw [hs]; exact List.mem_cons_self) h
        · exact splitB_mem (l := r) p (by rw [hs]; exact List.mem_cons_of_mem _ h)
/-- the words of parts -/
def wordsO : List (List UInt8) → Option (List ByteArray)
  | [] => some []
  | p :: ps => match unwordS p with
    | none => none
    | some w => (wordsO ps).map (⟨w.toArray⟩ :: ·)
theorem wordsO_app : ∀ (a b : List (List UInt8)), wordsO (a ++ b) = (wordsO a).bind fun x => (wordsO b).map (x ++ ·)
  | [], b => by
    show wordsO b = (wordsO b).map ([] ++ ·)
    cases wordsO b <;> rfl
  | p :: a, b => by
    show wordsO (p :: (a ++ b)) = _
    rw [wordsO, wordsO, wordsO_app a b]
    cases unwordS p with
    | none => rfl
    | some w => cases wordsO a <;> cases wordsO b <;> rfl
theorem wordsO_len : ∀ {ps : List (List UInt8)} {ws : List ByteArray}, wordsO ps = some ws → ws.length = ps.length
  | [], ws, h => by injection h with h; subst h; rfl
  | p :: ps, ws, h => by
    rw [wordsO] at h
    cases hu : unwordS p with
    | none => rw [hu] at h; cases h
    | some w =>
      rw [hu] at h
      obtain ⟨x, hx, rfl⟩ := Option.map_eq_some_iff.1 h
      rw [List.length_cons, List.length_cons, wordsO_len hx]
/-- the words of a line -/
def lineO (l : List UInt8) : Option (List ByteArray) := match wordsO (splitB 32 l) with
  | none => none
  | some ws => if lineE ws = 0 then some ws else none
def linesO : List (List UInt8) → Option (List (List ByteArray))
  | [] => some []
  | p :: ps => match lineO p with
    | none => none
    | some w => (linesO ps).map (w :: ·)
theorem linesO_app : ∀ (a b : List (List UInt8)), linesO (a ++ b) = (linesO a).bind fun x => (linesO b).map (x ++ ·)
  | [], b => by
    show linesO b = (linesO b).map ([] ++ ·)
    cases linesO b <;> rfl
  | p :: a, b => by
    show linesO (p :: (a ++ b)) = _
    rw [linesO, linesO, linesO_app a b]
    cases lineO p with
    | none => rfl
    | some w => cases linesO a <;> cases linesO b <;> rfl
/-- the lines of an encoded document -/
def decO (b : List UInt8) : Option (List (List ByteArray)) := if (splitB 10 b).getLast (splitB_ne 10 b) = [] then linesO (splitB 10 b).dropLast else none
theorem decO_nil : decO [] = some [] := rfl
theorem decO_line {l r : List UInt8} (h : 10 ∉ l) : decO (l ++ 10 :: r) = (lineO l).bind fun ws => (decO r).map (ws :: ·) := by
  have e := splitB_app (c := 10) r h
  have hn := splitB_ne 10 r
  have e1 : (splitB 10 (l ++ 10 :: r)).dropLast = l :: (splitB 10 r).dropLast := by
    rw [e]
    cases hs : splitB 10 r with
    | nil => exact absurd hs hn
    | cons p ps => rfl
  have e2 : (splitB 10 (l ++ 10 :: r)).getLast (splitB_ne _ _) = (splitB 10 r).getLast hn := by
    have : (l :: splitB 10 r).getLast (by simp) = (splitB 10 r).getLast hn := List.getLast_cons hn
    simp only [e]
    exact this
  unfold decO
  rw [e1, e2, linesO]
  split
  · cases lineO l <;> rfl
  · cases lineO l <;> rfl
theorem decO_open {b : List UInt8} (h : 10 ∉ b) (h0 : b ≠ []) : decO b = none := by
  have e := splitB_none h
  have e2 : (splitB 10 b).getLast (splitB_ne _ _) = b := by simp only [e]; rfl
  unfold decO
  rw [e2, if_neg h0]
/-- what Decode returns: lines and error -/
def decR (b : List UInt8) : List (List ByteArray) × Int :=
  if 262144 < b.length then ([], 3) else match decO b with
    | none => ([], 2)
    | some ls => if 1000 < ls.length then ([], 2) else (ls, 0)
theorem decR_long {b : List UInt8} (h : 262144 < b.length) : decR b = ([], 3) := by unfold decR; rw [if_pos h]
theorem decR_none {b : List UInt8} (h : ¬ 262144 < b.length) (h2 : decO b = none) : decR b = ([], 2) := by unfold decR; rw [if_neg h, h2]
theorem decR_many {b : List UInt8} {ls : List (List ByteArray)} (h : ¬ 262144 < b.length) (h2 : decO b = some ls) (h3 : 1000 < ls.length) : decR b = ([], 2) := by
  unfold decR; rw [if_neg h, h2]; exact if_pos h3
theorem decR_ok {b : List UInt8} {ls : List (List ByteArray)} (h : ¬ 262144 < b.length) (h2 : decO b = some ls) (h3 : ¬ 1000 < ls.length) : decR b = (ls, 0) := by
  unfold decR; rw [if_neg h, h2]; exact if_neg h3
/-! ### back to the encoded form -/
theorem hexd_back : ∀ m : Fin 256, (match hexv (UInt8.ofNat m.val) with | some n => decide (hexd (UInt8.ofNat n) = UInt8.ofNat m.val) | none => true) = true := by decide +kernel
theorem enc_hex {x y : UInt8} {a b : Nat} (hx : hexv x = some a) (hy : hexv y = some b) (hp : plainU (UInt8.ofNat (16 * a + b)) = false) : encB (UInt8.ofNat (16 * a + b)) = [37, x, y] := by
  have key : ∀ c : UInt8, ∀ n, hexv c = some n → hexd (UInt8.ofNat n) = c := by
    intro c n h
    have : ∀ m : Fin 256, ∀ n, hexv (UInt8.ofNat m.val) = some n → hexd (UInt8.ofNat n) = UInt8.ofNat m.val := by
      intro m n h
      have h1 := hexd_back m
      rw [h] at h1
      exact of_decide_eq_true h1
    have h2 := this ⟨c.toNat, c.toNat_lt⟩ n (by simpa using h)
    simpa using h2
  have ha := hexv_lt hx
  have hb := hexv_lt hy
  have e1 : (UInt8.ofNat (16 * a + b)) >>> 4 = UInt8.ofNat a := by
    apply UInt8.toNat_inj.1
    rw [UInt8.toNat_shiftRight, Nat.shiftRight_eq_div_pow]
    simp
    omega
  have e2 : (UInt8.ofNat (16 * a + b)) &&& 15 = UInt8.ofNat b := by
    apply UInt8.toNat_inj.1
    rw [UInt8.toNat_and, show (15 : UInt8).toNat = 2 ^ 4 - 1 from rfl, Nat.and_two_pow_sub_one_eq_mod]
    simp
    omega
  unfold encB
  rw [hp, e1, e2, key x a hx, key y b hy]
  rfl
theorem unw_enc : ∀ (n : Nat) {l w : List UInt8}, l.length ≤ n → unw l = some w → encW w = l
  | _, [], w, _, h => by
    rw [unw] at h
    injection h with h
    subst h; rfl
  | n + 1, c :: r, w, hn, h => by
    have hn' : r.length ≤ n := by simpa using hn
    by_cases hp : plainU c = true
    · rw [unw_plain c r hp] at h
      obtain ⟨x, hx, rfl⟩ := Option.map_eq_some_iff.1 h
      show encB c ++ encW x = _
      rw [unw_enc n hn' hx]
      unfold encB
      rw [hp]; rfl
    · have hp' : plainU c = false := by simpa using hp
      by_cases hc : c = 37
      · subst hc
        match r, hn', h with
        | [], _, h => rw [unw_short [] (by simp)] at h; cases h
        | [x], _, h => rw [unw_short [x] (by simp)] at h; cases h
        | x :: y :: t, hn', h =>
          cases hx : hexv x with
          | none => rw [unw_bad x y t (Or.inl hx)] at h; cases h
          | some a =>
            cases hy : hexv y with
            | none => rw [unw_bad x y t (Or.inr hy)] at h; cases h
            | some b =>
              cases hq : plainU (UInt8.ofNat (16 * a + b)) with
              | true => rw [unw_stands x y t a b hx hy hq] at h; cases h
              | false =>
                rw [unw_hex x y t a b hx hy hq] at h
                obtain ⟨z, hz, rfl⟩ := Option.map_eq_some_iff.1 h
                show encB _ ++ encW z = _
                have hl : t.length ≤ n := by simp at hn'; omega
                rw [unw_enc n hl hz, enc_hex hx hy hq]
                rfl
      · rw [unw_odd c r hp' hc] at h; cases h
theorem unwordS_enc {l w : List UInt8} (h : unwordS l = some w) : wordS w = l := by
  unfold unwordS at h
  split at h
  · rename_i e
    injection h with h
    subst h e; rfl
  · split at h
    · cases h
    · rename_i h1 h2
      have e := unw_enc l.length (Nat.le_refl _) h
      unfold wordS
      split
      · rename_i hw
        subst hw
        exact absurd e.symm h2
      · exact e
theorem mk_data (l : List UInt8) : bs (⟨l.toArray⟩ : ByteArray) = l := rfl
/-- parts put together -/
def glue (c : UInt8) (ps : List (List UInt8)) : List UInt8 := (ps.flatMap fun p => c :: p).drop 1
theorem glue_split (c : UInt8) : ∀ l, (splitB c l).flatMap (fun p => c :: p) = c :: l
  | [] => rfl
  | x :: r => by
    rw [splitB]
    by_cases h : x = c
    · rw [if_pos h, List.flatMap_cons, glue_split c r, h]; rfl
    · rw [if_neg h]
      have := glue_split c r
      cases hs : splitB c r with
      | nil => exact absurd hs (splitB_ne c r)
      | cons p ps =>
        rw [hs, List.flatMap_cons] at this
        show ((x :: p) :: ps).flatMap _ = _
        rw [List.flatMap_cons]
        have e : p ++ ps.flatMap (fun p => c :: p) = r := by simpa using this
        show c :: (x :: p) ++ _ = _
        simp [e]
theorem wordsO_enc : ∀ {ps : List (List UInt8)} {ws : List ByteArray}, wordsO ps = some ws → wordsS ws = ps.flatMap (fun p => 32 :: p)
  | [], ws, h => by injection h with h; subst h; rfl
  | p :: ps, ws, h => by
    rw [wordsO] at h
    cases hu : unwordS p with
    | none => rw [hu] at h; cases h
    | some w =>
      rw [hu] at h
      obtain ⟨x, hx, rfl⟩ := Option.map_eq_some_iff.1 h
      rw [wordsS, mk_data, unwordS_enc hu, wordsO_enc hx, List.flatMap_cons]
      rfl
theorem lineO_enc {l : List UInt8} {ws : List ByteArray} (h : lineO l = some ws) : lineS ws = l ++ [10] ∧ lineE ws = 0 := by
  unfold lineO at h
  cases hw : wordsO (splitB 32 l) with
  | none => rw [hw] at h; cases h
  | some x =>
    rw [hw] at h
    by_cases he : lineE x = 0
    · simp only [he, if_true] at h
      injection h with h
      subst h
      refine ⟨?_, he⟩
      rw [lineS, wordsO_enc hw, glue_split]; rfl
    · simp only [he, if_false] at h
      cases h
theorem linesO_enc : ∀ {ps : List (List UInt8)} {ls : List (List ByteArray)}, linesO ps = some ls → encD ls = ps.flatMap (fun p => p ++ [10]) ∧ linesE ls = 0
  | [], ls, h => by injection h with h; subst h; exact ⟨rfl, rfl⟩
  | p :: ps, ls, h => by
    rw [linesO] at h
    cases hu : lineO p with
    | none => rw [hu] at h; cases h
    | some w =>
      rw [hu] at h
      obtain ⟨x, hx, rfl⟩ := Option.map_eq_some_iff.1 h
      obtain ⟨h1, h2⟩ := lineO_enc hu
      obtain ⟨h3, h4⟩ := linesO_enc hx
      refine ⟨?_, ?_⟩
      · show lineS w ++ encD x = _
        rw [h1, h3, List.flatMap_cons]
      · rw [linesE, h2]; simpa using h4
theorem glue_lines (c : UInt8) : ∀ l, (splitB c l).getLast (splitB_ne c l) = [] → (splitB c l).dropLast.flatMap (fun p => p ++ [c]) = l
  | [], _ => rfl
  | x :: r, h => by
    by_cases hx : x = c
    · have e : splitB c (x :: r) = [] :: splitB c r := by rw [splitB, if_pos hx]
      have e1 : (splitB c (x :: r)).dropLast = [] :: (splitB c r).dropLast := by
        rw [e]
        cases hs : splitB c r with
        | nil => exact absurd hs (splitB_ne c r)
        | cons p ps => rfl
      have e2 : (splitB c (x :: r)).getLast (splitB_ne _ _) = (splitB c r).getLast (splitB_ne c r) := by
        simp only [e]; exact List.getLast_cons _
      rw [e2] at h
      rw [e1, List.flatMap_cons, glue_lines c r h, hx]; rfl
    · cases hs : splitB c r with
      | nil => exact absurd hs (splitB_ne c r)
      | cons p ps =>
        have e : splitB c (x :: r) = (x :: p) :: ps := by rw [splitB, if_neg hx, hs]
        cases ps with
        | nil =>
          have : (splitB c (x :: r)).getLast (splitB_ne _ _) = x :: p := by simp only [e]; rfl
          rw [this] at h; cases h
        | cons q qs =>
          have e2 : (splitB c (x :: r)).getLast (splitB_ne _ _) = (splitB c r).getLast (splitB_ne c r) := by
            simp only [e, hs]; rfl
          rw [e2] at h
          have ih := glue_lines c r h
          rw [hs] at ih
          rw [e]
          show ((x :: p) :: (q :: qs).dropLast).flatMap _ = _
          rw [List.flatMap_cons]
          have ih' : (p :: (q :: qs).dropLast).flatMap (fun p => p ++ [c]) = r := ih
          rw [List.flatMap_cons] at ih'
          show (x :: p) ++ [c] ++ _ = x :: r
          rw [List.cons_append, List.cons_append, ih']
theorem decO_enc {b : List UInt8} {ls : List (List ByteArray)} (h : decO b = some ls) : encD ls = b ∧ linesE ls = 0 := by
  unfold decO at h
  split at h
  · rename_i hl
    obtain ⟨h1, h2⟩ := linesO_enc h
    exact ⟨by rw [h1, glue_lines 10 b hl], h2⟩
  · cases h
/-! ### from the encoded form -/
theorem wordS_no (w : List UInt8) (c : UInt8) (hc : c.toNat < 33) : c ∉ wordS w := fun h => by
  have := (wordS_range w c h).1
  omega
theorem split_words : ∀ (l : List ByteArray) (w : ByteArray), splitB 32 (wordS (bs w) ++ wordsS l) = (w :: l).map fun x => wordS (bs x)
  | [], w => by
    rw [show wordsS [] = [] from rfl, List.append_nil, splitB_none (wordS_no _ 32 (by decide))]; rfl
  | x :: l, w => by
    rw [wordsS, splitB_app _ (wordS_no _ 32 (by decide)), split_words l x]; rfl
theorem wordsO_words : ∀ l : List ByteArray, wordsO (l.map fun x => wordS (bs x)) = some l
  | [] => rfl
  | w :: l => by
    rw [List.map_cons, wordsO, unwordS_wordS, wordsO_words l]
    show some (_ :: l) = _
    rw [mk_bs]
theorem lineO_line {l : List ByteArray} (h : lineE l = 0) : lineO ((wordsS l).drop 1) = some l := by
  cases l with
  | nil => cases h
  | cons w l =>
    have e : (wordsS (w :: l)).drop 1 = wordS (bs w) ++ wordsS l := rfl
    rw [e, lineO, split_words, wordsO_words]
    simp only [h, if_true]
theorem line_no {l : List ByteArray} : 10 ∉ wordsS l := by
  induction l with
  | nil => simp [wordsS]
  | cons w l ih =>
    rw [wordsS, List.mem_cons, List.mem_append]
    rintro (h | h | h)
    · cases h
    · exact wordS_no _ 10 (by decide) h
    · exact ih h
theorem decO_doc : ∀ {ls : List (List ByteArray)}, linesE ls = 0 → decO (encD ls) = some ls
  | [], _ => rfl
  | l :: ls, h => by
    have h1 := linesE_zero.1 h
    have h2 : linesE ls = 0 := linesE_zero.2 fun x hx => h1 x (List.mem_cons_of_mem _ hx)
    have e : encD (l :: ls) = (wordsS l).drop 1 ++ 10 :: encD ls := by
      show lineS l ++ encD ls = _
      rw [lineS, List.append_assoc]; rfl
    rw [e, decO_line (fun hm => line_no (List.mem_of_mem_drop hm)), lineO_line (h1 l List.mem_cons_self), decO_doc h2]
    rfl
end Go.Adm

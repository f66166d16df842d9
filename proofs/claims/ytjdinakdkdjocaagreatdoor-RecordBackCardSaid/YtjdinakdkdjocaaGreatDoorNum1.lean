/- Decimal numerals in plain Lean: what is parsed, and that numerals are. -/
import Derived.Test.YtjdinakdkdjocaaGreatDoorGen1
import Derived.Lib.ItoaLen
set_option linter.unusedSimpArgs false
set_option linter.unusedVariables false
namespace Go.Adm
open Go Go.Lib
def isDg (b : UInt8) : Bool := !decide (b.toNat < 48) && !decide (57 < b.toNat)
def valN (l : List UInt8) : Nat := l.foldl (fun n b => 10 * n + (b.toNat - 48)) 0
theorem valN_snoc (l : List UInt8) (b : UInt8) : valN (l ++ [b]) = 10 * valN l + (b.toNat - 48) := by
  unfold valN
  rw [List.foldl_append]
  rfl
def badLen (l : List UInt8) : Bool := decide (l.length < 1) || (decide (13 < l.length) || (decide (1 < l.length) && (l.head? == some 48)))
def parseS (l : List UInt8) : Option Nat := if badLen l then none else if l.all isDg then (if 1099511627776 < valN l then none else some (valN l)) else none
theorem isDg_bd {b : UInt8} (h : isDg b = true) : 48 ≤ b.toNat ∧ b.toNat ≤ 57 := by
  unfold isDg at h
  simp only [Bool.and_eq_true, Bool.not_eq_true', decide_eq_false_iff_not] at h
  omega
theorem snoc_ind {α : Type} {P : List α → Prop} (h0 : P []) (h1 : ∀ l b, P l → P (l ++ [b])) : ∀ l, P l := by
  have key : ∀ (n : Nat) (l : List α), l.length = n → P l := by
    intro n
    induction n with
    | zero => intro l hl; rw [List.eq_nil_of_length_eq_zero hl]; exact h0
    | succ n ih =>
      intro l hl
      cases h : l.reverse with
      | nil => rw [show l = [] from by simpa using h]; exact h0
      | cons b r =>
        have e : l = r.reverse ++ [b] := by have := congrArg List.reverse h; simpa using this
        rw [e]
        exact h1 _ _ (ih _ (by rw [e] at hl; simpa using hl))
  exact fun l => key l.length l rfl
theorem valN_lt : ∀ (l : List UInt8), l.all isDg = true → valN l < 10 ^ l.length := by
  refine snoc_ind ?_ ?_
  · intro _; simp [valN]
  · intro l b ih h
    rw [List.all_append, Bool.and_eq_true] at h
    have h1 := ih h.1
    have h2 := isDg_bd (by simpa using h.2 : isDg b = true)
    rw [valN_snoc, List.length_append, List.length_singleton, Nat.pow_succ]
    omega
theorem valN_pos : ∀ (l : List UInt8), l.all isDg = true → l ≠ [] → l.head? ≠ some 48 → 1 ≤ valN l := by
  refine snoc_ind ?_ ?_
  · intro _ h; exact absurd rfl h
  · intro l b ih h _ h0
    rw [List.all_append, Bool.and_eq_true] at h
    have h2 := isDg_bd (by simpa using h.2 : isDg b = true)
    rw [valN_snoc]
    cases l with
    | nil =>
      have : b ≠ 48 := fun e => h0 (by rw [e]; rfl)
      have : b.toNat ≠ 48 := fun e => this (UInt8.toNat_inj.1 (by rw [e]; rfl))
      omega
    | cons c l =>
      have := ih h.1 (by simp) (by simpa using h0)
      omega
theorem dec_val : ∀ (l : List UInt8), l.all isDg = true → l ≠ [] → (1 < l.length → l.head? ≠ some 48) → decDigits (valN l) = l := by
  refine snoc_ind ?_ ?_
  · intro _ h; exact absurd rfl h
  · intro l b ih h _ h0
    rw [List.all_append, Bool.and_eq_true] at h
    have h2 := isDg_bd (by simpa using h.2 : isDg b = true)
    have hb : ∀ d, d = b.toNat - 48 → UInt8.ofNat (48 + d) = b := fun d hd => UInt8.toNat_inj.1 (by rw [UInt8.toNat_ofNat']; omega)
    rw [valN_snoc]
    cases l with
    | nil =>
      have e : valN ([] : List UInt8) = 0 := rfl
      rw [e, decDigits, dif_pos (by omega), List.nil_append, hb _ (by omega)]
    | cons c l =>
      have hh : (c :: l).head? ≠ some 48 := by
        have := h0 (by simp)
        simpa using this
      have hp := valN_pos (c :: l) h.1 (by simp) hh
      have ih' := ih h.1 (by simp) (fun _ => hh)
      rw [decDigits, dif_neg (by omega), show (10 * valN (c :: l) + (b.toNat - 48)) / 10 = valN (c :: l) from by omega, ih', hb _ (by omega)]
theorem dec_props (u : Nat) : (decDigits u).all isDg = true ∧ valN (decDigits u) = u ∧ decDigits u ≠ [] ∧ (1 < (decDigits u).length → (decDigits u).head? ≠ some 48) := by
  induction u using Nat.strongRecOn with
  | _ u ih =>
    have hd : ∀ k, k < 10 → (UInt8.ofNat (48 + k)).toNat = 48 + k := fun k hk => by rw [UInt8.toNat_ofNat']; omega
    by_cases h : u < 10
    · rw [decDigits, dif_pos h]
      refine ⟨?_, ?_, by simp, by simp⟩
      · have h3 := hd u h
        have : isDg (UInt8.ofNat (48 + u)) = true := by unfold isDg; rw [h3, decide_eq_false (by omega), decide_eq_false (by omega)]; rfl
        rw [List.all_cons, this]; rfl
      · have h3 := hd u h
        unfold valN
        simp only [List.foldl_cons, List.foldl_nil, h3]
        omega
    · obtain ⟨h1, h2, h3, h4⟩ := ih (u / 10) (by omega)
      rw [decDigits, dif_neg h]
      have h5 := hd (u % 10) (by omega)
      have hg : isDg (UInt8.ofNat (48 + u % 10)) = true := by unfold isDg; rw [h5, decide_eq_false (by omega), decide_eq_false (by omega)]; rfl
      refine ⟨by rw [List.all_append, h1, List.all_cons, hg]; rfl, by rw [valN_snoc, h2, h5]; omega, by simp, fun _ => ?_⟩
      have hhd : (decDigits (u / 10) ++ [UInt8.ofNat (48 + u % 10)]).head? = (decDigits (u / 10)).head? := by
        cases hc : decDigits (u / 10) with
        | nil => exact absurd hc h3
        | cons c l => rfl
      rw [hhd]
      by_cases hl : 1 < (decDigits (u / 10)).length
      · exact h4 hl
      · intro e
        cases hc : decDigits (u / 10) with
        | nil => exact absurd hc h3
        | cons c l =>
          rw [hc] at e hl h2
          have e1 : c = 48 := by simpa using e
          have e2 : l = [] := List.eq_nil_of_length_eq_zero (by rw [List.length_cons] at hl; omega)
          rw [e1, e2] at h2
          have : valN [48] = 0 := by decide
          omega
theorem parse_back {l : List UInt8} {v : Nat} (h : parseS l = some v) : itoa (v : Int) = l ∧ v ≤ 1099511627776 := by
  unfold parseS at h
  split at h
  · cases h
  · next hb =>
    split at h
    · next ha =>
      split at h
      · cases h
      · next hv =>
        obtain rfl := Option.some.inj h
        unfold badLen at hb
        simp only [Bool.or_eq_true, Bool.and_eq_true, decide_eq_true_eq, beq_iff_eq, not_or, not_and] at hb
        refine ⟨?_, by omega⟩
        unfold itoa
        rw [if_neg (by omega), Int.toNat_natCast]
        exact dec_val l ha (fun e => by rw [e] at hb; simp at hb) hb.2.2
    · cases h
theorem parse_num (n : Int) : parseS (itoa n) = if 0 ≤ n ∧ n ≤ 1099511627776 then some n.toNat else none := by
  unfold itoa
  by_cases hn : n < 0
  · rw [if_pos hn, if_neg (by omega)]
    unfold parseS
    have : (45 :: decDigits n.natAbs).all isDg = false := by
      rw [List.all_cons, show isDg 45 = false from by decide]; rfl
    rw [this]
    split <;> rfl
  · rw [if_neg hn]
    obtain ⟨h1, h2, h3, h4⟩ := dec_props n.toNat
    have hlen := decDigits_length n.toNat
    by_cases hb : n ≤ 1099511627776
    · rw [if_pos ⟨by omega, hb⟩]
      have hl : (decDigits n.toNat).length ≤ 13 := by
        rcases Nat.lt_or_ge 13 (decDigits n.toNat).length with h | h
        · exfalso
          have hle : ∀ (k u : Nat), u < 10 ^ (k + 1) → nDigits u ≤ k + 1 := by
            intro k
            induction k with
            | zero => intro u hu; rw [nDigits_small (by simpa using hu)]; omega
            | succ k ih =>
              intro u hu
              by_cases hs : u < 10
              · rw [nDigits_small hs]; omega
              · rw [nDigits_big hs]
                have := ih (u / 10) (by rw [Nat.pow_succ] at hu; omega)
                omega
          have h9 := hle 12 n.toNat (by
            have : (10 : Nat) ^ (12 + 1) = 10000000000000 := by decide
            omega)
          omega
        · exact h
      have hbad : badLen (decDigits n.toNat) = false := by
        unfold badLen
        rw [decide_eq_false (by have := List.length_pos_iff.2 h3; omega), decide_eq_false (by omega)]
        by_cases h5 : 1 < (decDigits n.toNat).length
        · have := h4 h5
          simp [this]
        · simp [h5]
      unfold parseS
      rw [hbad, h1, h2]
      simp only [Bool.false_eq_true, if_false, if_true]
      rw [if_neg (by omega)]
    · rw [if_neg (fun h => hb h.2)]
      unfold parseS
      rw [h1, h2]
      simp only [if_true]
      split
      · rfl
      · rw [if_pos (by omega)]
/-- the digits to come and those laid, while a numeral is made from behind -/
def todo (u : Nat) : List UInt8 := if u = 0 then [] else decDigits u
theorem todo_step (u : Nat) (h : 0 < u) (acc : List UInt8) : todo (u / 10) ++ (UInt8.ofNat (48 + u % 10) :: acc) = todo u ++ acc := by
  unfold todo
  rw [if_neg (by omega : ¬ u = 0)]
  by_cases h10 : u < 10
  · rw [if_pos (by omega), decDigits, dif_pos h10, Nat.mod_eq_of_lt h10]
    rfl
  · rw [if_neg (by omega)]
    conv => rhs; rw [decDigits, dif_neg h10]
    rw [List.append_assoc]
    rfl
end Go.Adm

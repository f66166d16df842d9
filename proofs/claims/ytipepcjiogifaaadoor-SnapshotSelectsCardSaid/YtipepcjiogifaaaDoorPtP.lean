/- Patterns: their parts, plain Lean. -/
import Derived.Test.YtipepcjiogifaaaDoorSnap2
set_option linter.unusedSimpArgs false
set_option linter.unusedVariables false
namespace Go.Adm
open Go Go.RowKit
abbrev Pt := Nat × UInt8
def partC (x : Pt) : List Value := [.int .i64 (x.1 : Int), .int .u8 (x.2.toNat : Int)]
theorem partC_one (x : Pt) : ∀ v ∈ partC x, v.oneCell' = true := by
  intro v hv
  simp only [partC, List.mem_cons, List.mem_nil_iff, or_false] at hv
  rcases hv with rfl | rfl <;> rfl
/-- the parts of a pattern's bytes -/
def patR : List UInt8 → Option (List Pt)
  | [] => some []
  | b :: r => if b = 0 then none else if b = 92 then (match r with
      | [] => none
      | c :: r' => if c = 0 then none else (patR r').map ((0, c) :: ·))
    else if b = 63 then (patR r).map ((1, 0) :: ·)
    else if b = 42 then (match r with
      | [] => some [(2, 0)]
      | c :: r' => if c = 42 then (patR r').map ((3, 0) :: ·) else (patR (c :: r')).map ((2, 0) :: ·))
    else (patR r).map ((0, b) :: ·)
termination_by l => l.length
decreasing_by all_goals simp_wf <;> omega
theorem pat_nil : patR [] = some [] := by rw [patR.eq_def]
theorem pat_0 (r : List UInt8) : patR (0 :: r) = none := by rw [patR.eq_def]; simp
theorem pat_esc {c : UInt8} (r : List UInt8) (h : c ≠ 0) : patR (92 :: c :: r) = (patR r).map ((0, c) :: ·) := by
  conv => lhs; rw [patR.eq_def]
  simp [h]
theorem pat_esc_0 (r : List UInt8) : patR (92 :: 0 :: r) = none := by rw [patR.eq_def]; simp
theorem pat_esc_end : patR [92] = none := by rw [patR.eq_def]; simp
theorem pat_q (r : List UInt8) : patR (63 :: r) = (patR r).map ((1, 0) :: ·) := by
  conv => lhs; rw [patR.eq_def]
  simp
theorem pat_ss (r : List UInt8) : patR (42 :: 42 :: r) = (patR r).map ((3, 0) :: ·) := by
  conv => lhs; rw [patR.eq_def]
  simp
theorem pat_s {r : List UInt8} (h : ∀ r', r ≠ 42 :: r') : patR (42 :: r) = (patR r).map ((2, 0) :: ·) := by
  conv => lhs; rw [patR.eq_def]
  cases r with
  | nil => rw [pat_nil]; simp
  | cons c r' =>
    have hc : c ≠ 42 := fun e => h r' (by rw [e])
    simp [hc]
theorem pat_lit {b : UInt8} (r : List UInt8) (h0 : b ≠ 0) (h1 : b ≠ 92) (h2 : b ≠ 63) (h3 : b ≠ 42) : patR (b :: r) = (patR r).map ((0, b) :: ·) := by
  conv => lhs; rw [patR.eq_def]
  simp [h0, h1, h2, h3]
theorem pat_zero : ∀ (m : Nat) (l : List UInt8), l.length ≤ m → (0 : UInt8) ∈ l → patR l = none
  | m, [], _, h => by cases h
  | 0, b :: r, hl, _ => by simp at hl
  | m + 1, b :: r, hl, h => by
    have ih := fun (r' : List UInt8) (h1 : r'.length ≤ m) (h2 : (0 : UInt8) ∈ r') => pat_zero m r' h1 h2
    simp only [List.length_cons] at hl
    by_cases h0 : b = 0
    · rw [h0, pat_0]
    have hr : (0 : UInt8) ∈ r := by
      rcases List.mem_cons.1 h with e | e
      · exact absurd e.symm h0
      · exact e
    by_cases h1 : b = 92
    · subst h1
      cases r with
      | nil => exact pat_esc_end
      | cons c r' =>
        by_cases hc : c = 0
        · rw [hc]; exact pat_esc_0 r'
        · rw [pat_esc r' hc, ih r' (by simp only [List.length_cons] at hl; omega) (by
            rcases List.mem_cons.1 hr with e | e
            · exact absurd e.symm hc
            · exact e)]
          rfl
    by_cases h2 : b = 63
    · subst h2; rw [pat_q, ih r (by omega) hr]; rfl
    by_cases h3 : b = 42
    · subst h3
      cases r with
      | nil => cases hr
      | cons c r' =>
        by_cases hc : c = 42
        · subst hc
          rw [pat_ss, ih r' (by simp only [List.length_cons] at hl; omega) (by
            rcases List.mem_cons.1 hr with e | e
            · exact absurd e (by decide)
            · exact e)]
          rfl
        · rw [pat_s (fun r'' e => hc (by injection e)), ih (c :: r') (by omega) hr]; rfl
    rw [pat_lit r h0 h1 h2 h3, ih r (by omega) hr]; rfl
/-- what was read of the first k bytes -/
def PA (L : List UInt8) (out : List Pt) (k : Nat) : Prop := patR L = (patR (L.drop k)).map (out ++ ·)
theorem PA.zero (L : List UInt8) : PA L [] 0 := by
  unfold PA
  rw [List.drop_zero]
  cases patR L <;> rfl
theorem PA.step {L : List UInt8} {out : List Pt} {k j : Nat} (h : PA L out k) (x : Pt) (hs : patR (L.drop k) = (patR (L.drop j)).map (x :: ·)) : PA L (out ++ [x]) j := by
  unfold PA at h ⊢
  rw [h, hs]
  cases patR (L.drop j) <;> simp
theorem PA.bad {L : List UInt8} {out : List Pt} {k : Nat} (h : PA L out k) (hs : patR (L.drop k) = none) : patR L = none := by
  unfold PA at h
  rw [h, hs]; rfl
theorem PA.done {L : List UInt8} {out : List Pt} {k : Nat} (h : PA L out k) (hk : L.length ≤ k) : patR L = some out := by
  unfold PA at h
  rw [h, List.drop_eq_nil_of_le hk, pat_nil]
  simp
noncomputable def patS (s : ByteArray) : Option (List Pt) := if s.size < 1 ∨ 200 < s.size then none else patR s.data.toList
theorem ba_at (s : ByteArray) {k : Nat} (h : k < s.size) : s.data.toList[k]? = some s[k] := by
  rw [Array.getElem?_toList]
  exact Array.getElem?_eq_getElem h
theorem drop1 {L : List UInt8} {k : Nat} {b : UInt8} (h : L[k]? = some b) : L.drop k = b :: L.drop (k + 1) := by
  obtain ⟨hk, e⟩ := List.getElem?_eq_some_iff.1 h
  rw [List.drop_eq_getElem_cons hk, e]
theorem drop2 {L : List UInt8} {k : Nat} {b c : UInt8} (h : L[k]? = some b) (h2 : L[k + 1]? = some c) : L.drop k = b :: c :: L.drop (k + 2) := by
  rw [drop1 h, drop1 h2]
theorem of_nat {b : UInt8} {n : Nat} (h : b.toNat = n) : b = UInt8.ofNat n := by rw [← h]; simp
theorem idx0 : ∀ (l : List UInt8), 0 ≤ Lib.indexByte l 0 ↔ (0 : UInt8) ∈ l
  | [] => by simp [Lib.indexByte]
  | b :: l => by
    have ih := idx0 l
    have hg := idx_ge l 0
    simp only [Lib.indexByte]
    by_cases hb : b = 0
    · subst hb; simp
    · rw [if_neg (by simpa using hb)]
      by_cases h3 : (Lib.indexByte l 0 == -1) = true
      · rw [if_pos h3]
        have := beq_iff_eq.1 h3
        constructor
        · intro h; omega
        · intro h
          rcases List.mem_cons.1 h with e | e
          · exact absurd e.symm hb
          · have := ih.2 e; omega
      · rw [if_neg h3]
        have h4 : Lib.indexByte l 0 ≠ -1 := fun e => h3 (by rw [e]; rfl)
        constructor
        · intro h; exact List.mem_cons_of_mem _ (ih.1 (by omega))
        · intro h; omega
end Go.Adm

/- What the functions of package document compute, as plain functions on lists of bytes. The walks over package document and its reference: words. -/
import Derived.Test.YtkcmaembpfakdaaGreatDoorNum1
set_option linter.unusedSimpArgs false
set_option linter.unusedVariables false
namespace Go.Adm
open Go Go.RowKit

abbrev bs (s : ByteArray) : List UInt8 := s.data.toList
theorem bs_len (s : ByteArray) : (bs s).length = s.size := by simp
theorem bs_mk (l : List UInt8) : bs ⟨l.toArray⟩ = l := rfl
theorem mk_bs (s : ByteArray) : (⟨(bs s).toArray⟩ : ByteArray) = s := by cases s; simp [bs]
theorem bs_take_succ (s : ByteArray) (k : Nat) (h : k < s.size) : (bs s).take (k + 1) = (bs s).take k ++ [s[k]] := by
  rw [List.take_succ_eq_append_getElem (by simpa using h)]; rfl
theorem bs_take_all (s : ByteArray) (k : Nat) (h : ¬ k < s.size) : (bs s).take k = bs s := List.take_of_length_le (by simp; omega)
theorem byte_lt (c : UInt8) : (c.toNat : Int) ≤ 255 := by have := c.toNat_lt; omega

/-- a byte that stands for itself in an encoded word -/
def plainB (c : Int) : Bool := decide (33 ≤ c ∧ c ≤ 125 ∧ c ≠ 37)
theorem plainB_is (c : Int) : plainB c = (decide (33 ≤ c) && (decide (c ≤ 125) && (c != 37))) := by
  unfold plainB; rw [Bool.eq_iff_iff]; simp
def plainU (c : UInt8) : Bool := plainB (c.toNat : Int)
def hexd (c : UInt8) : UInt8 := if c < 10 then 48 + c else 55 + c
def encB (c : UInt8) : List UInt8 := if plainU c then [c] else [37, hexd (c >>> 4), hexd (c &&& 15)]
def encW (l : List UInt8) : List UInt8 := l.flatMap encB
def wordS (l : List UInt8) : List UInt8 := if l = [] then [126] else encW l

theorem encW_snoc (l : List UInt8) (c : UInt8) : encW (l ++ [c]) = encW l ++ encB c := by simp [encW]
theorem encW_succ (s : ByteArray) (k : Nat) (h : k < s.size) : encW ((bs s).take (k + 1)) = encW ((bs s).take k) ++ encB s[k] := by rw [bs_take_succ s k h, encW_snoc]
theorem encB_len (c : UInt8) : (encB c).length = if plainU c then 1 else 3 := by unfold encB; split <;> rfl
theorem encW_len (l : List UInt8) : (encW l).length ≤ 3 * l.length := by
  induction l with
  | nil => simp [encW]
  | cons a t ih => simp only [encW, List.flatMap_cons, List.length_append, List.length_cons] at *; have := encB_len a; split at this <;> omega
theorem encW_ge (l : List UInt8) : l.length ≤ (encW l).length := by
  induction l with
  | nil => simp [encW]
  | cons a t ih => simp only [encW, List.flatMap_cons, List.length_append, List.length_cons] at *; have := encB_len a; split at this <;> omega
theorem encW_take (l : List UInt8) (k : Nat) : (encW (l.take k)).length ≤ 3 * k := by
  have h1 := encW_len (l.take k)
  have h2 := List.length_take_le k l
  omega
theorem wordS_len (l : List UInt8) : (wordS l).length = max (encW l).length 1 := by
  unfold wordS
  split
  · next h => subst h; rfl
  · next h =>
    have := encW_ge l
    have : l.length ≠ 0 := fun h0 => h (List.eq_nil_of_length_eq_zero h0)
    omega

/-- the encoded form of a line, and of lines -/
def wordsS : List ByteArray → List UInt8
  | [] => []
  | w :: r => 32 :: (wordS (bs w) ++ wordsS r)
def lineS (l : List ByteArray) : List UInt8 := (wordsS l).drop 1 ++ [10]
def encD (ls : List (List ByteArray)) : List UInt8 := ls.flatMap lineS
def lenW (l : List ByteArray) : Nat := (l.map fun w => (wordS (bs w)).length + 1).sum

theorem wordsS_append (a b : List ByteArray) : wordsS (a ++ b) = wordsS a ++ wordsS b := by
  induction a with
  | nil => rfl
  | cons w r ih => simp [wordsS, ih]
theorem wordsS_len (l : List ByteArray) : (wordsS l).length = lenW l := by
  induction l with
  | nil => rfl
  | cons w r ih => simp only [wordsS, lenW, List.length_cons, List.length_append, List.map_cons, List.sum_cons] at *; omega
theorem lineS_len (l : List ByteArray) (h : l ≠ []) : (lineS l).length = lenW l := by
  have := wordsS_len l
  cases l with
  | nil => exact absurd rfl h
  | cons w r => simp only [lineS, List.length_append, List.length_drop, List.length_cons, List.length_nil, wordsS] at *; omega
theorem lenW_snoc (l : List ByteArray) (w : ByteArray) : lenW (l ++ [w]) = lenW l + ((wordS (bs w)).length + 1) := by simp [lenW]
theorem encD_snoc (ls : List (List ByteArray)) (l : List ByteArray) : encD (ls ++ [l]) = encD ls ++ lineS l := by simp [encD]
theorem encD_append (a b : List (List ByteArray)) : encD (a ++ b) = encD a ++ encD b := by simp [encD]

/-- the error of a line, of all lines, of a document -/
def lineE (l : List ByteArray) : Int := if l.length = 0 then 1 else if 120 < l.length then 3 else if l.any (fun w => decide (32768 < w.size)) then 3 else 0
def linesE : List (List ByteArray) → Int
  | [] => 0
  | l :: r => if lineE l ≠ 0 then lineE l else linesE r
def docE (ls : List (List ByteArray)) : Int := if 1000 < ls.length then 3 else if linesE ls ≠ 0 then linesE ls else if 262144 < (encD ls).length then 3 else 0

theorem lineE_range (l : List ByteArray) : lineE l = 0 ∨ lineE l = 1 ∨ lineE l = 3 := by unfold lineE; split <;> (try split) <;> (try split) <;> simp
theorem linesE_range (ls : List (List ByteArray)) : linesE ls = 0 ∨ linesE ls = 1 ∨ linesE ls = 3 := by
  induction ls with
  | nil => exact .inl rfl
  | cons l r ih => unfold linesE; split; exact lineE_range l; exact ih
theorem docE_range (ls : List (List ByteArray)) : docE ls = 0 ∨ docE ls = 1 ∨ docE ls = 3 := by unfold docE; split; simp; split; exact linesE_range ls; split <;> simp
theorem linesE_zero {ls : List (List ByteArray)} : linesE ls = 0 ↔ ∀ l ∈ ls, lineE l = 0 := by
  induction ls with
  | nil => simp [linesE]
  | cons l r ih =>
    unfold linesE
    split
    · next h => constructor <;> intro h2
                · exact absurd h2 h
                · exact absurd (h2 l (by simp)) h
    · next h => rw [ih]; simp at h; simp [h]
theorem linesE_append (a b : List (List ByteArray)) (h : linesE a = 0) : linesE (a ++ b) = linesE b := by
  induction a with
  | nil => rfl
  | cons l r ih =>
    have h0 := (linesE_zero.1 h)
    have h1 : lineE l = 0 := h0 l (by simp)
    have h2 : linesE r = 0 := linesE_zero.2 fun x hx => h0 x (by simp [hx])
    simp [linesE, h1, ih h2]
theorem lineE_zero {l : List ByteArray} (h : lineE l = 0) : 0 < l.length ∧ l.length ≤ 120 ∧ ∀ w ∈ l, w.size ≤ 32768 := by
  unfold lineE at h
  split at h
  · cases h
  · split at h
    · cases h
    · split at h
      · cases h
      · next h1 h2 h3 =>
        refine ⟨by omega, by omega, fun w hw => ?_⟩
        rw [List.any_eq_true] at h3
        rcases Nat.lt_or_ge 32768 w.size with hlt | hge
        · exact absurd ⟨w, hw, by simpa using hlt⟩ h3
        · exact hge
theorem lenW_le {l : List ByteArray} (hw : ∀ w ∈ l, w.size ≤ 32768) : lenW l ≤ 98306 * l.length := by
  induction l with
  | nil => simp [lenW]
  | cons w r ih =>
    have h1 := ih fun x hx => hw x (by simp [hx])
    have h2 := hw w (by simp)
    have h3 := encW_len (bs w)
    have h4 := wordS_len (bs w)
    rw [bs_len] at h3
    simp only [lenW, List.map_cons, List.sum_cons, List.length_cons] at *
    omega
theorem encD_le {ls : List (List ByteArray)} (h : linesE ls = 0) : (encD ls).length ≤ 11796720 * ls.length := by
  induction ls with
  | nil => simp [encD]
  | cons l r ih =>
    have h0 := linesE_zero.1 h
    obtain ⟨h1, h2, h3⟩ := lineE_zero (h0 l (by simp))
    have h4 := ih (linesE_zero.2 fun x hx => h0 x (by simp [hx]))
    have h5 := lineS_len l (by intro he; rw [he] at h1; simp at h1)
    have h6 := lenW_le h3
    simp only [encD, List.flatMap_cons, List.length_append, List.length_cons] at *
    omega

end Go.Adm
set_option linter.unusedSimpArgs false
set_option linter.unusedVariables false
namespace Go.Proofs.YtkcmaembpfakdaaGreatDoor
open Go Go.RowKit Go.Adm

theorem el_u8 : ElemOf Tryz.prog 36 5 (.int .u8 0) 1 1 := ElemOf.mk' Tryz.underlying36 (by kernel_rfl) rfl (by decide) (by decide)

set_option maxHeartbeats 400000 in
theorem plain_any (c : Int) (w : World) (h0 : 0 ≤ c) (h1 : c ≤ 255) :
    Calls Tryz.prog 91 #[.int .u8 c] w fun e w' => e = .returned (.bool (plainB c)) ∧ w = w' := by
  go_enter Tryz.func91, Tryz.ntmps91
  go_wp2
  all_goals go_ret
  all_goals exact ⟨ret_bool (by rw [Bool.eq_iff_iff]; simp [plainB]; try omega), rfl⟩

set_option maxHeartbeats 400000 in
theorem refplain_any (c : Int) (w : World) (h0 : 0 ≤ c) (h1 : c ≤ 255) :
    Calls Tryz.prog 62 #[.int .u8 c] w fun e w' => e = .returned (.bool (plainB c)) ∧ w = w' := by
  go_enter Tryz.func62, Tryz.ntmps62
  go_wp2
  all_goals go_ret
  all_goals exact ⟨ret_bool (by rw [Bool.eq_iff_iff]; simp [plainB]; try omega), rfl⟩

def hexT : ByteArray := ⟨#[48, 49, 50, 51, 52, 53, 54, 55, 56, 57, 65, 66, 67, 68, 69, 70]⟩
theorem hex_fin : ∀ n : Fin 16, hexT[n.val]'(show n.val < 16 from n.isLt) = hexd (UInt8.ofNat n.val) := by decide +kernel
theorem hex_of (i : Int) (n : Nat) (hn : n < 16) (e : i.toNat = n) (h : i.toNat < 16) : (⟨#[48, 49, 50, 51, 52, 53, 54, 55, 56, 57, 65, 66, 67, 68, 69, 70]⟩ : ByteArray)[i.toNat]'h = hexd (UInt8.ofNat n) := by
  subst e
  exact hex_fin ⟨i.toNat, h⟩
theorem hex_div (c : UInt8) (h : ((c.toNat : Int) / 16).toNat < 16) : (⟨#[48, 49, 50, 51, 52, 53, 54, 55, 56, 57, 65, 66, 67, 68, 69, 70]⟩ : ByteArray)[((c.toNat : Int) / 16).toNat]'h = hexd (c >>> 4) := by
  have e : UInt8.ofNat (c.toNat / 16) = c >>> 4 := by
    apply UInt8.toNat_inj.1
    have := c.toNat_lt
    rw [UInt8.toNat_shiftRight, Nat.shiftRight_eq_div_pow]
    simp
    omega
  rw [hex_of _ (c.toNat / 16) (by have := c.toNat_lt; omega) (by omega) h, e]
theorem hex_mod (c : UInt8) (h : ((c.toNat : Int) % 16).toNat < 16) : (⟨#[48, 49, 50, 51, 52, 53, 54, 55, 56, 57, 65, 66, 67, 68, 69, 70]⟩ : ByteArray)[((c.toNat : Int) % 16).toNat]'h = hexd (c &&& 15) := by
  have e : UInt8.ofNat (c.toNat % 16) = c &&& 15 := by
    apply UInt8.toNat_inj.1
    rw [UInt8.toNat_and, show (15 : UInt8).toNat = 2 ^ 4 - 1 from rfl, Nat.and_two_pow_sub_one_eq_mod]
    simp
    omega
  rw [hex_of _ (c.toNat % 16) (by omega) (by omega) h, e]

set_option maxHeartbeats 400000 in
theorem refWord_any (s : ByteArray) (w : World) (hs : s.size ≤ 10000000000) :
    Calls Tryz.prog 47 #[.string s] w fun e w' => e = .returned (.string ⟨(wordS (bs s)).toArray⟩) ∧ Below w.heap.size w w' := by
  have hl := encW_len (bs s)
  rw [bs_len] at hl
  by_cases h0 : bs s = []
  · have hS : wordS (bs s) = [126] := by rw [h0]; rfl
    have hS := Lib.hid hS
    have hem : s.toList.isEmpty = true := by rw [ByteArray.toList_eq, show s.data.toList = [] from h0]; rfl
    clear h0
    go_enter Tryz.func47, Tryz.ntmps47
    go_wp2
    go_ret
    exact ⟨ret_str (by rw [hS.out]), Below.refl _ _⟩
  · have hem : s.toList.isEmpty = false := by rw [ByteArray.toList_eq]; simpa using h0
    have hS : wordS (bs s) = encW (bs s) := by unfold wordS; rw [if_neg h0]
    have hS := Lib.hid hS
    clear h0
    go_enter Tryz.func47, Tryz.ntmps47
    go_wp2
    go_loopw [4, 5] (fun v i wr => ∃ k A c, k ≤ s.size ∧ i = .int .i64 (k : Nat) ∧ v = .slice A (encW ((bs s).take k)).length c ∧ Own wr w.heap.size 5 1 A (encW ((bs s).take k)).length c ((encW ((bs s).take k)).map bv) ∧ Below w.heap.size w wr) (fun _ i _ => s.size - (intOf i).toNat)
    case atStart =>
      exact ⟨0, _, _, Nat.zero_le _, rfl, rfl, Own.nil _ _ _ _, Below.refl _ _⟩
    case round =>
      obtain ⟨k, A, c, hk, rfl, rfl, hown, hbel⟩ := hrel
      have hl := encW_take (bs s) k
      by_cases hlt : k < s.size
      · have hE := encW_succ s k hlt
        have hlE : (encW ((bs s).take (k + 1))).length = (encW ((bs s).take k)).length + (encB s[k]).length := by rw [hE, List.length_append]
        have HE := Lib.hid hE
        have HLE := Lib.hid hlE
        clear hE hlE
        have hb := byte_lt s[k]
        generalize hc : s[k] = c at *
        have HC := Lib.hid hc
        clear hc
        have hsz := hbel.size
        cases hp : plainB c.toNat <;> have HP := Lib.hid hp <;> clear hp
        · go_wp2_with fail
          rw [HC.out]
          refine (refplain_any _ _ (by omega) hb).mono ?_
          rintro e w' ⟨rfl, rfl⟩
          rw [HP.out]
          go_wp2
          have hc1 : encB c = [37, hexd (c >>> 4), hexd (c &&& 15)] := by unfold encB plainU; rw [HP.out]; rfl
          rw [hc1] at HLE HE
          clear hc1
          have q0 : (0 : Int) ≤ (s[k].toNat : Int) / 16 := by omega
          have q1 : (s[k].toNat : Int) / 16 < 16 := by have := byte_lt s[k]; omega
          have q3 : (0 : Int) ≤ (s[k].toNat : Int) % 16 := by omega
          have q4 : (s[k].toNat : Int) % 16 < 16 := by omega
          have q2 := u8_and15 (x := (s[k].toNat : Int)) (by omega) (by have := byte_lt s[k]; omega)
          go_region_law (refine st_app _ el_u8 rfl _ _ rfl w.heap.size _ _ _ _ rfl (hown.alloc _).drew (wr.heap.size + 1) _ 3 3 _ rfl (Rd.lit wr _ _ 3 rfl).drew (by intro u hu; simp at hu; rcases hu with rfl | rfl | rfl <;> rfl) (by omega) (by simp; omega) ?_; intro A' c' w1 hown1 hbel1 _)
          all_goals
            simp only [hex_div, hex_mod] at hown1
            rw [HC.out] at hown1
            go_wp2
            refine ⟨⟨k + 1, A', c', by omega, by go_num, by rw [HLE.out]; rfl, by rw [HLE.out, HE.out, List.map_append]; exact hown1, hbel.trans (((Below.refl _ _).alloc (by omega) _).drew.trans hbel1)⟩, by simp [intOf]; omega⟩
        · go_wp2_with fail
          rw [HC.out]
          refine (refplain_any _ _ (by omega) hb).mono ?_
          rintro e w' ⟨rfl, rfl⟩
          rw [HP.out]
          go_wp2_with (at_builtin; refine wl_app _ el_u8 rfl _ _ rfl w.heap.size _ _ _ _ rfl (hown.alloc _) (wr.heap.size + 1) _ 1 1 [bv s[k]] rfl (Rd.lit wr _ _ 1 rfl) (bv_one [s[k]]) (by omega) (by simp; omega) ?_; intro A' c' w1 hown1 hbel1 _)
          rw [HC.out] at hown1
          have hc1 : encB c = [c] := by unfold encB plainU; rw [HP.out]; rfl
          rw [hc1] at HLE HE
          exact ⟨⟨k + 1, A', c', by omega, by go_num, by rw [HLE.out]; rfl, by rw [HLE.out, HE.out, List.map_append]; exact hown1, hbel.trans ((Below.refl _ _).alloc (by omega) _ |>.trans hbel1)⟩, by simp [intOf]; omega⟩
      · have ht := Lib.hid (bs_take_all s k hlt)
        have hconv := run_conv (P := Tryz.prog) wr 36 9 5 el_u8.ht Tryz.underlying5 Tryz.underlying9 (c := c) (hown.rd)
        go_wp2
        go_ret
        exact ⟨ret_str (by rw [ht.out, hS.out]), hbel⟩
end Go.Proofs.YtkcmaembpfakdaaGreatDoor

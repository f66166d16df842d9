/- Documents decoded, in plain Lean: words and lines found again; what is decoded is the encoded form. A byte found in bytes; bytes cut at the first such byte: the library's functions at a separator of one byte. -/
import Derived.Test.YtkcmaembpfakdaaGreatDoorNumF
import Derived.Test.YtkcmaembpfakdaaGreatDoorNum1
import Derived.Lib.BytesEntry
import Derived.IntWalk
import Derived.Deep.QuietTactic
import Derived.BigQuiet
set_option linter.unusedSimpArgs false
set_option linter.unusedVariables false
set_option maxRecDepth 100000
namespace Go.Adm
open Go Go.RowKit
/-- the parts between the bytes c -/
def splitB (c : UInt8) : List UInt8 → List (List UInt8)
  | [] => [[]]
  | x :: r => if x = c then [] :: splitB c r else match splitB c r with
    | [] => [[x]]
    | p :: ps => (x :: p) :: ps
theorem splitB_ne (c : UInt8) : ∀ l, splitB c l ≠ []
  | [] => by simp [splitB]
  | x :: r => by
    unfold splitB
    split
    · simp
    · split <;> simp
theorem splitB_none {c : UInt8} : ∀ {l : List UInt8}, c ∉ l → splitB c l = [l]
  | [], _ => rfl
  | x :: r, h => by
    rw [List.mem_cons] at h
    have e : splitB c r = [r] := splitB_none (fun hm => h (Or.inr hm))
    unfold splitB
    rw [if_neg (fun e => h (Or.inl e.symm)), e]
theorem splitB_app {c : UInt8} : ∀ {l : List UInt8} (r : List UInt8), c ∉ l → splitB c (l ++ c :: r) = l :: splitB c r
  | [], r, _ => by
    show splitB c (c :: r) = _
    rw [splitB, if_pos rfl]
  | x :: l, r, h => by
    rw [List.mem_cons] at h
    have e : splitB c (l ++ c :: r) = l :: splitB c r := splitB_app r (fun hm => h (Or.inr hm))
    show splitB c (x :: (l ++ c :: r)) = _
    rw [splitB, if_neg (fun e => h (Or.inl e.symm)), e]
theorem splitB_last (c : UInt8) : ∀ l : List UInt8, splitB c (l ++ [c]) = splitB c l ++ [[]]
  | [] => by
    show (if c = c then [] :: splitB c [] else _) = _
    rw [if_pos rfl]; rfl
  | x :: r => by
    show splitB c (x :: (r ++ [c])) = _
    rw [splitB, splitB_last c r]
    by_cases h : x = c
    · rw [if_pos h, splitB, if_pos h]; rfl
    · rw [if_neg h, splitB, if_neg h]
      cases hs : splitB c r with
      | nil => exact absurd hs (splitB_ne c r)
      | cons p ps => rfl
theorem splitB_mem {c : UInt8} : ∀ {l : List UInt8}, ∀ p ∈ splitB c l, c ∉ p
  | [], p, hp => by
    rw [splitB, List.mem_singleton] at hp
    subst hp; simp
  | x :: r, p, hp => by
    unfold splitB at hp
    split at hp
    · rcases List.mem_cons.1 hp with h | h
      · subst h; simp
      · exact splitB_mem p h
    · rename_i hx
      cases hs : splitB c r with
      | nil => exact absurd hs (splitB_ne c r)
      | cons q qs =>
        rw [hs] at hp
        rcases List.mem_cons.1 hp with h | h
        · subst h
          rw [List.mem_cons]
          rintro (h | h)
          · exact hx h.symm
          · exact splitB_mem (l := r) q (by rw [hs]; exact List.mem_cons_self) h
        · exact splitB_mem (l := r) p (by rw [hs]; exact List.mem_cons_of_mem _ h)
/-- the words of parts -/
def wordsO : List (List UInt8) → Option (List ByteArray)
  | [] => some []
  | p :: ps => match unwordS p with
    | none => none
    | some w => (wordsO ps).map (⟨w.toArray⟩ :: ·)
theorem wordsO_app : ∀ (a b : List (List UInt8)), wordsO (a ++ b) = (wordsO a).bind fun x => (wordsO b).map (x ++ ·)
  | [], b => by
    show wordsO b = (wordsO b).map ([] ++ ·)
    cases wordsO b <;> rfl
  | p :: a, b => by
    show wordsO (p :: (a ++ b)) = _
    rw [wordsO, wordsO, wordsO_app a b]
    cases unwordS p with
    | none => rfl
    | some w => cases wordsO a <;> cases wordsO b <;> rfl
theorem wordsO_len : ∀ {ps : List (List UInt8)} {ws : List ByteArray}, wordsO ps = some ws → ws.length = ps.length
  | [], ws, h => by injection h with h; subst h; rfl
  | p :: ps, ws, h => by
    rw [wordsO] at h
    cases hu : unwordS p with
    | none => rw [hu] at h; cases h
    | some w =>
      rw [hu] at h
      obtain ⟨x, hx, rfl⟩ := Option.map_eq_some_iff.1 h
      rw [List.length_cons, List.length_cons, wordsO_len hx]
/-- the words of a line -/
def lineO (l : List UInt8) : Option (List ByteArray) := match wordsO (splitB 32 l) with
  | none => none
  | some ws => if lineE ws = 0 then some ws else none
def linesO : List (List UInt8) → Option (List (List ByteArray))
  | [] => some []
  | p :: ps => match lineO p with
    | none => none
    | some w => (linesO ps).map (w :: ·)
theorem linesO_app : ∀ (a b : List (List UInt8)), linesO (a ++ b) = (linesO a).bind fun x => (linesO b).map (x ++ ·)
  | [], b => by
    show linesO b = (linesO b).map ([] ++ ·)
    cases linesO b <;> rfl
  | p :: a, b => by
    show linesO (p :: (a ++ b)) = _
    rw [linesO, linesO, linesO_app a b]
    cases lineO p with
    | none => rfl
    | some w => cases linesO a <;> cases linesO b <;> rfl
/-- the lines of an encoded document -/
def decO (b : List UInt8) : Option (List (List ByteArray)) := if (splitB 10 b).getLast (splitB_ne 10 b) = [] then linesO (splitB 10 b).dropLast else none
theorem decO_nil : decO [] = some [] := rfl
theorem decO_line {l r : List UInt8} (h : 10 ∉ l) : decO (l ++ 10 :: r) = (lineO l).bind fun ws => (decO r).map (ws :: ·) := by
  have e := splitB_app (c := 10) r h
  have hn := splitB_ne 10 r
  have e1 : (splitB 10 (l ++ 10 :: r)).dropLast = l :: (splitB 10 r).dropLast := by
    rw [e]
    cases hs : splitB 10 r with
    | nil => exact absurd hs hn
    | cons p ps => rfl
  have e2 : (splitB 10 (l ++ 10 :: r)).getLast (splitB_ne _ _) = (splitB 10 r).getLast hn := by
    have : (l :: splitB 10 r).getLast (by simp) = (splitB 10 r).getLast hn := List.getLast_cons hn
    simp only [e]
    exact this
  unfold decO
  rw [e1, e2, linesO]
  split
  · cases lineO l <;> rfl
  · cases lineO l <;> rfl
theorem decO_open {b : List UInt8} (h : 10 ∉ b) (h0 : b ≠ []) : decO b = none := by
  have e := splitB_none h
  have e2 : (splitB 10 b).getLast (splitB_ne _ _) = b := by simp only [e]; rfl
  unfold decO
  rw [e2, if_neg h0]
/-- what Decode returns: lines and error -/
def decR (b : List UInt8) : List (List ByteArray) × Int :=
  if 262144 < b.length then ([], 3) else match decO b with
    | none => ([], 2)
    | some ls => if 1000 < ls.length then ([], 2) else (ls, 0)
theorem decR_long {b : List UInt8} (h : 262144 < b.length) : decR b = ([], 3) := by unfold decR; rw [if_pos h]
theorem decR_none {b : List UInt8} (h : ¬ 262144 < b.length) (h2 : decO b = none) : decR b = ([], 2) := by unfold decR; rw [if_neg h, h2]
theorem decR_many {b : List UInt8} {ls : List (List ByteArray)} (h : ¬ 262144 < b.length) (h2 : decO b = some ls) (h3 : 1000 < ls.length) : decR b = ([], 2) := by
  unfold decR; rw [if_neg h, h2]; exact if_pos h3
theorem decR_ok {b : List UInt8} {ls : List (List ByteArray)} (h : ¬ 262144 < b.length) (h2 : decO b = some ls) (h3 : ¬ 1000 < ls.length) : decR b = (ls, 0) := by
  unfold decR; rw [if_neg h, h2]; exact if_neg h3
/-! ### back to the encoded form -/
theorem hexd_back : ∀ m : Fin 256, (match hexv (UInt8.ofNat m.val) with | some n => decide (hexd (UInt8.ofNat n) = UInt8.ofNat m.val) | none => true) = true := by decide +kernel
theorem enc_hex {x y : UInt8} {a b : Nat} (hx : hexv x = some a) (hy : hexv y = some b) (hp : plainU (UInt8.ofNat (16 * a + b)) = false) : encB (UInt8.ofNat (16 * a + b)) = [37, x, y] := by
  have key : ∀ c : UInt8, ∀ n, hexv c = some n → hexd (UInt8.ofNat n) = c := by
    intro c n h
    have : ∀ m : Fin 256, ∀ n, hexv (UInt8.ofNat m.val) = some n → hexd (UInt8.ofNat n) = UInt8.ofNat m.val := by
      intro m n h
      have h1 := hexd_back m
      rw [h] at h1
      exact of_decide_eq_true h1
    have h2 := this ⟨c.toNat, c.toNat_lt⟩ n (by simpa using h)
    simpa using h2
  have ha := hexv_lt hx
  have hb := hexv_lt hy
  have e1 : (UInt8.ofNat (16 * a + b)) >>> 4 = UInt8.ofNat a := by
    apply UInt8.toNat_inj.1
    rw [UInt8.toNat_shiftRight, Nat.shiftRight_eq_div_pow]
    simp
    omega
  have e2 : (UInt8.ofNat (16 * a + b)) &&& 15 = UInt8.ofNat b := by
    apply UInt8.toNat_inj.1
    rw [UInt8.toNat_and, show (15 : UInt8).toNat = 2 ^ 4 - 1 from rfl, Nat.and_two_pow_sub_one_eq_mod]
    simp
    omega
  unfold encB
  rw [hp, e1, e2, key x a hx, key y b hy]
  rfl
theorem unw_enc : ∀ (n : Nat) {l w : List UInt8}, l.length ≤ n → unw l = some w → encW w = l
  | _, [], w, _, h => by
    rw [unw] at h
    injection h with h
    subst h; rfl
  | n + 1, c :: r, w, hn, h => by
    have hn' : r.length ≤ n := by simpa using hn
    by_cases hp : plainU c = true
    · rw [unw_plain c r hp] at h
      obtain ⟨x, hx, rfl⟩ := Option.map_eq_some_iff.1 h
      show encB c ++ encW x = _
      rw [unw_enc n hn' hx]
      unfold encB
      rw [hp]; rfl
    · have hp' : plainU c = false := by simpa using hp
      by_cases hc : c = 37
      · subst hc
        match r, hn', h with
        | [], _, h => rw [unw_short [] (by simp)] at h; cases h
        | [x], _, h => rw [unw_short [x] (by simp)] at h; cases h
        | x :: y :: t, hn', h =>
          cases hx : hexv x with
          | none => rw [unw_bad x y t (Or.inl hx)] at h; cases h
          | some a =>
            cases hy : hexv y with
            | none => rw [unw_bad x y t (Or.inr hy)] at h; cases h
            | some b =>
              cases hq : plainU (UInt8.ofNat (16 * a + b)) with
              | true => rw [unw_stands x y t a b hx hy hq] at h; cases h
              | false =>
                rw [unw_hex x y t a b hx hy hq] at h
                obtain ⟨z, hz, rfl⟩ := Option.map_eq_some_iff.1 h
                show encB _ ++ encW z = _
                have hl : t.length ≤ n := by simp at hn'; omega
                rw [unw_enc n hl hz, enc_hex hx hy hq]
                rfl
      · rw [unw_odd c r hp' hc] at h; cases h
theorem unwordS_enc {l w : List UInt8} (h : unwordS l = some w) : wordS w = l := by
  unfold unwordS at h
  split at h
  · rename_i e
    injection h with h
    subst h e; rfl
  · split at h
    · cases h
    · rename_i h1 h2
      have e := unw_enc l.length (Nat.le_refl _) h
      unfold wordS
      split
      · rename_i hw
        subst hw
        exact absurd e.symm h2
      · exact e
theorem mk_data (l : List UInt8) : bs (⟨l.toArray⟩ : ByteArray) = l := rfl
/-- parts put together -/
def glue (c : UInt8) (ps : List (List UInt8)) : List UInt8 := (ps.flatMap fun p => c :: p).drop 1
theorem glue_split (c : UInt8) : ∀ l, (splitB c l).flatMap (fun p => c :: p) = c :: l
  | [] => rfl
  | x :: r => by
    rw [splitB]
    by_cases h : x = c
    · rw [if_pos h, List.flatMap_cons, glue_split c r, h]; rfl
    · rw [if_neg h]
      have := glue_split c r
      cases hs : splitB c r with
      | nil => exact absurd hs (splitB_ne c r)
      | cons p ps =>
        rw [hs, List.flatMap_cons] at this
        show ((x :: p) :: ps).flatMap _ = _
        rw [List.flatMap_cons]
        have e : p ++ ps.flatMap (fun p => c :: p) = r := by simpa using this
        show c :: (x :: p) ++ _ = _
        simp [e]
theorem wordsO_enc : ∀ {ps : List (List UInt8)} {ws : List ByteArray}, wordsO ps = some ws → wordsS ws = ps.flatMap (fun p => 32 :: p)
  | [], ws, h => by injection h with h; subst h; rfl
  | p :: ps, ws, h => by
    rw [wordsO] at h
    cases hu : unwordS p with
    | none => rw [hu] at h; cases h
    | some w =>
      rw [hu] at h
      obtain ⟨x, hx, rfl⟩ := Option.map_eq_some_iff.1 h
      rw [wordsS, mk_data, unwordS_enc hu, wordsO_enc hx, List.flatMap_cons]
      rfl
theorem lineO_enc {l : List UInt8} {ws : List ByteArray} (h : lineO l = some ws) : lineS ws = l ++ [10] ∧ lineE ws = 0 := by
  unfold lineO at h
  cases hw : wordsO (splitB 32 l) with
  | none => rw [hw] at h; cases h
  | some x =>
    rw [hw] at h
    by_cases he : lineE x = 0
    · simp only [he, if_true] at h
      injection h with h
      subst h
      refine ⟨?_, he⟩
      rw [lineS, wordsO_enc hw, glue_split]; rfl
    · simp only [he, if_false] at h
      cases h
theorem linesO_enc : ∀ {ps : List (List UInt8)} {ls : List (List ByteArray)}, linesO ps = some ls → encD ls = ps.flatMap (fun p => p ++ [10]) ∧ linesE ls = 0
  | [], ls, h => by injection h with h; subst h; exact ⟨rfl, rfl⟩
  | p :: ps, ls, h => by
    rw [linesO] at h
    cases hu : lineO p with
    | none => rw [hu] at h; cases h
    | some w =>
      rw [hu] at h
      obtain ⟨x, hx, rfl⟩ := Option.map_eq_some_iff.1 h
      obtain ⟨h1, h2⟩ := lineO_enc hu
      obtain ⟨h3, h4⟩ := linesO_enc hx
      refine ⟨?_, ?_⟩
      · show lineS w ++ encD x = _
        rw [h1, h3, List.flatMap_cons]
      · rw [linesE, h2]; simpa using h4
theorem glue_lines (c : UInt8) : ∀ l, (splitB c l).getLast (splitB_ne c l) = [] → (splitB c l).dropLast.flatMap (fun p => p ++ [c]) = l
  | [], _ => rfl
  | x :: r, h => by
    by_cases hx : x = c
    · have e : splitB c (x :: r) = [] :: splitB c r := by rw [splitB, if_pos hx]
      have e1 : (splitB c (x :: r)).dropLast = [] :: (splitB c r).dropLast := by
        rw [e]
        cases hs : splitB c r with
        | nil => exact absurd hs (splitB_ne c r)
        | cons p ps => rfl
      have e2 : (splitB c (x :: r)).getLast (splitB_ne _ _) = (splitB c r).getLast (splitB_ne c r) := by
        simp only [e]; exact List.getLast_cons _
      rw [e2] at h
      rw [e1, List.flatMap_cons, glue_lines c r h, hx]; rfl
    · cases hs : splitB c r with
      | nil => exact absurd hs (splitB_ne c r)
      | cons p ps =>
        have e : splitB c (x :: r) = (x :: p) :: ps := by rw [splitB, if_neg hx, hs]
        cases ps with
        | nil =>
          have : (splitB c (x :: r)).getLast (splitB_ne _ _) = x :: p := by simp only [e]; rfl
          rw [this] at h; cases h
        | cons q qs =>
          have e2 : (splitB c (x :: r)).getLast (splitB_ne _ _) = (splitB c r).getLast (splitB_ne c r) := by
            simp only [e, hs]; rfl
          rw [e2] at h
          have ih := glue_lines c r h
          rw [hs] at ih
          rw [e]
          show ((x :: p) :: (q :: qs).dropLast).flatMap _ = _
          rw [List.flatMap_cons]
          have ih' : (p :: (q :: qs).dropLast).flatMap (fun p => p ++ [c]) = r := ih
          rw [List.flatMap_cons] at ih'
          show (x :: p) ++ [c] ++ _ = x :: r
          rw [List.cons_append, List.cons_append, ih']
theorem decO_enc {b : List UInt8} {ls : List (List ByteArray)} (h : decO b = some ls) : encD ls = b ∧ linesE ls = 0 := by
  unfold decO at h
  split at h
  · rename_i hl
    obtain ⟨h1, h2⟩ := linesO_enc h
    exact ⟨by rw [h1, glue_lines 10 b hl], h2⟩
  · cases h
/-! ### from the encoded form -/
theorem wordS_no (w : List UInt8) (c : UInt8) (hc : c.toNat < 33) : c ∉ wordS w := fun h => by
  have := (wordS_range w c h).1
  omega
theorem split_words : ∀ (l : List ByteArray) (w : ByteArray), splitB 32 (wordS (bs w) ++ wordsS l) = (w :: l).map fun x => wordS (bs x)
  | [], w => by
    rw [show wordsS [] = [] from rfl, List.append_nil, splitB_none (wordS_no _ 32 (by decide))]; rfl
  | x :: l, w => by
    rw [wordsS, splitB_app _ (wordS_no _ 32 (by decide)), split_words l x]; rfl
theorem wordsO_words : ∀ l : List ByteArray, wordsO (l.map fun x => wordS (bs x)) = some l
  | [] => rfl
  | w :: l => by
    rw [List.map_cons, wordsO, unwordS_wordS, wordsO_words l]
    show some (_ :: l) = _
    rw [mk_bs]
theorem lineO_line {l : List ByteArray} (h : lineE l = 0) : lineO ((wordsS l).drop 1) = some l := by
  cases l with
  | nil => cases h
  | cons w l =>
    have e : (wordsS (w :: l)).drop 1 = wordS (bs w) ++ wordsS l := rfl
    rw [e, lineO, split_words, wordsO_words]
    simp only [h, if_true]
theorem line_no {l : List ByteArray} : 10 ∉ wordsS l := by
  induction l with
  | nil => simp [wordsS]
  | cons w l ih =>
    rw [wordsS, List.mem_cons, List.mem_append]
    rintro (h | h | h)
    · cases h
    · exact wordS_no _ 10 (by decide) h
    · exact ih h
theorem decO_doc : ∀ {ls : List (List ByteArray)}, linesE ls = 0 → decO (encD ls) = some ls
  | [], _ => rfl
  | l :: ls, h => by
    have h1 := linesE_zero.1 h
    have h2 : linesE ls = 0 := linesE_zero.2 fun x hx => h1 x (List.mem_cons_of_mem _ hx)
    have e : encD (l :: ls) = (wordsS l).drop 1 ++ 10 :: encD ls := by
      show lineS l ++ encD ls = _
      rw [lineS, List.append_assoc]; rfl
    rw [e, decO_line (fun hm => line_no (List.mem_of_mem_drop hm)), lineO_line (h1 l List.mem_cons_self), decO_doc h2]
    rfl
end Go.Adm
set_option linter.unusedSimpArgs false
set_option linter.unusedVariables false
set_option maxRecDepth 100000
namespace Go.Adm
open Go Go.RowKit
theorem bytesOf_nat' (x : List UInt8) : Lib.bytesOf (x.map fun b => (b.toNat : Int)) = x := by
  unfold Lib.bytesOf
  rw [List.map_map]
  conv => rhs; rw [← List.map_id x]
  apply List.map_congr_left
  intro b _
  simp
theorem run_loadB {P : Program} {w : World} {d : Addr} {z : List UInt8} (h : ∀ j u, (z.map bv)[j]? = some u → w.cell? (d.add j) = some u) : (Extern.Bytes.loadBytes d z.length .empty).run P w = .ok ⟨z.toArray⟩ w := by
  have h1 := Lib.run_loadBytesX (P := P) w (z.map fun b => (b.toNat : Int)) d .empty (fun j u hu => by
    refine h j _ ?_
    rw [List.getElem?_map] at hu ⊢
    cases hz : z[j]? with
    | none => rw [hz] at hu; cases hu
    | some v => rw [hz] at hu; injection hu with hu; rw [← hu]; rfl)
  rw [List.length_map, bytesOf_nat'] at h1
  rw [h1]
  congr 1
  apply ByteArray.ext
  show (#[] : Array UInt8) ++ z.toArray = z.toArray
  simp
theorem run_ixByte {P : Program} {w : World} {B n c : Nat} {A : Option Addr} {l : List UInt8} (h : Rd w B 1 A n (l.map bv)) (x : UInt8) : (Extern.BytealgIndexByte.indexByte #[.slice A n c, .int .u8 x.toNat]).run P w = .ok (.int .i64 (Lib.indexByte l x)) w := by
  have hl : l.length = n := by simpa using h.len
  subst hl
  have hx : ((x.toNat : Int)).toNat.toUInt8 = x := by simp
  cases A with
  | none =>
    have h0 : l = [] := by
      cases l with
      | nil => rfl
      | cons y r => obtain ⟨ad, e, _⟩ := h.at_ (by simp); cases e
    subst h0
    exact Lib.run_indexByteNil w _ _ _
  | some a =>
    have hc : ∀ j u, (l.map bv)[j]? = some u → w.cell? (a.add j) = some u := by
      rcases Nat.eq_zero_or_pos l.length with h0 | h0
      · have : l = [] := List.eq_nil_of_length_eq_zero h0
        subst this
        intro j u hu; simp at hu
      · obtain ⟨ad, e, _, hc⟩ := h.at_ h0
        injection e with e; subst e; exact hc
    have hb := run_loadB (P := P) hc
    have hs := Lib.run_indexByteString (P := P) ⟨l.toArray⟩ (x.toNat : Int) w
    rw [hx] at hs
    change Sem.run P (do
      let b ← Extern.Bytes.bytesOf (.slice (some a) l.length c)
      let c ← Extern.Bytes.asByte (.int .u8 x.toNat)
      match (List.range b.size).find? fun i => b[i]! == c with
      | some i => pure (goInt i)
      | none => pure (goInt (-1))) w = _
    change Sem.run P (do
      let b ← Extern.Bytes.bytesOf (.string ⟨l.toArray⟩)
      let c ← Extern.Bytes.asByte (.int .u8 x.toNat)
      match (List.range b.size).find? fun i => b[i]! == c with
      | some i => pure (goInt i)
      | none => pure (goInt (-1))) w = _ at hs
    simp only [Extern.Bytes.bytesOf, Sem.run_bind, Sem.run_pure, hb, Result.andThen] at hs ⊢
    exact hs
theorem ix_none {c : UInt8} : ∀ {l : List UInt8}, c ∉ l → Lib.indexByte l c = -1
  | [], _ => rfl
  | x :: l, h => by
    rw [List.mem_cons] at h
    have h1 : (x == c) = false := by
      rw [beq_eq_false_iff_ne]
      intro e; exact h (Or.inl e.symm)
    rw [Lib.indexByte, if_neg (by rw [h1]; decide), ix_none (fun hm => h (Or.inr hm))]
    rfl
theorem ix_some {c : UInt8} : ∀ {l : List UInt8}, c ∈ l → ∃ i : Nat, Lib.indexByte l c = i ∧ i < l.length ∧ c ∉ l.take i ∧ l = l.take i ++ c :: l.drop (i + 1)
  | x :: l, h => by
    by_cases e : x = c
    · subst e
      exact ⟨0, by rw [Lib.indexByte, if_pos (by simp)]; rfl, by simp, by simp, by simp⟩
    · have hm : c ∈ l := by
        rcases List.mem_cons.1 h with h | h
        · exact absurd h.symm e
        · exact h
      obtain ⟨i, h1, h2, h3, h4⟩ := ix_some hm
      have hb : (x == c) = false := by rw [beq_eq_false_iff_ne]; exact e
      refine ⟨i + 1, ?_, by simp; omega, ?_, ?_⟩
      · rw [Lib.indexByte, if_neg (by rw [hb]; decide), h1]
        have : ((i : Int) == -1) = false := by rw [beq_eq_false_iff_ne]; omega
        rw [if_neg (by rw [this]; decide)]
        omega
      · rw [List.take_succ_cons, List.mem_cons]
        rintro (h | h)
        · exact e h.symm
        · exact h3 h
      · rw [List.take_succ_cons, List.drop_succ_cons]
        show x :: l = x :: (l.take i ++ c :: l.drop (i + 1))
        rw [← h4]
end Go.Adm
namespace Go.Proofs.YtkcmaembpfakdaaGreatDoor
open Go Go.RowKit Go.Adm

theorem bytesIndexByte_any (w : World) (B n c : Nat) (A : Option Addr) (l : List UInt8) (x : UInt8) (h : Rd w B 1 A n (l.map bv)) :
    Calls Tryz.prog 105 #[.slice A n c, .int .u8 x.toNat] w fun e w' => e = .returned (.int .i64 (Lib.indexByte l x)) ∧ w = w' := by
  have hrun := run_ixByte (P := Tryz.prog) (c := c) h x
  clear h
  go_enter Tryz.func105, Tryz.ntmps105
  go_wp2_with fail
  rw [run_callFunc_extern Tryz.func118 (by kernel_rfl) (by kernel_rfl) (by kernel_rfl) (e := Extern.BytealgIndexByte.indexByte) (by kernel_rfl), hrun]
  simp only [Result.andThen]
  rw [Oper.upon_value]
  go_wp2
  go_ret
  exact ⟨rfl, rfl⟩

theorem bytesIndex1_any (w : World) (B n c c1 : Nat) (A : Option Addr) (a1 : Addr) (l : List UInt8) (x : UInt8) (h : Rd w B 1 A n (l.map bv)) (hx : w.cell? a1 = some (bv x)) :
    Calls Tryz.prog 89 #[.slice A n c, .slice (some a1) 1 c1] w fun e w' => e = .returned (.int .i64 (Lib.indexByte l x)) ∧ w = w' := by
  have hib := bytesIndexByte_any w B n c A l x h
  have hx' : w.cell? a1 = some (.int .u8 x.toNat) := hx
  clear h hx
  go_enter Tryz.func89, Tryz.ntmps89
  go_wp2_with fail
  refine hib.mono ?_
  clear hib
  rintro e w1 ⟨rfl, rfl⟩
  go_wp2_with fail
  go_ret
  exact ⟨rfl, rfl⟩

theorem bytesCut1_none (w : World) (B n c c1 : Nat) (A : Option Addr) (a1 : Addr) (l : List UInt8) (x : UInt8) (h : Rd w B 1 A n (l.map bv)) (hx : w.cell? a1 = some (bv x)) (hm : x ∉ l) :
    Calls Tryz.prog 64 #[.slice A n c, .slice (some a1) 1 c1] w fun e w' => e = .returned (.tuple #[.slice A n c, .slice none 0 0, .bool false]) ∧ ∃ k, w' = w.drewN k := by
  have hib := bytesIndex1_any w B n c c1 A a1 l x h hx
  rw [ix_none hm] at hib
  clear h hx hm
  go_enter Tryz.func64, Tryz.ntmps64
  go_wp2_with fail
  refine hib.mono ?_
  clear hib
  rintro e w1 ⟨rfl, rfl⟩
  go_wp2_with fail
  refine bodyPost_ret (v := .tuple #[.slice A n c, .slice none 0 0, .bool false]) (by simp [results, Tryz.results64, go_sem]) rfl ⟨rfl, 0, rfl⟩
theorem bytesCut1_some (w : World) (B n c c1 i : Nat) (A : Option Addr) (a1 : Addr) (l : List UInt8) (x : UInt8) (h : Rd w B 1 A n (l.map bv)) (hx : w.cell? a1 = some (bv x)) (hi : Lib.indexByte l x = i) (hin : i < n) (hnc : n ≤ c) (hcm : c ≤ maxLen) :
    Calls Tryz.prog 64 #[.slice A n c, .slice (some a1) 1 c1] w fun e w' => ∃ A2 c2, e = .returned (.tuple #[.slice A i c, .slice A2 (n - (i + 1)) c2, .bool true]) ∧ n - (i + 1) ≤ c2 ∧ c2 ≤ c ∧ Rd w B 1 A i ((l.take i).map bv) ∧ Rd w B 1 A2 (n - (i + 1)) ((l.drop (i + 1)).map bv) ∧ ∃ k, w' = w.drewN k := by
  have hib := bytesIndex1_any w B n c c1 A a1 l x h hx
  rw [hi] at hib
  have hcm' : c ≤ 9223372036854775807 := hcm
  have H := Lib.hid h
  clear h hx hi hcm
  go_enter Tryz.func64, Tryz.ntmps64
  go_wp2_with fail
  refine hib.mono ?_
  clear hib
  rintro e w1 ⟨rfl, rfl⟩
  have i0 : (0 : Int) ≤ (i : Int) := by omega
  have i1 : (i : Int) ≤ (n : Int) := by omega
  have i2 : (i : Int) ≤ (c : Int) := by omega
  have i3 : ((i : Int)).toNat = i := by omega
  have w1 : IntKind.i64.wrap ((i : Int) + 1) = (i : Int) + 1 := by rw [IntWalk.i64_in _ (by omega)]
  have i4 : (0 : Int) ≤ (i : Int) + 1 := by omega
  have i5 : (i : Int) + 1 ≤ (n : Int) := by omega
  have i6 : ((i : Int) + 1).toNat = i + 1 := by omega
  obtain ⟨ad, rfl, -, -⟩ := H.out.at_ (by omega)
  have HE : Hid (ad.add (i + 1) = ⟨ad.block, ad.off + (i + 1), none⟩) := Lib.hid rfl
  by_cases hci : c = i + 1
  · have hni : n = i + 1 := by omega
    subst hci
    obtain rfl : n = i + 1 := hni
    go_wp2_with fail
    go_quiet (fail)
    go_wp2
    refine bodyPost_ret (v := .tuple #[.slice (some ad) i (i + 1), .slice (some ad) 0 0, .bool true]) (by simp [results, Tryz.results64, go_sem]) rfl ⟨some ad, 0, by simp, by omega, by omega, H.out.take (k := i) (by omega) |> fun h => by simpa [List.map_take] using h, ?_, _, rfl⟩
    have h0 : (l.drop (i + 1)) = [] := List.drop_of_length_le (by have := H.out.len; simp at this; omega)
    rw [h0]
    simpa using (Rd.nil (w := w) (B := B) (size := 1) (A := some ad))
  · have hni : i + 1 < c := by omega
    have hci' : ¬ (c = i + 1) := hci
    go_wp2_with fail
    go_quiet (fail)
    go_wp2
    have hcut := H.out.cut (k := i + 1) (cap := c) (by omega) hnc
    rw [if_neg hci', Nat.mul_one] at hcut
    have hcut2 : Rd w B 1 (some ⟨ad.block, ad.off + (i + 1), none⟩) (n - (i + 1)) ((l.drop (i + 1)).map bv) := by rw [← HE.out, List.map_drop]; exact hcut
    have htk : Rd w B 1 (some ad) i ((l.take i).map bv) := by
      have := H.out.take (k := i) (by omega)
      rw [Nat.mul_one] at this
      rwa [List.map_take]
    refine bodyPost_ret (v := .tuple #[.slice (some ad) i c, .slice (some ⟨ad.block, ad.off + (i + 1), none⟩) (n - (i + 1)) (c - (i + 1)), .bool true]) (by simp [results, Tryz.results64, go_sem]) rfl ⟨_, _, rfl, by omega, by omega, htk, hcut2, _, rfl⟩
end Go.Proofs.YtkcmaembpfakdaaGreatDoor

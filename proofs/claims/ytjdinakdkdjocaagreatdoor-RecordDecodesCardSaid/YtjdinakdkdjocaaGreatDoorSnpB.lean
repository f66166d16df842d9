/- Snapshots and changes in plain Lean: the merge of two lists, Diff, Apply, Invert, Compose, and their laws. Composition of changes in plain Lean: the changes from a to b followed by those from b to c are those from a to c. Entries and changes in memory: their cells, the element types, zero values, literals, equality. The creation of a snapshot; the inversion's loop. strings.Cut at a slash; pattern.Path. Valid and changes. -/
import Derived.Test.YtjdinakdkdjocaaGreatDoorGen2
import Derived.Laws.Cover1
import Derived.Deep.Cut
import Derived.IntWalk
import Derived.Deep.QuietTactic
import Derived.BigQuiet
import Derived.Deep.RegionHeld3
import Derived.Lib.Bytealg
import Derived.Test.YtjdinakdkdjocaaGreatDoorFreA
set_option linter.unusedSimpArgs false
set_option linter.unusedVariables false
set_option linter.unusedSectionVars false
namespace Go.Adm
open Go Go.RowKit

structure Ent (K D : Type) where
  p : K
  d : D
structure Chg (K D : Type) where
  p : K
  o : D
  n : D
structure Sto {K : Type} (lt : K → K → Bool) : Prop where
  irr : ∀ a, lt a a = false
  tr : ∀ a b c, lt a b = true → lt b c = true → lt a c = true
  tot : ∀ a b, a ≠ b → lt a b = true ∨ lt b a = true
section
variable {K D : Type} (lt : K → K → Bool) (z : D) [DecidableEq D]
theorem Sto.asym {lt : K → K → Bool} (h : Sto lt) {a b : K} (hab : lt a b = true) : lt b a = false := by
  cases hq : lt b a with
  | false => rfl
  | true => have := h.tr _ _ _ hab hq; rw [h.irr] at this; cases this
theorem Sto.eq {lt : K → K → Bool} (h : Sto lt) {a b : K} (h1 : lt a b = false) (h2 : lt b a = false) : a = b := by
  by_cases e : a = b
  · exact e
  · rcases h.tot a b e with h3 | h3
    · rw [h1] at h3; cases h3
    · rw [h2] at h3; cases h3
def both (lt : K → K → Bool) : List (Chg K D) → List (Chg K D) → List (Option (Chg K D) × Option (Chg K D))
  | [], [] => []
  | x :: a, [] => (some x, none) :: both lt a []
  | [], y :: b => (none, some y) :: both lt [] b
  | x :: a, y :: b => if lt x.p y.p then (some x, none) :: both lt a (y :: b) else if lt y.p x.p then (none, some y) :: both lt (x :: a) b else (some x, some y) :: both lt a b
  termination_by a b => a.length + b.length
theorem both_nil : both (D := D) lt [] [] = [] := by rw [both]
theorem both_l (x : Chg K D) (a : List (Chg K D)) (b : List (Chg K D)) (h : ∀ y ∈ b.head?, lt x.p y.p = true) : both lt (x :: a) b = (some x, none) :: both lt a b := by
  cases b with
  | nil => rw [both]
  | cons y b => rw [both, if_pos (h y (by simp))]
theorem both_r (hs : Sto lt) (y : Chg K D) (a : List (Chg K D)) (b : List (Chg K D)) (h : ∀ x ∈ a.head?, lt y.p x.p = true) : both lt a (y :: b) = (none, some y) :: both lt a b := by
  cases a with
  | nil => rw [both]
  | cons x a =>
    have h1 := h x (by simp)
    have h2 := hs.asym h1
    rw [both, if_neg (by rw [h2]; decide), if_pos h1]
theorem both_e (hs : Sto lt) (x y : Chg K D) (a b : List (Chg K D)) (h : x.p = y.p) : both lt (x :: a) (y :: b) = (some x, some y) :: both lt a b := by
  rw [both, if_neg (by rw [h, hs.irr]; decide), if_neg (by rw [h, hs.irr]; decide)]
/-- steps that may fail; what each gives is collected -/
def runS {α β : Type} (f : α → Option (Option β)) : List α → Option (List β)
  | [] => some []
  | q :: r => match f q with
    | none => none
    | some e => (runS f r).map (e.toList ++ ·)
theorem runS_cons {α β : Type} (f : α → Option (Option β)) (q : α) (r : List α) {e : Option β} {l : List β} (h : f q = some e) (hr : runS f r = some l) : runS f (q :: r) = some (e.toList ++ l) := by
  simp [runS, h, hr]
theorem runS_c0 {α β : Type} {f : α → Option (Option β)} {q : α} {r : List α} {l : List β} (h : f q = some none) (hr : runS f r = some l) : runS f (q :: r) = some l := by
  simp [runS, h, hr]
theorem runS_c1 {α β : Type} {f : α → Option (Option β)} {q : α} {r : List α} {e : β} {l : List β} (h : f q = some (some e)) (hr : runS f r = some l) : runS f (q :: r) = some (e :: l) := by
  simp [runS, h, hr]
theorem runS_snoc {α β : Type} (f : α → Option (Option β)) : ∀ (r : List α) (q : α) {l : List β}, runS f r = some l → runS f (r ++ [q]) = (f q).map fun e => l ++ e.toList
  | [], q, l, h => by
    simp only [runS, Option.some.injEq] at h
    subst h
    cases hq : f q <;> simp [runS, hq]
  | p :: r, q, l, h => by
    simp only [runS] at h
    cases hp : f p with
    | none => rw [hp] at h; cases h
    | some e =>
      rw [hp] at h
      cases hr : runS f r with
      | none => simp [hr] at h
      | some m =>
        simp only [hr, Option.map_some, Option.some.injEq] at h
        subst h
        have := runS_snoc f r q hr
        simp only [List.cons_append, runS, hp, this]
        cases f q <;> simp
theorem runS_prefix {α β : Type} (f : α → Option (Option β)) : ∀ (r s : List α), runS f r = none → runS f (r ++ s) = none
  | [], s, h => by simp [runS] at h
  | p :: r, s, h => by
    simp only [List.cons_append, runS] at h ⊢
    cases hp : f p with
    | none => rfl
    | some e =>
      rw [hp] at h
      have : runS f r = none := by
        cases hr : runS f r with
        | none => rfl
        | some m => simp [hr] at h
      simp [runS_prefix f r s this]
def difF : Option (Chg K D) × Option (Chg K D) → Option (Option (Chg K D))
  | (some x, none) => some (some ⟨x.p, x.n, z⟩)
  | (none, some y) => some (some y)
  | (some x, some y) => if x.n = y.n then some none else some (some ⟨x.p, x.n, y.n⟩)
  | (none, none) => some none
def appF : Option (Chg K D) × Option (Chg K D) → Option (Option (Ent K D))
  | (some x, none) => if x.n = z then some none else some (some ⟨x.p, x.n⟩)
  | (none, some y) => if y.o = z then (if y.n = z then some none else some (some ⟨y.p, y.n⟩)) else none
  | (some x, some y) => if y.o = x.n then (if y.n = z then some none else some (some ⟨y.p, y.n⟩)) else none
  | (none, none) => some none
def compF : Option (Chg K D) × Option (Chg K D) → Option (Option (Chg K D))
  | (some x, none) => some (some x)
  | (none, some y) => some (some y)
  | (some x, some y) => if x.n = y.o then (if x.o = y.n then some none else some (some ⟨x.p, x.o, y.n⟩)) else none
  | (none, none) => some none
def cre (x : Ent K D) : Chg K D := ⟨x.p, z, x.d⟩
def invC (x : Chg K D) : Chg K D := ⟨x.p, x.n, x.o⟩
/-- Diff, by recursion -/
def diff (lt : K → K → Bool) (z : D) : List (Ent K D) → List (Ent K D) → List (Chg K D)
  | [], [] => []
  | x :: a, [] => ⟨x.p, x.d, z⟩ :: diff lt z a []
  | [], y :: b => ⟨y.p, z, y.d⟩ :: diff lt z [] b
  | x :: a, y :: b => if lt x.p y.p then ⟨x.p, x.d, z⟩ :: diff lt z a (y :: b) else if lt y.p x.p then ⟨y.p, z, y.d⟩ :: diff lt z (x :: a) b else if x.d = y.d then diff lt z a b else ⟨x.p, x.d, y.d⟩ :: diff lt z a b
  termination_by a b => a.length + b.length
theorem diff_run (a b : List (Ent K D)) : runS (difF z) (both lt (a.map (cre z)) (b.map (cre z))) = some (diff lt z a b) := by
  induction a, b using diff.induct (K := K) (D := D) lt with
  | case1 => rw [List.map_nil, both, diff]; rfl
  | case2 x a ih => rw [diff, List.map_cons, List.map_nil, both]; exact runS_c1 rfl ih
  | case3 y b ih => rw [diff, List.map_cons, List.map_nil, both]; exact runS_c1 rfl ih
  | case4 x a y b h ih => rw [diff, if_pos h, List.map_cons, List.map_cons, both, if_pos (by exact h)]; exact runS_c1 rfl ih
  | case5 x a y b h h' ih => rw [diff, if_neg h, if_pos h', List.map_cons, List.map_cons, both, if_neg (by exact h), if_pos (by exact h')]; exact runS_c1 rfl ih
  | case6 x a y b h h' e ih =>
    rw [diff, if_neg h, if_neg h', if_pos e, List.map_cons, List.map_cons, both, if_neg (by exact h), if_neg (by exact h')]
    exact runS_c0 (by simp [difF, cre, e]) ih
  | case7 x a y b h h' e ih =>
    rw [diff, if_neg h, if_neg h', if_neg e, List.map_cons, List.map_cons, both, if_neg (by exact h), if_neg (by exact h')]
    exact runS_c1 (by simp [difF, cre, e]) ih
def Asc (l : List (Ent K D)) : Prop := l.Pairwise fun x y => lt x.p y.p = true
def AscC (l : List (Chg K D)) : Prop := l.Pairwise fun x y => lt x.p y.p = true
theorem diff_gt (k : K) (a b : List (Ent K D)) (ha : ∀ x ∈ a, lt k x.p = true) (hb : ∀ x ∈ b, lt k x.p = true) : ∀ c ∈ diff lt z a b, lt k c.p = true := by
  induction a, b using diff.induct (K := K) (D := D) lt with
  | case1 => rw [diff]; simp
  | case2 x a ih => rw [diff]; simp only [List.mem_cons, forall_eq_or_imp] at ha ⊢; exact ⟨ha.1, ih ha.2 hb⟩
  | case3 y b ih => rw [diff]; simp only [List.mem_cons, forall_eq_or_imp] at hb ⊢; exact ⟨hb.1, ih ha hb.2⟩
  | case4 x a y b h ih => rw [diff, if_pos h]; simp only [List.mem_cons, forall_eq_or_imp] at ha ⊢; exact ⟨ha.1, ih ha.2 hb⟩
  | case5 x a y b h h' ih => rw [diff, if_neg h, if_pos h']; rw [List.forall_mem_cons] at hb; rw [List.forall_mem_cons]; exact ⟨hb.1, ih ha hb.2⟩
  | case6 x a y b h h' e ih => rw [diff, if_neg h, if_neg h', if_pos e]; exact ih (fun x hx => ha x (by simp [hx])) (fun x hx => hb x (by simp [hx]))
  | case7 x a y b h h' e ih => rw [diff, if_neg h, if_neg h', if_neg e]; rw [List.forall_mem_cons]; exact ⟨ha x (by simp), ih (fun x hx => ha x (by simp [hx])) (fun x hx => hb x (by simp [hx]))⟩
theorem head_of {α : Type} {P : α → Prop} {l : List α} (h : ∀ x ∈ l, P x) : ∀ x ∈ l.head?, P x := fun x hx => h x (List.mem_of_mem_head? hx)
theorem map_gt {k : K} {a : List (Ent K D)} (h : ∀ x ∈ a, lt k x.p = true) : ∀ x ∈ a.map (cre z), lt k x.p = true := by
  intro x hx
  obtain ⟨y, hy, rfl⟩ := List.mem_map.1 hx
  exact h y hy
theorem diff_apply (hs : Sto lt) (a b : List (Ent K D)) (ha : Asc lt a) (hb : Asc lt b) (na : ∀ x ∈ a, x.d ≠ z) (nb : ∀ x ∈ b, x.d ≠ z) : runS (appF z) (both lt (a.map (cre z)) (diff lt z a b)) = some b := by
  induction a, b using diff.induct (K := K) (D := D) lt with
  | case1 => rw [diff, List.map_nil, both]; rfl
  | case2 x a ih =>
    rw [diff, List.map_cons, both_e lt hs (cre z x) ⟨x.p, x.d, z⟩ _ _ rfl]
    exact runS_c0 (by simp [appF, cre]) (ih (List.Pairwise.of_cons ha) hb (fun x hx => na x (by simp [hx])) nb)
  | case3 y b ih =>
    have hy : y.d ≠ z := nb y (by simp)
    rw [diff, List.map_nil, both_r lt hs _ _ _ (by simp)]
    exact runS_c1 (by simp [appF, hy]) (ih ha (List.Pairwise.of_cons hb) na (fun x hx => nb x (by simp [hx])))
  | case4 x a y b h ih =>
    rw [diff, if_pos h, List.map_cons, both_e lt hs (cre z x) ⟨x.p, x.d, z⟩ _ _ rfl]
    exact runS_c0 (by simp [appF, cre]) (ih (List.Pairwise.of_cons ha) hb (fun x hx => na x (by simp [hx])) nb)
  | case5 x a y b h h' ih =>
    have hy : y.d ≠ z := nb y (by simp)
    rw [diff, if_neg h, if_pos h', both_r lt hs _ _ _ (by intro u hu; rw [List.map_cons, List.head?_cons] at hu; obtain rfl := Option.some.inj hu; exact h')]
    exact runS_c1 (by simp [appF, hy]) (ih ha (List.Pairwise.of_cons hb) na (fun x hx => nb x (by simp [hx])))
  | case6 x a y b h h' e ih =>
    have hxy := hs.eq (Bool.eq_false_iff.2 h) (Bool.eq_false_iff.2 h')
    have hx : x.d ≠ z := na x (by simp)
    have ga := (List.pairwise_cons.1 ha).1
    have gb := (List.pairwise_cons.1 hb).1
    rw [diff, if_neg h, if_neg h', if_pos e, List.map_cons, both_l lt _ _ _ (head_of (diff_gt lt z x.p a b ga (fun u hu => by rw [hxy]; exact gb u hu)))]
    have hxe : (⟨x.p, x.d⟩ : Ent K D) = y := by cases x; cases y; simp_all
    refine runS_c1 ?_ (ih (List.Pairwise.of_cons ha) (List.Pairwise.of_cons hb) (fun x hx => na x (by simp [hx])) (fun x hx => nb x (by simp [hx])))
    simp only [appF, cre, if_neg hx, hxe]
  | case7 x a y b h h' e ih =>
    have hxy := hs.eq (Bool.eq_false_iff.2 h) (Bool.eq_false_iff.2 h')
    have hy : y.d ≠ z := nb y (by simp)
    rw [diff, if_neg h, if_neg h', if_neg e, List.map_cons, both_e lt hs (cre z x) ⟨x.p, x.d, y.d⟩ _ _ rfl]
    have hxe : (⟨x.p, y.d⟩ : Ent K D) = y := by cases x; cases y; simp_all
    refine runS_c1 ?_ (ih (List.Pairwise.of_cons ha) (List.Pairwise.of_cons hb) (fun x hx => na x (by simp [hx])) (fun x hx => nb x (by simp [hx])))
    simp only [appF, cre, if_neg hy, if_true, hxe]
theorem diff_inv (hs : Sto lt) (a b : List (Ent K D)) : (diff lt z a b).map invC = diff lt z b a := by
  induction a, b using diff.induct (K := K) (D := D) lt with
  | case1 => rw [diff]; rfl
  | case2 x a ih => rw [diff, diff, List.map_cons, ih]; rfl
  | case3 y b ih => rw [diff, diff, List.map_cons, ih]; rfl
  | case4 x a y b h ih => rw [diff, if_pos h, diff, if_neg (by rw [hs.asym h]; decide), if_pos h, List.map_cons, ih]; rfl
  | case5 x a y b h h' ih => rw [diff, if_neg h, if_pos h', diff, if_pos h', List.map_cons, ih]; rfl
  | case6 x a y b h h' e ih => rw [diff, if_neg h, if_neg h', if_pos e, diff, if_neg h', if_neg h, if_pos e.symm, ih]
  | case7 x a y b h h' e ih =>
    have hxy := hs.eq (Bool.eq_false_iff.2 h) (Bool.eq_false_iff.2 h')
    rw [diff, if_neg h, if_neg h', if_neg e, diff, if_neg h', if_neg h, if_neg (fun e' => e e'.symm), List.map_cons, ih]
    simp [invC, hxy]
theorem diff_len (a b : List (Ent K D)) : (diff lt z a b).length ≤ a.length + b.length := by
  induction a, b using diff.induct (K := K) (D := D) lt with
  | case1 => rw [diff]; simp
  | case2 x a ih => rw [diff]; simp only [List.length_cons]; omega
  | case3 y b ih => rw [diff]; simp only [List.length_cons]; omega
  | case4 x a y b h ih => rw [diff, if_pos h]; simp only [List.length_cons] at ih ⊢; omega
  | case5 x a y b h h' ih => rw [diff, if_neg h, if_pos h']; simp only [List.length_cons] at ih ⊢; omega
  | case6 x a y b h h' e ih => rw [diff, if_neg h, if_neg h', if_pos e]; simp only [List.length_cons] at ih ⊢; omega
  | case7 x a y b h h' e ih => rw [diff, if_neg h, if_neg h', if_neg e]; simp only [List.length_cons] at ih ⊢; omega
theorem diff_asc (hs : Sto lt) (a b : List (Ent K D)) (ha : Asc lt a) (hb : Asc lt b) : AscC lt (diff lt z a b) := by
  unfold AscC
  induction a, b using diff.induct (K := K) (D := D) lt with
  | case1 => rw [diff]; simp
  | case2 x a ih =>
    rw [diff]
    exact List.pairwise_cons.2 ⟨diff_gt lt z x.p a [] (List.pairwise_cons.1 ha).1 (by simp), ih (List.Pairwise.of_cons ha) hb⟩
  | case3 y b ih =>
    rw [diff]
    exact List.pairwise_cons.2 ⟨diff_gt lt z y.p [] b (by simp) (List.pairwise_cons.1 hb).1, ih ha (List.Pairwise.of_cons hb)⟩
  | case4 x a y b h ih =>
    rw [diff, if_pos h]
    refine List.pairwise_cons.2 ⟨diff_gt lt z x.p a (y :: b) (List.pairwise_cons.1 ha).1 ?_, ih (List.Pairwise.of_cons ha) hb⟩
    exact List.forall_mem_cons.2 ⟨h, fun u hu => hs.tr _ _ _ h ((List.pairwise_cons.1 hb).1 u hu)⟩
  | case5 x a y b h h' ih =>
    rw [diff, if_neg h, if_pos h']
    refine List.pairwise_cons.2 ⟨diff_gt lt z y.p (x :: a) b ?_ (List.pairwise_cons.1 hb).1, ih ha (List.Pairwise.of_cons hb)⟩
    exact List.forall_mem_cons.2 ⟨h', fun u hu => hs.tr _ _ _ h' ((List.pairwise_cons.1 ha).1 u hu)⟩
  | case6 x a y b h h' e ih => rw [diff, if_neg h, if_neg h', if_pos e]; exact ih (List.Pairwise.of_cons ha) (List.Pairwise.of_cons hb)
  | case7 x a y b h h' e ih =>
    have hxy := hs.eq (Bool.eq_false_iff.2 h) (Bool.eq_false_iff.2 h')
    rw [diff, if_neg h, if_neg h', if_neg e]
    exact List.pairwise_cons.2 ⟨diff_gt lt z x.p a b (List.pairwise_cons.1 ha).1 (fun u hu => by rw [hxy]; exact (List.pairwise_cons.1 hb).1 u hu), ih (List.Pairwise.of_cons ha) (List.Pairwise.of_cons hb)⟩
theorem diff_each (Q : K → Prop) (a b : List (Ent K D)) (ha : ∀ x ∈ a, Q x.p ∧ x.d ≠ z) (hb : ∀ x ∈ b, Q x.p ∧ x.d ≠ z) : ∀ c ∈ diff lt z a b, Q c.p ∧ c.o ≠ c.n := by
  induction a, b using diff.induct (K := K) (D := D) lt with
  | case1 => rw [diff]; simp
  | case2 x a ih => rw [diff]; rw [List.forall_mem_cons] at ha; rw [List.forall_mem_cons]; exact ⟨⟨ha.1.1, ha.1.2⟩, ih ha.2 hb⟩
  | case3 y b ih => rw [diff]; rw [List.forall_mem_cons] at hb; rw [List.forall_mem_cons]; exact ⟨⟨hb.1.1, fun e => hb.1.2 e.symm⟩, ih ha hb.2⟩
  | case4 x a y b h ih => rw [diff, if_pos h]; rw [List.forall_mem_cons] at ha; rw [List.forall_mem_cons]; exact ⟨⟨ha.1.1, ha.1.2⟩, ih ha.2 hb⟩
  | case5 x a y b h h' ih => rw [diff, if_neg h, if_pos h']; rw [List.forall_mem_cons] at hb; rw [List.forall_mem_cons]; exact ⟨⟨hb.1.1, fun e => hb.1.2 e.symm⟩, ih ha hb.2⟩
  | case6 x a y b h h' e ih => rw [diff, if_neg h, if_neg h', if_pos e]; rw [List.forall_mem_cons] at ha hb; exact ih ha.2 hb.2
  | case7 x a y b h h' e ih => rw [diff, if_neg h, if_neg h', if_neg e]; rw [List.forall_mem_cons] at ha hb; rw [List.forall_mem_cons]; exact ⟨⟨ha.1.1, e⟩, ih ha.2 hb.2⟩
end
end Go.Adm
set_option linter.unusedSimpArgs false
set_option linter.unusedVariables false
set_option linter.unusedSectionVars false
namespace Go.Adm
open Go Go.RowKit
section
variable {K D : Type} (lt : K → K → Bool) (z : D) [DecidableEq D]
/-- a list of entries begins with at most one entry of key k -/
structure Peel (k : K) (a pa a' : List (Ent K D)) (v : D) : Prop where
  app : a = pa ++ a'
  one : pa = [] ∧ v = z ∨ pa = [⟨k, v⟩] ∧ v ≠ z
  gt : ∀ x ∈ a', lt k x.p = true
  asc : Asc lt a'
  nz : ∀ x ∈ a', x.d ≠ z
theorem peel_of (hs : Sto lt) (k : K) (a : List (Ent K D)) (ha : Asc lt a) (na : ∀ x ∈ a, x.d ≠ z) (hk : ∀ x ∈ a.head?, lt x.p k = false) : ∃ pa a' v, Peel lt z k a pa a' v := by
  cases a with
  | nil => exact ⟨[], [], z, rfl, .inl ⟨rfl, rfl⟩, by simp, ha, by simp⟩
  | cons x a =>
    have h1 := (List.pairwise_cons.1 ha).1
    have h2 := List.Pairwise.of_cons ha
    cases hq : lt k x.p with
    | true =>
      refine ⟨[], x :: a, z, rfl, .inl ⟨rfl, rfl⟩, List.forall_mem_cons.2 ⟨hq, fun u hu => hs.tr _ _ _ hq (h1 u hu)⟩, ha, na⟩
    | false =>
      have e : x.p = k := hs.eq (hk x (by simp)) hq
      refine ⟨[x], a, x.d, rfl, .inr ⟨by rw [← e], na x (by simp)⟩, fun u hu => by rw [← e]; exact h1 u hu, h2, fun u hu => na u (by simp [hu])⟩
def chg1 (k : K) (u v : D) : List (Chg K D) := if u = v then [] else [⟨k, u, v⟩]
theorem diff_l (hs : Sto lt) (x : Ent K D) (a b : List (Ent K D)) (h : ∀ y ∈ b, lt x.p y.p = true) : diff lt z (x :: a) b = ⟨x.p, x.d, z⟩ :: diff lt z a b := by
  cases b with
  | nil => rw [diff]
  | cons y b => rw [diff, if_pos (h y (by simp))]
theorem diff_r (hs : Sto lt) (y : Ent K D) (a b : List (Ent K D)) (h : ∀ x ∈ a, lt y.p x.p = true) : diff lt z a (y :: b) = ⟨y.p, z, y.d⟩ :: diff lt z a b := by
  cases a with
  | nil => rw [diff]
  | cons x a => rw [diff, if_neg (by rw [hs.asym (h x (by simp))]; decide), if_pos (h x (by simp))]
theorem diff_peel (hs : Sto lt) {k : K} {a pa a' b pb b' : List (Ent K D)} {u v : D} (ha : Peel lt z k a pa a' u) (hb : Peel lt z k b pb b' v) : diff lt z a b = chg1 k u v ++ diff lt z a' b' := by
  rw [ha.app, hb.app]
  unfold chg1
  rcases ha.one with ⟨rfl, rfl⟩ | ⟨rfl, h1⟩ <;> rcases hb.one with ⟨rfl, h2⟩ | ⟨rfl, h2⟩
  · rw [h2, if_pos rfl]; rfl
  · rw [if_neg (fun e => h2 e.symm), List.nil_append]; exact diff_r lt _ hs _ _ _ ha.gt
  · rw [h2, if_neg h1]; exact diff_l lt _ hs _ _ _ hb.gt
  · simp only [List.cons_append, List.nil_append]
    rw [diff, if_neg (by rw [hs.irr]; decide), if_neg (by rw [hs.irr]; decide)]
    by_cases e : u = v
    · rw [if_pos e, if_pos e]; rfl
    · rw [if_neg e, if_neg e]; rfl
theorem min_key (hs : Sto lt) : ∀ (ks : List K), ks ≠ [] → ∃ k ∈ ks, ∀ x ∈ ks, lt x k = false
  | [], h => absurd rfl h
  | [k], _ => ⟨k, by simp, by simp [hs.irr]⟩
  | k :: k' :: ks, _ => by
    obtain ⟨m, hm, hmin⟩ := min_key hs (k' :: ks) (by simp)
    cases hq : lt k m with
    | true =>
      refine ⟨k, by simp, List.forall_mem_cons.2 ⟨hs.irr k, fun x hx => ?_⟩⟩
      cases hx2 : lt x k with
      | false => rfl
      | true => have := hs.tr _ _ _ hx2 hq; rw [hmin x hx] at this; cases this
    | false => exact ⟨m, by simp [hm], List.forall_mem_cons.2 ⟨hq, hmin⟩⟩
theorem chg1_gt {k : K} {u v : D} {l : List (Chg K D)} : ∀ c ∈ chg1 k u v, c.p = k := by
  intro c hc
  unfold chg1 at hc
  split at hc
  · simp at hc
  · simp only [List.mem_singleton] at hc; rw [hc]
theorem comp_peel (hs : Sto lt) {k : K} {u v x : D} {l m : List (Chg K D)} {r : List (Chg K D)} (hl : ∀ c ∈ l, lt k c.p = true) (hm : ∀ c ∈ m, lt k c.p = true) (hr : runS (compF (K := K)) (both lt l m) = some r) :
    runS compF (both lt (chg1 k u v ++ l) (chg1 k v x ++ m)) = some (chg1 k u x ++ r) := by
  unfold chg1
  by_cases h1 : u = v
  · subst h1
    rw [if_pos rfl, List.nil_append]
    by_cases h2 : u = x
    · rw [if_pos h2]; exact hr
    · rw [if_neg h2, List.cons_append, List.nil_append, both_r lt hs _ _ _ (head_of hl)]
      exact runS_c1 rfl hr
  · rw [if_neg h1]
    by_cases h2 : v = x
    · subst h2
      rw [if_pos rfl, if_neg h1, List.nil_append, List.cons_append, List.nil_append, both_l lt _ _ _ (head_of hm)]
      exact runS_c1 rfl hr
    · rw [if_neg h2, List.cons_append, List.cons_append, List.nil_append, List.nil_append, both_e lt hs ⟨k, u, v⟩ ⟨k, v, x⟩ _ _ rfl]
      by_cases h3 : u = x
      · rw [if_pos h3]
        exact runS_c0 (by simp [compF, h3]) hr
      · rw [if_neg h3]
        exact runS_c1 (by simp [compF, h3]) hr
theorem diff_comp (hs : Sto lt) : ∀ (n : Nat) (a b c : List (Ent K D)), a.length + b.length + c.length ≤ n → Asc lt a → Asc lt b → Asc lt c → (∀ x ∈ a, x.d ≠ z) → (∀ x ∈ b, x.d ≠ z) → (∀ x ∈ c, x.d ≠ z) →
    runS compF (both lt (diff lt z a b) (diff lt z b c)) = some (diff lt z a c) := by
  intro n
  induction n with
  | zero =>
    intro a b c hn _ _ _ _ _ _
    obtain rfl : a = [] := List.eq_nil_of_length_eq_zero (by omega)
    obtain rfl : b = [] := List.eq_nil_of_length_eq_zero (by omega)
    obtain rfl : c = [] := List.eq_nil_of_length_eq_zero (by omega)
    rw [diff, both]; rfl
  | succ n ih =>
    intro a b c hn ha hb hc na nb nc
    by_cases h0 : a.head?.toList.map (·.p) ++ (b.head?.toList.map (·.p) ++ c.head?.toList.map (·.p)) = []
    · simp only [List.append_eq_nil_iff, List.map_eq_nil_iff, Option.toList_eq_nil_iff, List.head?_eq_none_iff] at h0
      obtain ⟨rfl, rfl, rfl⟩ := h0
      rw [diff, both]; rfl
    · obtain ⟨k, hk, hmin⟩ := min_key lt hs _ h0
      have hka : ∀ x ∈ a.head?, lt x.p k = false := fun x hx => hmin _ (by simp only [List.mem_append, List.mem_map, Option.mem_toList]; exact .inl ⟨x, hx, rfl⟩)
      have hkb : ∀ x ∈ b.head?, lt x.p k = false := fun x hx => hmin _ (by simp only [List.mem_append, List.mem_map, Option.mem_toList]; exact .inr (.inl ⟨x, hx, rfl⟩))
      have hkc : ∀ x ∈ c.head?, lt x.p k = false := fun x hx => hmin _ (by simp only [List.mem_append, List.mem_map, Option.mem_toList]; exact .inr (.inr ⟨x, hx, rfl⟩))
      obtain ⟨pa, a', u, pA⟩ := peel_of lt z hs k a ha na hka
      obtain ⟨pb, b', v, pB⟩ := peel_of lt z hs k b hb nb hkb
      obtain ⟨pc, c', x, pC⟩ := peel_of lt z hs k c hc nc hkc
      have hlen : a'.length + b'.length + c'.length ≤ n := by
        have e1 := congrArg List.length pA.app
        have e2 := congrArg List.length pB.app
        have e3 := congrArg List.length pC.app
        simp only [List.length_append] at e1 e2 e3
        have hpos : 0 < pa.length + pb.length + pc.length := by
          rcases Nat.eq_zero_or_pos (pa.length + pb.length + pc.length) with h | h
          · exfalso
            obtain rfl : pa = [] := List.eq_nil_of_length_eq_zero (by omega)
            obtain rfl : pb = [] := List.eq_nil_of_length_eq_zero (by omega)
            obtain rfl : pc = [] := List.eq_nil_of_length_eq_zero (by omega)
            have qa : ∀ y ∈ a, lt k y.p = true := by rw [pA.app]; exact pA.gt
            have qb : ∀ y ∈ b, lt k y.p = true := by rw [pB.app]; exact pB.gt
            have qc : ∀ y ∈ c, lt k y.p = true := by rw [pC.app]; exact pC.gt
            simp only [List.mem_append, List.mem_map, Option.mem_toList] at hk
            rcases hk with ⟨y, hy, rfl⟩ | ⟨y, hy, rfl⟩ | ⟨y, hy, rfl⟩
            · have := qa y (List.mem_of_mem_head? hy); rw [hs.irr] at this; cases this
            · have := qb y (List.mem_of_mem_head? hy); rw [hs.irr] at this; cases this
            · have := qc y (List.mem_of_mem_head? hy); rw [hs.irr] at this; cases this
          · exact h
        omega
      rw [diff_peel lt z hs pA pB, diff_peel lt z hs pB pC, diff_peel lt z hs pA pC]
      exact comp_peel lt hs (diff_gt lt z k a' b' pA.gt pB.gt) (diff_gt lt z k b' c' pB.gt pC.gt) (ih a' b' c' hlen pA.asc pB.asc pC.asc pA.nz pB.nz pC.nz)
end
end Go.Adm
set_option linter.unusedSimpArgs false
set_option linter.unusedVariables false
namespace Go.Adm
open Go Go.RowKit

def blt (a b : ByteArray) : Bool := Op.bytesLess a.toList b.toList
theorem less_irr : ∀ (a : List UInt8), Op.bytesLess a a = false
  | [] => rfl
  | x :: r => by simp [Op.bytesLess, less_irr r]
theorem less_tot : ∀ (a b : List UInt8), a ≠ b → Op.bytesLess a b = true ∨ Op.bytesLess b a = true
  | [], [], h => absurd rfl h
  | [], _ :: _, _ => .inl rfl
  | _ :: _, [], _ => .inr rfl
  | x :: r, y :: s, h => by
    by_cases hxy : x = y
    · subst hxy
      have hne : r ≠ s := fun e => h (by rw [e])
      rcases less_tot r s hne with h1 | h1
      · left; simp [Op.bytesLess, h1]
      · right; simp [Op.bytesLess, h1]
    · have ht : x < y ∨ y < x := by
        rcases Nat.lt_trichotomy x.toNat y.toNat with h1 | h1 | h1
        · exact .inl (UInt8.lt_iff_toNat_lt.2 h1)
        · exact absurd (UInt8.toNat_inj.1 h1) hxy
        · exact .inr (UInt8.lt_iff_toNat_lt.2 h1)
      rcases ht with h1 | h1
      · left; simp [Op.bytesLess, h1]
      · right; simp [Op.bytesLess, h1]
theorem less_tr : ∀ (a b c : List UInt8), Op.bytesLess a b = true → Op.bytesLess b c = true → Op.bytesLess a c = true
  | _, [], _, h, _ => by simp [Op.bytesLess] at h
  | _, _ :: _, [], _, h => by simp [Op.bytesLess] at h
  | [], _ :: _, _ :: _, _, _ => rfl
  | x :: a, y :: b, z :: c, h1, h2 => by
    simp only [Op.bytesLess, Bool.or_eq_true, Bool.and_eq_true, decide_eq_true_eq, beq_iff_eq] at h1 h2 ⊢
    rcases h1 with h1 | ⟨rfl, h1⟩ <;> rcases h2 with h2 | ⟨rfl, h2⟩
    · left
      rw [UInt8.lt_iff_toNat_lt] at *
      omega
    · exact .inl h1
    · exact .inl h2
    · exact .inr ⟨rfl, less_tr a b c h1 h2⟩
theorem toList_inj {a b : ByteArray} (h : a.toList = b.toList) : a = b := by
  rw [ByteArray.toList_eq, ByteArray.toList_eq] at h
  cases a; cases b
  simp only at h
  congr 1
  exact Array.toList_inj.1 h
theorem sto_blt : Sto blt where
  irr a := less_irr _
  tr a b c := less_tr _ _ _
  tot a b h := less_tot _ _ fun e => h (toList_inj e)
def entEq (x y : Ent ByteArray (List UInt8)) : Bool := x.p.toList == y.p.toList && x.d == y.d
def chgEq (x y : Chg ByteArray (List UInt8)) : Bool := x.p.toList == y.p.toList && (x.o == y.o && x.n == y.n)
theorem entEq_iff (x y : Ent ByteArray (List UInt8)) : entEq x y = true ↔ x = y := by
  cases x; cases y
  simp only [entEq, Bool.and_eq_true, beq_iff_eq, Ent.mk.injEq]
  exact ⟨fun ⟨h1, h2⟩ => ⟨toList_inj h1, h2⟩, fun ⟨h1, h2⟩ => ⟨by rw [h1], h2⟩⟩
theorem chgEq_iff (x y : Chg ByteArray (List UInt8)) : chgEq x y = true ↔ x = y := by
  cases x; cases y
  simp only [chgEq, Bool.and_eq_true, beq_iff_eq, Chg.mk.injEq]
  exact ⟨fun ⟨h1, h2, h3⟩ => ⟨toList_inj h1, h2, h3⟩, fun ⟨h1, h2, h3⟩ => ⟨by rw [h1], h2, h3⟩⟩
theorem toList_beq (a b : ByteArray) : (a.toList == b.toList) = decide (a = b) := by
  by_cases h : a = b
  · subst h; simp
  · rw [decide_eq_false h]
    simp only [beq_eq_false_iff_ne]
    exact fun e => h (toList_inj e)
abbrev E := Ent ByteArray (List UInt8)
abbrev C := Chg ByteArray (List UInt8)
def z32 : List UInt8 := List.replicate 32 0
def entC (e : E) : List Value := sv e.p :: e.d.map bv
def chgC (c : C) : List Value := sv c.p :: (c.o.map bv ++ c.n.map bv)
def E32 (e : E) : Prop := e.d.length = 32 ∧ e.p.size ≤ 140737488355328
def C32 (c : C) : Prop := c.o.length = 32 ∧ c.n.length = 32 ∧ c.p.size ≤ 140737488355328
theorem entC_len {e : E} (h : E32 e) : (entC e).length = 33 := by simp [entC]; exact h.1
theorem chgC_len {c : C} (h : C32 c) : (chgC c).length = 65 := by simp [chgC, h.1, h.2.1]
theorem z32_len : z32.length = 32 := rfl
theorem cre_32 {e : E} (h : E32 e) : C32 (cre z32 e) := ⟨rfl, h⟩
theorem inv_32 {c : C} (h : C32 c) : C32 (invC c) := ⟨h.2.1, h.1, h.2.2⟩
def entZ : List Value := sv ByteArray.empty :: List.replicate 32 (Value.int .u8 0)
def chgZ : List Value := sv ByteArray.empty :: List.replicate 64 (Value.int .u8 0)
theorem entC_one (e : E) : ∀ v ∈ entC e, v.oneCell' = true := by
  intro v hv
  rcases List.mem_cons.1 hv with rfl | h
  · rfl
  · exact bv_one _ _ h
theorem chgC_one (c : C) : ∀ v ∈ chgC c, v.oneCell' = true := by
  intro v hv
  rcases List.mem_cons.1 hv with rfl | h
  · rfl
  · rcases List.mem_append.1 h with h | h
    · exact bv_one _ _ h
    · exact bv_one _ _ h
theorem entC_take (e : E) : (entC e).drop 1 = e.d.map bv := rfl
theorem chgC_old {c : C} (h : C32 c) : ((chgC c).drop 1).take 32 = c.o.map bv := by
  show (c.o.map bv ++ c.n.map bv).take 32 = _
  rw [List.take_append_of_le_length (by rw [List.length_map, h.1]; omega), List.take_of_length_le (by rw [List.length_map, h.1]; omega)]
theorem chgC_new {c : C} (h : C32 c) : (chgC c).drop 33 = c.n.map bv := by
  show (c.o.map bv ++ c.n.map bv).drop 32 = _
  rw [List.drop_append, List.drop_eq_nil_of_le (by rw [List.length_map, h.1]; omega), List.length_map, h.1]
  rfl
theorem chgs_len {l : List C} (h : ∀ c ∈ l, C32 c) : ∀ e ∈ l.map chgC, e.length = 65 := by
  intro e he
  obtain ⟨c, hc, rfl⟩ := List.mem_map.1 he
  exact chgC_len (h c hc)
theorem ents_len {l : List E} (h : ∀ c ∈ l, E32 c) : ∀ e ∈ l.map entC, e.length = 33 := by
  intro e he
  obtain ⟨c, hc, rfl⟩ := List.mem_map.1 he
  exact entC_len (h c hc)
/-- an element of a slice of structs, where it lies -/
theorem Els.elem {α : Type} {w : World} {B n size : Nat} {A : Option Addr} {f : α → List Value} {l : List α} (h : Els w B size A n (l.map f)) {k : Nat} (hk : k < l.length) :
    ∃ ad, A = some ad ∧ ad.block < B ∧ ∀ j u, (f l[k])[j]? = some u → w.cell? ((ad.add (k * size)).add j) = some u := by
  obtain ⟨ad, e, hb, hc⟩ := h.at_ (k := k) (by rw [List.length_map]; exact hk)
  rw [List.getElem_map] at hc
  exact ⟨ad, e, hb, hc⟩
theorem fill_ent (s : ByteArray) (d : List UInt8) (hd : d.length = 32) : Instr.fill (#[(0, 1), (1, 32)][·]?) entZ.toArray [(0, .string s), (1, .agg (d.map bv).toArray)] = some (entC ⟨s, d⟩).toArray := by
  refine (fill_step (off := 0) (size := 1) (es := [.string s]) (pre := []) (old := [sv ByteArray.empty]) (post := List.replicate 32 (Value.int .u8 0)) rfl rfl rfl rfl rfl rfl).trans ?_
  refine (fill_step (off := 1) (size := 32) (es := d.map bv) (pre := [.string s]) (old := List.replicate 32 (Value.int .u8 0)) (post := []) rfl (by simp) rfl rfl rfl (by simp [hd])).trans ?_
  simp [Instr.fill, entC, sv]
theorem chgZ_eq : chgZ = [sv ByteArray.empty] ++ (List.replicate 32 (Value.int .u8 0) ++ List.replicate 32 (Value.int .u8 0)) := rfl
theorem fill_chg02 (s : ByteArray) (d : List UInt8) (hd : d.length = 32) : Instr.fill (#[(0, 1), (1, 32), (33, 32)][·]?) chgZ.toArray [(0, .string s), (2, .agg (d.map bv).toArray)] = some (chgC ⟨s, z32, d⟩).toArray := by
  refine (fill_step (off := 0) (size := 1) (es := [.string s]) (pre := []) (old := [sv ByteArray.empty]) (post := List.replicate 32 (Value.int .u8 0) ++ List.replicate 32 (Value.int .u8 0)) rfl rfl rfl rfl rfl rfl).trans ?_
  refine (fill_step (off := 33) (size := 32) (es := d.map bv) (pre := [.string s] ++ List.replicate 32 (Value.int .u8 0)) (old := List.replicate 32 (Value.int .u8 0)) (post := []) rfl (by simp) rfl rfl rfl (by simp [hd])).trans ?_
  simp only [Instr.fill, List.append_nil, List.cons_append, List.nil_append]
  rfl
theorem fill_chg01 (s : ByteArray) (d : List UInt8) (hd : d.length = 32) : Instr.fill (#[(0, 1), (1, 32), (33, 32)][·]?) chgZ.toArray [(0, .string s), (1, .agg (d.map bv).toArray)] = some (chgC ⟨s, d, z32⟩).toArray := by
  refine (fill_step (off := 0) (size := 1) (es := [.string s]) (pre := []) (old := [sv ByteArray.empty]) (post := List.replicate 32 (Value.int .u8 0) ++ List.replicate 32 (Value.int .u8 0)) rfl rfl rfl rfl rfl rfl).trans ?_
  refine (fill_step (off := 1) (size := 32) (es := d.map bv) (pre := [.string s]) (old := List.replicate 32 (Value.int .u8 0)) (post := List.replicate 32 (Value.int .u8 0)) rfl rfl rfl rfl rfl (by simp [hd])).trans ?_
  simp only [Instr.fill, List.append_nil, List.cons_append, List.nil_append]
  rfl
theorem fill_chg012 (s : ByteArray) (d d' : List UInt8) (hd : d.length = 32) (hd' : d'.length = 32) : Instr.fill (#[(0, 1), (1, 32), (33, 32)][·]?) chgZ.toArray [(0, .string s), (1, .agg (d.map bv).toArray), (2, .agg (d'.map bv).toArray)] = some (chgC ⟨s, d, d'⟩).toArray := by
  refine (fill_step (off := 0) (size := 1) (es := [.string s]) (pre := []) (old := [sv ByteArray.empty]) (post := List.replicate 32 (Value.int .u8 0) ++ List.replicate 32 (Value.int .u8 0)) rfl rfl rfl rfl rfl rfl).trans ?_
  refine (fill_step (off := 1) (size := 32) (es := d.map bv) (pre := [.string s]) (old := List.replicate 32 (Value.int .u8 0)) (post := List.replicate 32 (Value.int .u8 0)) rfl rfl rfl rfl rfl (by simp [hd])).trans ?_
  refine (fill_step (off := 33) (size := 32) (es := d'.map bv) (pre := [.string s] ++ d.map bv) (old := List.replicate 32 (Value.int .u8 0)) (post := []) rfl (by simp) (by simp [hd]) rfl rfl (by simp [hd'])).trans ?_
  simp only [Instr.fill, List.append_nil, List.cons_append, List.nil_append]
  rfl
end Go.Adm
namespace Go.Proofs.YtjdinakdkdjocaaGreatDoor
open Go Go.RowKit Go.Adm

theorem zero_ent (w : World) : (zeroValue 70).run Tryz.prog w = .ok (.agg entZ.toArray) w := by kernel_rfl
theorem el_ent : ElemOf Tryz.prog 29 70 (.agg entZ.toArray) 33 48 := ElemOf.mk' Tryz.underlying29 (by kernel_rfl) rfl (by decide) (by decide)
theorem eq_dg (w : World) (x y : List UInt8) (hx : x.length = 32) (hy : y.length = 32) : (binOp .eql 68 (.agg (x.map bv).toArray) (.agg (y.map bv).toArray)).run Tryz.prog w = .ok (.bool (decide (x = y))) w :=
  run_eq_deep w 2 68 (by decide) (by kernel_rfl) (by simp only [Value.formed, Tryz.underlying68, List.size_toArray, List.length_map, hx]; kernel_rfl) (by simp only [Value.formed, Tryz.underlying68, List.size_toArray, List.length_map, hy]; kernel_rfl)
    (kl_bytes Tryz.underlying68 Tryz.underlying5 (by kernel_rfl) (by kernel_rfl) x hx) (kl_bytes Tryz.underlying68 Tryz.underlying5 (by kernel_rfl) (by kernel_rfl) y hy) _ (by
      rw [decide_eq_true_eq]
      exact ⟨fun h => by rw [h], map_bl_inj⟩)
theorem ne_dg (w : World) (x y : List UInt8) (hx : x.length = 32) (hy : y.length = 32) : (binOp .neq 68 (.agg (x.map bv).toArray) (.agg (y.map bv).toArray)).run Tryz.prog w = .ok (.bool (!decide (x = y))) w := by
  have h := eq_dg w x y hx hy
  rw [show binOp .neq 68 (.agg (x.map bv).toArray) (.agg (y.map bv).toArray) = _ from rfl]
  rw [run_neq_struct]
  rw [run_eql_struct] at h
  revert h
  generalize (Op.equalIn 10000 68 _ _).run Tryz.prog w = q
  intro h
  cases q with
  | ok b w' =>
    simp only [Result.andThen, Result.ok.injEq, Value.bool.injEq] at h ⊢
    exact ⟨by rw [h.1], h.2⟩
  | _ => simp [Result.andThen] at h
theorem kl_str {P : Program} {e : TypeId} (he : P.underlying e = some .string) (s : ByteArray) (hs : s.size ≤ 140737488355328) (d : Nat) : P.keyLits (d + 1) e [sv s] = some [.string s.data.toList] := by
  unfold Program.keyLits
  rw [he]
  simp only [sv]
  rw [if_pos (by unfold maxLen; omega)]
theorem kl_ent (e : E) (h : E32 e) : Tryz.prog.keyLits 3 70 (entC e) = some (.string e.p.data.toList :: e.d.map bl) := by
  have e1 : (entC e).take 1 = [sv e.p] := rfl
  have e2 : (entC e).tail.take 32 = e.d.map bv := by rw [entC, List.tail_cons, List.take_of_length_le (by simp [h.1])]
  have k1 := kl_bytes (P := Tryz.prog) Tryz.underlying68 Tryz.underlying5 (by kernel_rfl) (by kernel_rfl) e.d h.1
  have k2 := kl_str (P := Tryz.prog) Tryz.underlying9 e.p h.2 1
  have c1 : Tryz.prog.cellsOf 70 = 33 := by kernel_rfl
  have c2 : Tryz.prog.cellsOf 68 = 32 := by kernel_rfl
  have c3 : Tryz.prog.cellsOf 9 = 1 := by kernel_rfl
  unfold Program.keyLits
  rw [Tryz.underlying70]
  simp [entC_len h, c1, c2, c3, List.mapM_cons, e2, k1, k2, e1]
theorem fm_ent (e : E) (h : E32 e) : (Value.agg (entC e).toArray).formed Tryz.prog 70 = true := by
  have hl := entC_len h
  generalize entC e = l at *
  have hc : Tryz.prog.cellsOf 70 = 33 := by kernel_rfl
  simp [Value.formed, Tryz.underlying70, hl, hc]
theorem ent_inj {x y : E} (h : (Lit.string x.p.data.toList :: x.d.map bl) = (.string y.p.data.toList :: y.d.map bl)) : x = y := by
  injection h with h1 h2
  injection h1 with h1
  cases x; cases y
  simp only at h1 h2
  rw [map_bl_inj h2]
  congr 1
  exact toList_inj (by rw [ByteArray.toList_eq, ByteArray.toList_eq]; exact h1)
theorem chg_inj {x y : C} (hx : C32 x) (hy : C32 y) (h : (Lit.string x.p.data.toList :: (x.o.map bl ++ x.n.map bl)) = (.string y.p.data.toList :: (y.o.map bl ++ y.n.map bl))) : x = y := by
  injection h with h1 h2
  injection h1 with h1
  obtain ⟨h3, h4⟩ := List.append_inj h2 (by rw [List.length_map, List.length_map, hx.1, hy.1])
  cases x; cases y
  simp only at h1 h3 h4
  rw [map_bl_inj h3, map_bl_inj h4]
  congr 1
  exact toList_inj (by rw [ByteArray.toList_eq, ByteArray.toList_eq]; exact h1)
theorem ne_ent (w : World) (x y : E) (hx : E32 x) (hy : E32 y) : (binOp .neq 70 (.agg (entC x).toArray) (.agg (entC y).toArray)).run Tryz.prog w = .ok (.bool (!entEq x y)) w := by
  have h := run_eq_deep w 3 70 (by decide) (by kernel_rfl) (fm_ent x hx) (fm_ent y hy) (kl_ent x hx) (kl_ent y hy) (entEq x y) (by
    rw [entEq_iff]
    exact ⟨fun h => by rw [h], ent_inj⟩)
  rw [run_eql_struct] at h
  rw [run_neq_struct]
  revert h
  generalize (Op.equalIn 10000 70 _ _).run Tryz.prog w = q
  intro h
  cases q with
  | ok b w' =>
    simp only [Result.andThen, Result.ok.injEq, Value.bool.injEq] at h ⊢
    exact ⟨by rw [h.1], h.2⟩
  | _ => simp [Result.andThen] at h
theorem eq_ent (w : World) (x y : E) (hx : E32 x) (hy : E32 y) : (binOp .eql 70 (.agg (entC x).toArray) (.agg (entC y).toArray)).run Tryz.prog w = .ok (.bool (entEq x y)) w :=
  run_eq_deep w 3 70 (by decide) (by kernel_rfl) (fm_ent x hx) (fm_ent y hy) (kl_ent x hx) (kl_ent y hy) (entEq x y) (by
    rw [entEq_iff]
    exact ⟨fun h => by rw [h], ent_inj⟩)
end Go.Proofs.YtjdinakdkdjocaaGreatDoor
set_option linter.unusedSimpArgs false
set_option linter.unusedVariables false
namespace Go.Adm
open Go Go.RowKit
theorem Cells.sub {w : World} {g : Nat} {t : TypeId} {cs vs : List Value} (h : Cells w g t cs) (o : Nat) (hd : ∀ j u, vs[j]? = some u → cs[o + j]? = some u) : ∀ j u, vs[j]? = some u → w.cell? ((⟨g, o, none⟩ : Addr).add j) = some u := fun j u hu => by
  have h1 := hd j u hu
  rw [add_lit]
  rw [List.getElem?_eq_some_iff] at h1
  obtain ⟨h2, h3⟩ := h1
  rw [Cells.cell h h2, h3]
theorem ent_sub (e : E) : ∀ j u, (e.d.map bv)[j]? = some u → (entC e)[1 + j]? = some u := fun j u hu => by
  rw [Nat.add_comm, entC, List.getElem?_cons_succ]; exact hu
theorem chg_sub1 {c : C} (h : C32 c) : ∀ j u, (c.o.map bv)[j]? = some u → (chgC c)[1 + j]? = some u := fun j u hu => by
  have hj := (List.getElem?_eq_some_iff.1 hu).1
  rw [Nat.add_comm, chgC, List.getElem?_cons_succ, List.getElem?_append_left hj]; exact hu
theorem chg_sub2 {c : C} (h : C32 c) : ∀ j u, (c.n.map bv)[j]? = some u → (chgC c)[33 + j]? = some u := fun j u hu => by
  rw [show 33 + j = (32 + j) + 1 from by omega, chgC, List.getElem?_cons_succ, List.getElem?_append_right (by rw [List.length_map, h.1]; omega), List.length_map, h.1, show 32 + j - 32 = j from by omega]; exact hu
theorem flat_step {α : Type} (f : α → List Value) (l : List α) (k : Nat) (hk : k < l.length) : ((l.take (k + 1)).map f).flatten = ((l.take k).map f).flatten ++ f l[k] := by
  rw [List.take_succ_eq_append_getElem hk, List.map_append, List.flatten_append]; simp only [List.map_cons, List.map_nil, List.flatten_cons, List.flatten_nil, List.append_nil]
def OwnPost {α : Type} (f : α → List Value) (size : Nat) (l : List α) (tid : TypeId) (w : World) (e : Ending) (w' : World) : Prop := ∃ A c, e = .returned (.slice A l.length c) ∧ Go.Adm.Own w' w.heap.size tid size A l.length c (l.map f).flatten ∧ Below w.heap.size w w'
end Go.Adm
namespace Go.Proofs.YtjdinakdkdjocaaGreatDoor
open Go Go.RowKit Go.Adm

end Go.Proofs.YtjdinakdkdjocaaGreatDoor
set_option linter.unusedSimpArgs false
set_option linter.unusedVariables false
set_option maxRecDepth 100000
namespace Go.Adm
open Go Go.RowKit
def okName (l : List UInt8) : Bool := !(l == [] || (l == [46] || l == [46, 46]))
def namesOk (acc : List UInt8) : List UInt8 → Bool
  | [] => okName acc
  | b :: l => if b == 47 then okName acc && namesOk [] l else namesOk (acc ++ [b]) l
def pathB (s : ByteArray) : Bool := !decide (s.size < 1) && (!decide (200 < s.size) && (!decide (0 ≤ Lib.indexByte s.data.toList 0) && namesOk [] s.data.toList))
theorem idx_ge : ∀ (l : List UInt8) (c : UInt8), -1 ≤ Lib.indexByte l c
  | [], _ => by simp [Lib.indexByte]
  | b :: l, c => by
    have := idx_ge l c
    simp only [Lib.indexByte]
    split
    · omega
    · split
      · omega
      · omega
theorem names_none : ∀ (l acc : List UInt8), Lib.indexByte l 47 < 0 → namesOk acc l = okName (acc ++ l)
  | [], acc, _ => by simp [namesOk]
  | b :: l, acc, h => by
    simp only [Lib.indexByte] at h
    have hg := idx_ge l 47
    by_cases hb : (b == 47) = true
    · rw [if_pos hb] at h; omega
    · rw [if_neg hb] at h
      have h2 : Lib.indexByte l 47 < 0 := by
        by_cases h3 : (Lib.indexByte l 47 == -1) = true
        · have := beq_iff_eq.1 h3; omega
        · rw [if_neg h3] at h; omega
      rw [namesOk, if_neg hb, names_none l (acc ++ [b]) h2, List.append_assoc]
      rfl
theorem names_at : ∀ (l acc : List UInt8) (k : Nat), Lib.indexByte l 47 = (k : Int) → k < l.length ∧ namesOk acc l = (okName (acc ++ l.take k) && namesOk [] (l.drop (k + 1)))
  | [], acc, k, h => by simp [Lib.indexByte] at h
  | b :: l, acc, k, h => by
    simp only [Lib.indexByte] at h
    by_cases hb : (b == 47) = true
    · rw [if_pos hb] at h
      obtain rfl : k = 0 := by omega
      refine ⟨by simp, ?_⟩
      rw [namesOk, if_pos hb, List.take_zero, List.append_nil]
      rfl
    · rw [if_neg hb] at h
      by_cases h3 : (Lib.indexByte l 47 == -1) = true
      · rw [if_pos h3] at h; omega
      · rw [if_neg h3] at h
        obtain ⟨j, rfl⟩ : ∃ j, k = j + 1 := ⟨k - 1, by have := idx_ge l 47; have : Lib.indexByte l 47 ≠ -1 := fun e => h3 (by rw [e]; rfl); omega⟩
        obtain ⟨h4, h5⟩ := names_at l (acc ++ [b]) j (by omega)
        exact ⟨by simp; omega, by rw [namesOk, if_neg hb, h5, List.take_succ_cons, List.drop_succ_cons, List.append_assoc]; rfl⟩
def pathM (r m : Value) : Nat := match m, r with
  | .bool true, .string s => s.size + 1
  | _, _ => 0
theorem okName_iff (nm : ByteArray) : okName nm.data.toList = (!(nm.toList == []) && (!(nm.toList == [46]) && !(nm.toList == [46, 46]))) := by
  rw [ByteArray.toList_eq, okName, Bool.not_or, Bool.not_or]
theorem ext_take (s : ByteArray) (k : Nat) (hk : k ≤ s.size) : (s.extract 0 k).data.toList = s.data.toList.take k := by
  rw [ByteArray.data_extract, Array.toList_extract]
  simp
theorem ext_drop (s : ByteArray) (k : Nat) : (s.extract k s.size).data.toList = s.data.toList.drop k := by
  rw [ByteArray.data_extract, Array.toList_extract]
  rw [List.extract_eq_take_drop, List.take_of_length_le]
  rw [List.length_drop]
  exact Nat.le_refl _
end Go.Adm
namespace Go.Proofs.YtjdinakdkdjocaaGreatDoor
open Go Go.RowKit Go.Adm

theorem lIndexByte_any (s : ByteArray) (c : UInt8) (w : World) :
    Calls Tryz.prog 97 #[.string s, .int .u8 c.toNat] w fun e w' => e = .returned (.int .i64 (Lib.indexByte s.data.toList c)) ∧ w' = w := by
  go_enter Tryz.func97, Tryz.ntmps97
  go_wp2
  rw [run_callFunc_extern Tryz.func113 (by kernel_rfl) (by kernel_rfl) (by kernel_rfl) (e := Extern.BytealgIndexByte.indexByte) (by kernel_rfl), Lib.run_indexByteString]
  simp only [Result.andThen]
  rw [Oper.upon_value]
  go_wp2
  go_ret
  exact ⟨ret_int (by simp), rfl⟩
theorem Index_slash (s : ByteArray) (w : World) :
    Calls Tryz.prog 119 #[.string s, .string ⟨#[47]⟩] w fun e w' => e = .returned (.int .i64 (Lib.indexByte s.data.toList 47)) ∧ w' = w := by
  cases hq : ([47] == s.toList) with
  | true =>
    have hv : Hid (Lib.indexByte s.data.toList 47 = 0) := Lib.hid (by
      have := beq_iff_eq.1 hq
      rw [ByteArray.toList_eq] at this
      rw [← this]; rfl)
    go_enter Tryz.func119, Tryz.ntmps119
    go_wp2_with fail
    go_ret
    exact ⟨ret_int hv.out.symm, rfl⟩
  | false =>
    go_enter Tryz.func119, Tryz.ntmps119
    go_wp2_with fail
    refine (lIndexByte_any s 47 w).mono ?_
    rintro e w' ⟨rfl, rfl⟩
    go_wp2_with fail
    go_ret
    exact ⟨rfl, rfl⟩
theorem lCut_slash (s : ByteArray) (w : World) (k : Nat) (hk : Lib.indexByte s.data.toList 47 = (k : Int)) (hs : k < s.size) (hb : s.size ≤ 140737488355328) :
    Calls Tryz.prog 115 #[.string s, .string ⟨#[47]⟩] w fun e w' => e = .returned (.tuple #[.string (s.extract 0 k), .string (s.extract (k + 1) s.size), .bool true]) ∧ Below w.heap.size w w' := by
  have d1 : decide (0 ≤ (k : Int)) = true := by simp
  have w1 : IntKind.i64.wrap ((k : Int) + 1) = (k : Int) + 1 := IntWalk.i64_in _ (by omega)
  have k1 : (0 : Int) ≤ (k : Int) := by omega
  have k2 : ((k : Int)).toNat = k := by omega
  have k3 : k ≤ s.size := by omega
  have k4 : (0 : Int) ≤ (k : Int) + 1 := by omega
  have k5 : ((k : Int) + 1).toNat = k + 1 := by omega
  have k6 : k + 1 ≤ s.size := by omega
  go_enter Tryz.func115, Tryz.ntmps115
  go_wp2_with (go_at_call 119; refine (Index_slash _ _).mono ?_; rintro e w' ⟨rfl, rfl⟩)
  go_quiet (fail)
  go_wp2
  go_ret3
  exact ⟨rfl, below_drewN' (Below.refl _ _) _⟩
theorem lCut_none (s : ByteArray) (w : World) (hk : Lib.indexByte s.data.toList 47 < 0) :
    Calls Tryz.prog 115 #[.string s, .string ⟨#[47]⟩] w fun e w' => e = .returned (.tuple #[.string s, .string ⟨#[]⟩, .bool false]) ∧ Below w.heap.size w w' := by
  have d1 : decide (0 ≤ Lib.indexByte s.data.toList 47) = false := by simp; omega
  go_enter Tryz.func115, Tryz.ntmps115
  go_wp2_with (go_at_call 119; refine (Index_slash _ _).mono ?_; rintro e w' ⟨rfl, rfl⟩)
  go_ret3
  exact ⟨rfl, Below.refl _ _⟩
theorem Cut_slash (s : ByteArray) (w : World) (k : Nat) (hk : Lib.indexByte s.data.toList 47 = (k : Int)) (hs : k < s.size) (hb : s.size ≤ 140737488355328) :
    Calls Tryz.prog 99 #[.string s, .string ⟨#[47]⟩] w fun e w' => e = .returned (.tuple #[.string (s.extract 0 k), .string (s.extract (k + 1) s.size), .bool true]) ∧ Below w.heap.size w w' := by
  go_enter Tryz.func99, Tryz.ntmps99
  go_wp2_with (go_at_call 115; refine (lCut_slash _ _ k hk hs hb).mono ?_; rintro e w' ⟨rfl, hb'⟩)
  go_ret3
  exact ⟨rfl, hb'⟩
theorem Cut_none (s : ByteArray) (w : World) (hk : Lib.indexByte s.data.toList 47 < 0) :
    Calls Tryz.prog 99 #[.string s, .string ⟨#[47]⟩] w fun e w' => e = .returned (.tuple #[.string s, .string ⟨#[]⟩, .bool false]) ∧ Below w.heap.size w w' := by
  go_enter Tryz.func99, Tryz.ntmps99
  go_wp2_with (go_at_call 115; refine (lCut_none _ _ hk).mono ?_; rintro e w' ⟨rfl, hb'⟩)
  go_ret3
  exact ⟨rfl, hb'⟩
theorem IndexByte_any (s : ByteArray) (c : UInt8) (w : World) :
    Calls Tryz.prog 79 #[.string s, .int .u8 c.toNat] w fun e w' => e = .returned (.int .i64 (Lib.indexByte s.data.toList c)) ∧ w' = w := by
  go_enter Tryz.func79, Tryz.ntmps79
  go_wp2_with (go_at_call 97; refine (lIndexByte_any _ _ _).mono ?_; rintro e w' ⟨rfl, rfl⟩)
  go_ret
  exact ⟨rfl, rfl⟩

set_option maxRecDepth 100000 in
set_option maxHeartbeats 3200000 in
theorem Path_any (s : ByteArray) (w : World) (hs : s.size ≤ 140737488355328) :
    Calls Tryz.prog 83 #[.string s] w fun e w' => e = .returned (.bool (pathB s)) ∧ Below w.heap.size w w' := by
  have hR : All w [.kept w w.heap.size] := ⟨⟨Below.refl _ _, Nat.le_refl _⟩, trivial⟩
  by_cases q1 : s.size < 1
  · have d1 : decide ((s.size : Int) < 1) = true := by simp; omega
    have hv : pathB s = false := by simp [pathB, q1]
    go_enter Tryz.func83, Tryz.ntmps83
    go_wp2_with fail
    go_ret
    exact ⟨ret_bool hv.symm, hR.1.1⟩
  · have d1 : decide ((s.size : Int) < 1) = false := by simp; omega
    by_cases q2 : 200 < s.size
    · have d2 : decide (200 < (s.size : Int)) = true := by simp; omega
      have hv : pathB s = false := by simp [pathB, q2]
      go_enter Tryz.func83, Tryz.ntmps83
      go_wp2_with fail
      go_ret
      exact ⟨ret_bool hv.symm, hR.1.1⟩
    · have d2 : decide (200 < (s.size : Int)) = false := by simp; omega
      by_cases q3 : 0 ≤ Lib.indexByte s.data.toList 0
      · have d3 : decide (0 ≤ Lib.indexByte s.data.toList 0) = true := by simpa using q3
        have hv : pathB s = false := by simp [pathB, q3]
        go_enter Tryz.func83, Tryz.ntmps83
        go_wp2_with (go_at_call 79; refine (IndexByte_any _ 0 _).mono ?_; rintro e w1 ⟨rfl, hw1⟩; subst w1)
        go_ret
        exact ⟨ret_bool hv.symm, hR.1.1⟩
      · have d3 : decide (0 ≤ Lib.indexByte s.data.toList 0) = false := by simpa using q3
        have hv : pathB s = namesOk [] s.data.toList := by simp [pathB, q1, q2, q3]
        go_enter Tryz.func83, Tryz.ntmps83
        go_wp2_with (go_at_call 79; refine (IndexByte_any _ 0 _).mono ?_; rintro e w1 ⟨rfl, hw1⟩; subst w1)
        clear d1 d2 d3 q1 q2 q3
        have hI0 := hR
        obtain ⟨l0, hl0⟩ : ∃ l0, l0 = s.data.toList := ⟨_, rfl⟩
        rw [← hl0] at hv
        have HV := Lib.hid hv
        clear hv hR
        go_loopw [0, 3] (fun r m wr => ∃ (s' : ByteArray) (mb : Bool), r = .string s' ∧ m = .bool mb ∧ s'.size ≤ 140737488355328 ∧ (mb = true → namesOk [] l0 = namesOk [] s'.data.toList) ∧ (mb = false → namesOk [] l0 = true) ∧ All wr [.kept w w.heap.size]) (fun r m _ => pathM r m)
        case atStart => exact ⟨s, true, rfl, rfl, hs, fun _ => by rw [hl0], fun h => (by cases h), hI0⟩
        case round =>
        obtain ⟨s', mb, rfl, rfl, hsz, ht, hf, hI⟩ := hrel
        clear hI0 hl0
        cases mb with
        | false =>
          have hL := Lib.hid (hf rfl)
          clear hf ht
          go_wp2_with fail
          go_ret
          exact ⟨ret_bool (by rw [HV.out, hL.out]), hI.1.1⟩
        | true =>
        have hL2 := ht rfl
        have HL : Hid (pathB s = namesOk [] s'.data.toList) := Lib.hid (by rw [HV.out, hL2])
        have HL3 := Lib.hid hL2
        clear hf ht hL2
        have hcc : Lib.indexByte s'.data.toList 47 < 0 ∨ ∃ k : Nat, Lib.indexByte s'.data.toList 47 = (k : Int) := by
          have := idx_ge s'.data.toList 47
          by_cases h : Lib.indexByte s'.data.toList 47 < 0
          · exact .inl h
          · exact .inr ⟨(Lib.indexByte s'.data.toList 47).toNat, by omega⟩
        rcases hcc with hk | ⟨k, hk⟩
        · have HN : Hid (namesOk [] s'.data.toList = okName s'.data.toList) := Lib.hid (names_none _ [] hk)
          cases h0 : (s'.toList == []) with
          | true =>
            have h0' : s'.toList.isEmpty = true := by simpa using h0
            have hok : okName s'.data.toList = false := by rw [okName_iff, h0]; rfl
            go_wp2_with (first | (go_at_call 99; refine (Cut_none s' _ hk).mono ?_; rintro e w' ⟨rfl, hb'⟩; have hI2 := hI.call hb'))
            go_ret
            exact ⟨ret_bool (by rw [HL.out, HN.out, hok] <;> rfl), hI2.1.1⟩
          | false =>
            have h0' : s'.toList.isEmpty = false := by simpa using h0
            cases h1 : (s'.toList == [46]) with
            | true =>
              have hok : okName s'.data.toList = false := by rw [okName_iff, h0, h1]; rfl
              go_wp2_with (first | (go_at_call 99; refine (Cut_none s' _ hk).mono ?_; rintro e w' ⟨rfl, hb'⟩; have hI2 := hI.call hb'))
              go_ret
              exact ⟨ret_bool (by rw [HL.out, HN.out, hok] <;> rfl), hI2.1.1⟩
            | false =>
              cases h2 : (s'.toList == [46, 46]) with
              | true =>
                have hok : okName s'.data.toList = false := by rw [okName_iff, h0, h1, h2]; rfl
                go_wp2_with (first | (go_at_call 99; refine (Cut_none s' _ hk).mono ?_; rintro e w' ⟨rfl, hb'⟩; have hI2 := hI.call hb'))
                go_ret
                exact ⟨ret_bool (by rw [HL.out, HN.out, hok] <;> rfl), hI2.1.1⟩
              | false =>
                have hok : okName s'.data.toList = true := by rw [okName_iff, h0, h1, h2]; rfl
                go_wp2_with (first | (go_at_call 99; refine (Cut_none s' _ hk).mono ?_; rintro e w' ⟨rfl, hb'⟩; have hI2 := hI.call hb'))
                refine ⟨⟨⟨#[]⟩, false, rfl, rfl, by decide, fun h => (by cases h), fun _ => ?_, hI2⟩, ?_⟩
                · rw [HL3.out, HN.out, hok]
                · simp only [pathM]; omega
        · obtain ⟨hkl, hn⟩ := names_at _ [] k hk
          have hks : k < s'.size := hkl
          have HN : Hid (namesOk [] s'.data.toList = (okName (s'.extract 0 k).data.toList && namesOk [] (s'.data.toList.drop (k + 1)))) := Lib.hid (by rw [hn, ext_take _ _ (by omega)]; rfl)
          clear hn hkl
          cases h0 : ((s'.extract 0 k).toList == []) with
          | true =>
            have h0' : (s'.extract 0 k).toList.isEmpty = true := by simpa using h0
            have hok : okName (s'.extract 0 k).data.toList = false := by rw [okName_iff, h0]; rfl
            go_wp2_with (first | (go_at_call 99; refine (Cut_slash s' _ k hk hks hsz).mono ?_; rintro e w' ⟨rfl, hb'⟩; have hI2 := hI.call hb'))
            go_ret
            exact ⟨ret_bool (by rw [HL.out, HN.out, hok] <;> rfl), hI2.1.1⟩
          | false =>
            have h0' : (s'.extract 0 k).toList.isEmpty = false := by simpa using h0
            cases h1 : ((s'.extract 0 k).toList == [46]) with
            | true =>
              have hok : okName (s'.extract 0 k).data.toList = false := by rw [okName_iff, h0, h1]; rfl
              go_wp2_with (first | (go_at_call 99; refine (Cut_slash s' _ k hk hks hsz).mono ?_; rintro e w' ⟨rfl, hb'⟩; have hI2 := hI.call hb'))
              go_ret
              exact ⟨ret_bool (by rw [HL.out, HN.out, hok] <;> rfl), hI2.1.1⟩
            | false =>
              cases h2 : ((s'.extract 0 k).toList == [46, 46]) with
              | true =>
                have hok : okName (s'.extract 0 k).data.toList = false := by rw [okName_iff, h0, h1, h2]; rfl
                go_wp2_with (first | (go_at_call 99; refine (Cut_slash s' _ k hk hks hsz).mono ?_; rintro e w' ⟨rfl, hb'⟩; have hI2 := hI.call hb'))
                go_ret
                exact ⟨ret_bool (by rw [HL.out, HN.out, hok] <;> rfl), hI2.1.1⟩
              | false =>
                have hok : okName (s'.extract 0 k).data.toList = true := by rw [okName_iff, h0, h1, h2]; rfl
                go_wp2_with (first | (go_at_call 99; refine (Cut_slash s' _ k hk hks hsz).mono ?_; rintro e w' ⟨rfl, hb'⟩; have hI2 := hI.call hb'))
                refine ⟨⟨s'.extract (k + 1) s'.size, true, rfl, rfl, by rw [ByteArray.size_extract]; omega, fun _ => ?_, fun h => (by cases h), hI2⟩, ?_⟩
                · rw [HL3.out, HN.out, hok, ext_drop]; rfl
                · simp only [pathM, ByteArray.size_extract]; omega
end Go.Proofs.YtjdinakdkdjocaaGreatDoor
set_option linter.unusedSimpArgs false
set_option linter.unusedVariables false
namespace Go.Adm
open Go Go.RowKit
section
variable {α : Type} (key : α → ByteArray) (good : α → Bool)
def okAt1 (l : List α) (k : Nat) (e : α) : Bool := good e && (match k with | 0 => true | j + 1 => match l[j]? with | none => true | some e' => blt (key e') (key e))
def okAt (l : List α) (k : Nat) : Bool := match l[k]? with | none => true | some e => okAt1 key good l k e
theorem okAt_at (l : List α) (k : Nat) (hk : k < l.length) : okAt key good l k = okAt1 key good l k l[k] := by
  unfold okAt
  rw [List.getElem?_eq_getElem hk]
theorem okAt1_bad (l : List α) (k : Nat) (e : α) (h : good e = false) : okAt1 key good l k e = false := by simp [okAt1, h]
theorem okAt1_zero (l : List α) (k : Nat) (e : α) (h : good e = true) (hk : k = 0) : okAt1 key good l k e = true := by subst hk; simp [okAt1, h]
theorem okAt1_succ (l : List α) (k j : Nat) (e : α) (h : good e = true) (hk : k = j + 1) (hj : j < l.length) {v : Bool} (hv : blt (key l[j]) (key e) = v) : okAt1 key good l k e = v := by
  subst hk
  simp [okAt1, h, hj, hv]
def okAll (m : Nat) (l : List α) : Bool := decide (l.length ≤ m) && (List.range l.length).all (okAt key good l)
theorem okAll_no (m : Nat) (l : List α) (k : Nat) (hk : k < l.length) (h : okAt key good l k = false) : okAll key good m l = false := by
  have : (List.range l.length).all (okAt key good l) = false := by
    rw [List.all_eq_false]
    exact ⟨k, List.mem_range.2 hk, by rw [h]; decide⟩
  rw [okAll, this, Bool.and_false]
theorem okAll_all (m : Nat) (l : List α) (h : ∀ i < l.length, okAt key good l i = true) : okAll key good m l = decide (l.length ≤ m) := by
  have : (List.range l.length).all (okAt key good l) = true := List.all_eq_true.2 fun i hi => h i (List.mem_range.1 hi)
  rw [okAll, this, Bool.and_true]
end
theorem wp_eql {P : Program} {o : Oper} {a : Act} {w : World} {K : Act → World → Prop} {Q : Exit → Act → World → Prop} {t t2 : TypeId} (x y : Operand) (ho : o.op = .binOp .eql t x y t2) (v : Value)
    (h : (binOp .eql t (a.eval x) (a.eval y)).run P w = .ok v w) (hg : (eqGuard .eql t x y (a.eval x) (a.eval y)).run P w = .ok () w) (hk : K (a.put o.dst v) w) : o.wp P a w K Q := by
  unfold Oper.wp execOp
  simp only [ho, Sem.run_bind, hg, h, Result.andThen_ok]
  exact hk
def goodE (e : E) : Bool := pathB e.p && !decide (e.d = z32)
def goodC (c : C) : Bool := pathB c.p && !decide (c.o = c.n)
def validB (l : List E) : Bool := okAll Ent.p goodE 64 l
def changesB (l : List C) : Bool := okAll Chg.p goodC 128 l
theorem validB_no (l : List E) (k : Nat) (hk : k < l.length) (h : okAt Ent.p goodE l k = false) : validB l = false := okAll_no _ _ _ l k hk h
theorem changesB_no (l : List C) (k : Nat) (hk : k < l.length) (h : okAt Chg.p goodC l k = false) : changesB l = false := okAll_no _ _ _ l k hk h
theorem validB_all (l : List E) (h : ∀ i < l.length, okAt Ent.p goodE l i = true) : validB l = decide (l.length ≤ 64) := okAll_all _ _ _ l h
theorem changesB_all (l : List C) (h : ∀ i < l.length, okAt Chg.p goodC l i = true) : changesB l = decide (l.length ≤ 128) := okAll_all _ _ _ l h
end Go.Adm
namespace Go.Proofs.YtjdinakdkdjocaaGreatDoor
open Go Go.RowKit Go.Adm

set_option maxRecDepth 100000 in
set_option maxHeartbeats 3200000 in
theorem Valid_any (w : World) (B : Nat) (A : Option Addr) (n c : Nat) (l : List E) (hl : Els w B 33 A n (l.map entC)) (h32 : ∀ e ∈ l, E32 e) (hn : l.length = n) (hn2 : n ≤ 1000000) (hB : B ≤ w.heap.size) :
    Calls Tryz.prog 60 #[.slice A n c] w fun e w' => e = .returned (.bool (validB l)) ∧ Below w.heap.size w w' := by
  have hR : All w [.low (.els B 33 A n (l.map entC)), .kept w w.heap.size] := ⟨⟨hl, hB⟩, ⟨Below.refl _ _, Nat.le_refl _⟩, trivial⟩
  have HN := Lib.hid hn
  have H32 := Lib.hid h32
  clear hl h32 hn
  have hzr := zero_ent
  go_enter Tryz.func60, Tryz.ntmps60
  go_upto_region 1 with (fail)
  have hI0 := hR
  clear hR
  go_wp2
  go_loopw [7] (fun i wr => ∃ (k : Nat), k ≤ n ∧ i = .int .i64 k ∧ (∀ i < k, okAt Ent.p goodE l i = true) ∧ All wr [.low (.els B 33 A n (l.map entC)), .kept w w.heap.size]) (fun i _ => n - (intOf i).toNat)
  case atStart => exact ⟨0, by omega, rfl, fun i hi => absurd hi (by omega), hI0⟩
  case round =>
    obtain ⟨k, hk, rfl, hA, hI⟩ := hrel
    have HA := Lib.hid hA
    clear hA hI0
    by_cases hlt : k < n
    · have hkl : k < l.length := by rw [HN.out]; exact hlt
      obtain ⟨ad, rfl, hadB, hc⟩ := Els.elem (hI.at_ 0 rfl : Els wr B 33 A n (l.map entC) ∧ B ≤ wr.heap.size).1 hkl
      have HC := Lib.hid hc
      have hx := Lib.hid (H32.out _ (List.getElem_mem hkl))
      have HO : Hid (∀ v, okAt1 Ent.p goodE l k l[k] = v → okAt Ent.p goodE l k = v) := Lib.hid (fun v hv => by rw [okAt_at _ _ _ _ hkl]; exact hv)
      clear hc
      generalize l[k] = x at *
      have hsz : w.heap.size ≤ wr.heap.size := hI.size_kept 1 rfl
      obtain ⟨gx, hgx⟩ : ∃ gx, gx = wr.heap.size := ⟨_, rfl⟩
      have d1 : decide ((k : Int) < (n : Int)) = true := by simp; omega
      go_upto_region 4 with (first
        | (refine wl_load_any rfl 70 (.tmp 10) rfl (ad.add (k * 33)) rfl (entC x) _ HC.out Tryz.underlying70 rfl (by rw [entC_len hx.out]; kernel_rfl) ?_)
        | (refine wl_store_at (hI.new (l := entZ) _ 70 hgx rfl) 0 rfl 70 (.tmp 4) (.tmp 11) rfl gx _ _ (entC x) rfl (by rw [hgx]; rfl) rfl (by rw [entC_len hx.out]; rfl) (by rw [entC_len hx.out]; kernel_rfl) (entC_one x) (by simp [Apart, Res.apart, Low.els] <;> omega) ?_; intro W2 hW2 hs2; clear hs2; simp only [List.set_cons_zero] at hW2))
      simp only [← hgx]
      have hgB : B ≤ gx := by omega
      clear hgx hI
      cases hp : pathB x.p with
      | false =>
        have HP := Lib.hid hp
        have HF : Hid (okAt Ent.p goodE l k = false) := Lib.hid (HO.out _ (okAt1_bad _ _ _ _ _ (by rw [goodE, hp]; rfl)))
        replace HF : Hid (validB l = false) := Lib.hid (validB_no l k hkl HF.out)
        clear hp
        refine wp_region_hopsH 24 (12 :: 13 :: 14 :: 15 :: 16 :: 17 :: 18 :: 19 :: 20 :: 21 :: 22 :: 23 :: 24 :: 25 :: 26 :: 27 :: 28 :: 29 :: 30 :: 31 :: 32 :: 33 :: 34 :: 35 :: []) _
          (.eq (.pointer (some ⟨gx, 0, none⟩)) :: .eq (.string x.p) :: .eq (.bool false) :: .eq (.bool true) :: .eq (.bool true) :: .eq undef :: .eq undef :: .eq undef :: .eq undef :: .eq (.bool true) :: .eq (.bool true) :: .eq undef :: .eq undef :: .eq undef :: .eq undef :: .eq undef :: .eq undef :: .eq undef :: .eq undef :: .eq undef :: .eq undef :: .eq undef :: .eq undef :: .eq undef :: [])
          (by kernel_rfl) (by kernel_rfl) hW2 rfl ?hops ?fin
        case hops =>
          refine ⟨?_, ?_, ?_, ?_, ?_, ?_, ?_, ?_, ?_, ?_, ?_, ?_, ?_, ?_, ?_, ?_, ?_, ?_, ?_, ?_, ?_, ?_, ?_, ?_, trivial⟩
          · intro a W hW hb hd K hK
            have b4 := hb 4 rfl
            go_simp
            exact hK _ _ (World.grownBy.refl _ _) rfl
          · intro a W hW hb hd K hK
            have b12 : a.tmps[12]?.getD undef = _ := hd ⟨0, .data⟩ (by simp) rfl
            have q1 : W.cell? ⟨gx, 0, none⟩ = some (.string x.p) := Cells.cell (hW.at_ 0 rfl) (i := 0) (by simp [entC])
            go_simp
            exact hK _ _ (World.grownBy.refl _ _) rfl
          · intro a W hW hb hd K hK
            have b13 : a.tmps[13]?.getD undef = _ := hd ⟨1, .data⟩ (by simp) rfl
            go_simp
            refine (Path_any x.p W hx.out.2).mono ?_
            rintro e w' ⟨rfl, hb'⟩
            exact hK _ _ (grown_of_below hb') (congrArg Value.bool HP.out)
          · intro a W hW hb hd K hK
            have b14 : a.tmps[14]?.getD undef = _ := hd ⟨2, .data⟩ (by simp) rfl
            go_simp
            exact hK _ _ (World.grownBy.refl _ _) rfl
          · intro a W hW hb hd K hK
            have b15 : a.tmps[15]?.getD undef = _ := hd ⟨3, .data⟩ (by simp) rfl
            go_simp
            exact hK _ _ (World.grownBy.refl _ _) rfl
          · exact Or.inr ⟨fun v w h => by rw [show v = _ from h]; first | (intro h2; cases h2) | (simp [undef]), fun w => rfl⟩
          · exact Or.inr ⟨fun v w h => by rw [show v = _ from h]; first | (intro h2; cases h2) | (simp [undef]), fun w => rfl⟩
          · exact Or.inr ⟨fun v w h => by rw [show v = _ from h]; first | (intro h2; cases h2) | (simp [undef]), fun w => rfl⟩
          · exact Or.inr ⟨fun v w h => by rw [show v = _ from h]; first | (intro h2; cases h2) | (simp [undef]), fun w => rfl⟩
          · intro a W hW hb hd K hK
            have b16 : a.tmps[16]?.getD undef = _ := hd ⟨4, .data⟩ (by simp) rfl
            have b20 : a.tmps[20]?.getD undef = _ := hd ⟨8, .data⟩ (by simp) rfl
            go_simp
            exact hK _ _ (World.grownBy.refl _ _) rfl
          · intro a W hW hb hd K hK
            have b21 : a.tmps[21]?.getD undef = _ := hd ⟨9, .data⟩ (by simp) rfl
            go_simp
            exact hK _ _ (World.grownBy.refl _ _) rfl
          · exact Or.inr ⟨fun v w h => by rw [show v = _ from h]; first | (intro h2; cases h2) | (simp [undef]), fun w => rfl⟩
          · exact Or.inr ⟨fun v w h => by rw [show v = _ from h]; first | (intro h2; cases h2) | (simp [undef]), fun w => rfl⟩
          · exact Or.inr ⟨fun v w h => by rw [show v = _ from h]; first | (intro h2; cases h2) | (simp [undef]), fun w => rfl⟩
          · exact Or.inr ⟨fun v w h => by rw [show v = _ from h]; first | (intro h2; cases h2) | (simp [undef]), fun w => rfl⟩
          · exact Or.inr ⟨fun v w h => by rw [show v = _ from h]; first | (intro h2; cases h2) | (simp [undef]), fun w => rfl⟩
          · exact Or.inr ⟨fun v w h => by rw [show v = _ from h]; first | (intro h2; cases h2) | (simp [undef]), fun w => rfl⟩
          · exact Or.inr ⟨fun v w h => by rw [show v = _ from h]; first | (intro h2; cases h2) | (simp [undef]), fun w => rfl⟩
          · exact Or.inr ⟨fun v w h => by rw [show v = _ from h]; first | (intro h2; cases h2) | (simp [undef]), fun w => rfl⟩
          · exact Or.inr ⟨fun v w h => by rw [show v = _ from h]; first | (intro h2; cases h2) | (simp [undef]), fun w => rfl⟩
          · exact Or.inr ⟨fun v w h => by rw [show v = _ from h]; first | (intro h2; cases h2) | (simp [undef]), fun w => rfl⟩
          · exact Or.inr ⟨fun v w h => by rw [show v = _ from h]; first | (intro h2; cases h2) | (simp [undef]), fun w => rfl⟩
          · exact Or.inr ⟨fun v w h => by rw [show v = _ from h]; first | (intro h2; cases h2) | (simp [undef]), fun w => rfl⟩
          · exact Or.inr ⟨fun v w h => by rw [show v = _ from h]; first | (intro h2; cases h2) | (simp [undef]), fun w => rfl⟩
        case fin =>
          intro vs W hW hv
          have e10 : vs 10 = _ := hv 10 (by decide)
          have e23 : vs 23 = _ := hv 23 (by decide)
          clear hv
          simp only [putAll, List.drop_succ_cons, List.drop_zero, e10, e23, Act.put, List.setIfInBounds_toArray, List.set_cons_succ, List.set_cons_zero]
          clear e10 e23
          go_wp2_with fail
          go_ret
          exact ⟨ret_bool (by rw [HF.out]), (hW.at_ 2 rfl).1⟩
      | true =>
        have HP := Lib.hid hp
        cases hz : (decide (x.d = z32)) with
        | true =>
          have HZ := Lib.hid hz
          have HF : Hid (okAt Ent.p goodE l k = false) := Lib.hid (HO.out _ (okAt1_bad _ _ _ _ _ (by rw [goodE, hz]; simp)))
          replace HF : Hid (validB l = false) := Lib.hid (validB_no l k hkl HF.out)
          clear hp hz
          refine wp_region_hopsH 24 (12 :: 13 :: 14 :: 15 :: 16 :: 17 :: 18 :: 19 :: 20 :: 21 :: 22 :: 23 :: 24 :: 25 :: 26 :: 27 :: 28 :: 29 :: 30 :: 31 :: 32 :: 33 :: 34 :: 35 :: []) _
            (.eq (.pointer (some ⟨gx, 0, none⟩)) :: .eq (.string x.p) :: .eq (.bool true) :: .eq (.bool false) :: .eq (.bool false) :: .eq (.pointer (some ⟨gx, 1, none⟩)) :: .eq (.agg (x.d.map bv).toArray) :: .eq (.agg (z32.map bv).toArray) :: .eq (.bool true) :: .eq (.bool true) :: .eq (.bool true) :: .eq undef :: .eq undef :: .eq undef :: .eq undef :: .eq undef :: .eq undef :: .eq undef :: .eq undef :: .eq undef :: .eq undef :: .eq undef :: .eq undef :: .eq undef :: [])
            (by kernel_rfl) (by kernel_rfl) hW2 rfl ?hops ?fin
          case hops =>
            refine ⟨?_, ?_, ?_, ?_, ?_, ?_, ?_, ?_, ?_, ?_, ?_, ?_, ?_, ?_, ?_, ?_, ?_, ?_, ?_, ?_, ?_, ?_, ?_, ?_, trivial⟩
            · intro a W hW hb hd K hK
              have b4 := hb 4 rfl
              go_simp
              exact hK _ _ (World.grownBy.refl _ _) rfl
            · intro a W hW hb hd K hK
              have b12 : a.tmps[12]?.getD undef = _ := hd ⟨0, .data⟩ (by simp) rfl
              have q1 : W.cell? ⟨gx, 0, none⟩ = some (.string x.p) := Cells.cell (hW.at_ 0 rfl) (i := 0) (by simp [entC])
              go_simp
              exact hK _ _ (World.grownBy.refl _ _) rfl
            · intro a W hW hb hd K hK
              have b13 : a.tmps[13]?.getD undef = _ := hd ⟨1, .data⟩ (by simp) rfl
              go_simp
              refine (Path_any x.p W hx.out.2).mono ?_
              rintro e w' ⟨rfl, hb'⟩
              exact hK _ _ (grown_of_below hb') (congrArg Value.bool HP.out)
            · intro a W hW hb hd K hK
              have b14 : a.tmps[14]?.getD undef = _ := hd ⟨2, .data⟩ (by simp) rfl
              go_simp
              exact hK _ _ (World.grownBy.refl _ _) rfl
            · intro a W hW hb hd K hK
              have b15 : a.tmps[15]?.getD undef = _ := hd ⟨3, .data⟩ (by simp) rfl
              go_simp
              exact hK _ _ (World.grownBy.refl _ _) rfl
            · refine Or.inl ⟨fun v w h => h, ?_⟩
              intro a W hW hb hd K hK
              have b4 := hb 4 rfl
              go_simp
              exact hK _ _ (World.grownBy.refl _ _) rfl
            · refine Or.inl ⟨fun v w h => h, ?_⟩
              intro a W hW hb hd K hK
              have b17 : a.tmps[17]?.getD undef = _ := hd ⟨5, .data⟩ (by simp) rfl
              refine wp_load_any 68 (.tmp 17) rfl ⟨gx, 1, none⟩ (by simp [Act.eval, b17]) (x.d.map bv) _ (Cells.sub (hW.at_ 0 rfl) 1 (ent_sub x)) Tryz.underlying68 rfl (by rw [List.length_map, hx.out.1]; kernel_rfl) ?_
              exact hK _ _ (World.grownBy.refl _ _) rfl
            · refine Or.inl ⟨fun v w h => h, ?_⟩
              intro a W hW hb hd K hK
              go_simp
              exact hK _ _ (World.grownBy.refl _ _) rfl
            · refine Or.inl ⟨fun v w h => h, ?_⟩
              intro a W hW hb hd K hK
              have b18 : a.tmps[18]?.getD undef = _ := hd ⟨6, .data⟩ (by simp) rfl
              have b19 : a.tmps[19]?.getD undef = _ := hd ⟨7, .data⟩ (by simp) rfl
              have q1 := eq_dg W x.d z32 hx.out.1 rfl
              rw [HZ.out] at q1
              refine wp_eql (.tmp 18) (.tmp 19) rfl _ (by rw [show a.eval (.tmp 18) = _ from by simp only [Act.eval, Array.getD_eq_getD_getElem?]; exact b18, show a.eval (.tmp 19) = _ from by simp only [Act.eval, Array.getD_eq_getD_getElem?]; exact b19]; exact q1) (by go_simp) ?_
              exact hK _ _ (World.grownBy.refl _ _) rfl
            · intro a W hW hb hd K hK
              have b16 : a.tmps[16]?.getD undef = _ := hd ⟨4, .data⟩ (by simp) rfl
              have b20 : a.tmps[20]?.getD undef = _ := hd ⟨8, .data⟩ (by simp) rfl
              go_simp
              exact hK _ _ (World.grownBy.refl _ _) rfl
            · intro a W hW hb hd K hK
              have b21 : a.tmps[21]?.getD undef = _ := hd ⟨9, .data⟩ (by simp) rfl
              go_simp
              exact hK _ _ (World.grownBy.refl _ _) rfl
            · exact Or.inr ⟨fun v w h => by rw [show v = _ from h]; first | (intro h2; cases h2) | (simp [undef]), fun w => rfl⟩
            · exact Or.inr ⟨fun v w h => by rw [show v = _ from h]; first | (intro h2; cases h2) | (simp [undef]), fun w => rfl⟩
            · exact Or.inr ⟨fun v w h => by rw [show v = _ from h]; first | (intro h2; cases h2) | (simp [undef]), fun w => rfl⟩
            · exact Or.inr ⟨fun v w h => by rw [show v = _ from h]; first | (intro h2; cases h2) | (simp [undef]), fun w => rfl⟩
            · exact Or.inr ⟨fun v w h => by rw [show v = _ from h]; first | (intro h2; cases h2) | (simp [undef]), fun w => rfl⟩
            · exact Or.inr ⟨fun v w h => by rw [show v = _ from h]; first | (intro h2; cases h2) | (simp [undef]), fun w => rfl⟩
            · exact Or.inr ⟨fun v w h => by rw [show v = _ from h]; first | (intro h2; cases h2) | (simp [undef]), fun w => rfl⟩
            · exact Or.inr ⟨fun v w h => by rw [show v = _ from h]; first | (intro h2; cases h2) | (simp [undef]), fun w => rfl⟩
            · exact Or.inr ⟨fun v w h => by rw [show v = _ from h]; first | (intro h2; cases h2) | (simp [undef]), fun w => rfl⟩
            · exact Or.inr ⟨fun v w h => by rw [show v = _ from h]; first | (intro h2; cases h2) | (simp [undef]), fun w => rfl⟩
            · exact Or.inr ⟨fun v w h => by rw [show v = _ from h]; first | (intro h2; cases h2) | (simp [undef]), fun w => rfl⟩
            · exact Or.inr ⟨fun v w h => by rw [show v = _ from h]; first | (intro h2; cases h2) | (simp [undef]), fun w => rfl⟩
            · exact Or.inr ⟨fun v w h => by rw [show v = _ from h]; first | (intro h2; cases h2) | (simp [undef]), fun w => rfl⟩
          case fin =>
            intro vs W hW hv
            have e10 : vs 10 = _ := hv 10 (by decide)
            have e23 : vs 23 = _ := hv 23 (by decide)
            clear hv
            simp only [putAll, List.drop_succ_cons, List.drop_zero, e10, e23, Act.put, List.setIfInBounds_toArray, List.set_cons_succ, List.set_cons_zero]
            clear e10 e23
            go_wp2_with fail
            go_ret
            exact ⟨ret_bool (by rw [HF.out]), (hW.at_ 2 rfl).1⟩
        | false =>
          have HZ := Lib.hid hz
          have HG : Hid (goodE x = true) := Lib.hid (by rw [goodE, hp, hz]; rfl)
          clear hp hz
          by_cases hk0 : k = 0
          · have HF : Hid (okAt Ent.p goodE l k = true) := Lib.hid (HO.out _ (okAt1_zero _ _ _ _ _ HG.out hk0))
            have d2 : decide (0 < (k : Int)) = false := by simp; omega
            have d3 : decide (0 < k) = false := by simp; omega
            clear hk0
            refine wp_region_hopsH 24 (12 :: 13 :: 14 :: 15 :: 16 :: 17 :: 18 :: 19 :: 20 :: 21 :: 22 :: 23 :: 24 :: 25 :: 26 :: 27 :: 28 :: 29 :: 30 :: 31 :: 32 :: 33 :: 34 :: 35 :: []) _
              (.eq (.pointer (some ⟨gx, 0, none⟩)) :: .eq (.string x.p) :: .eq (.bool true) :: .eq (.bool false) :: .eq (.bool false) :: .eq (.pointer (some ⟨gx, 1, none⟩)) :: .eq (.agg (x.d.map bv).toArray) :: .eq (.agg (z32.map bv).toArray) :: .eq (.bool false) :: .eq (.bool false) :: .eq (.bool false) :: .eq (.int .i64 k) :: .eq (.bool false) :: .eq (.bool false) :: .eq undef :: .eq undef :: .eq undef :: .eq undef :: .eq undef :: .eq undef :: .eq undef :: .eq undef :: .eq undef :: .eq (.bool false) :: [])
              (by kernel_rfl) (by kernel_rfl) hW2 rfl ?hops ?fin
            case hops =>
              refine ⟨?_, ?_, ?_, ?_, ?_, ?_, ?_, ?_, ?_, ?_, ?_, ?_, ?_, ?_, ?_, ?_, ?_, ?_, ?_, ?_, ?_, ?_, ?_, ?_, trivial⟩
              · intro a W hW hb hd K hK
                have b4 := hb 4 rfl
                go_simp
                exact hK _ _ (World.grownBy.refl _ _) rfl
              · intro a W hW hb hd K hK
                have b12 : a.tmps[12]?.getD undef = _ := hd ⟨0, .data⟩ (by simp) rfl
                have q1 : W.cell? ⟨gx, 0, none⟩ = some (.string x.p) := Cells.cell (hW.at_ 0 rfl) (i := 0) (by simp [entC])
                go_simp
                exact hK _ _ (World.grownBy.refl _ _) rfl
              · intro a W hW hb hd K hK
                have b13 : a.tmps[13]?.getD undef = _ := hd ⟨1, .data⟩ (by simp) rfl
                go_simp
                refine (Path_any x.p W hx.out.2).mono ?_
                rintro e w' ⟨rfl, hb'⟩
                exact hK _ _ (grown_of_below hb') (congrArg Value.bool HP.out)
              · intro a W hW hb hd K hK
                have b14 : a.tmps[14]?.getD undef = _ := hd ⟨2, .data⟩ (by simp) rfl
                go_simp
                exact hK _ _ (World.grownBy.refl _ _) rfl
              · intro a W hW hb hd K hK
                have b15 : a.tmps[15]?.getD undef = _ := hd ⟨3, .data⟩ (by simp) rfl
                go_simp
                exact hK _ _ (World.grownBy.refl _ _) rfl
              · refine Or.inl ⟨fun v w h => h, ?_⟩
                intro a W hW hb hd K hK
                have b4 := hb 4 rfl
                go_simp
                exact hK _ _ (World.grownBy.refl _ _) rfl
              · refine Or.inl ⟨fun v w h => h, ?_⟩
                intro a W hW hb hd K hK
                have b17 : a.tmps[17]?.getD undef = _ := hd ⟨5, .data⟩ (by simp) rfl
                refine wp_load_any 68 (.tmp 17) rfl ⟨gx, 1, none⟩ (by simp [Act.eval, b17]) (x.d.map bv) _ (Cells.sub (hW.at_ 0 rfl) 1 (ent_sub x)) Tryz.underlying68 rfl (by rw [List.length_map, hx.out.1]; kernel_rfl) ?_
                exact hK _ _ (World.grownBy.refl _ _) rfl
              · refine Or.inl ⟨fun v w h => h, ?_⟩
                intro a W hW hb hd K hK
                go_simp
                exact hK _ _ (World.grownBy.refl _ _) rfl
              · refine Or.inl ⟨fun v w h => h, ?_⟩
                intro a W hW hb hd K hK
                have b18 : a.tmps[18]?.getD undef = _ := hd ⟨6, .data⟩ (by simp) rfl
                have b19 : a.tmps[19]?.getD undef = _ := hd ⟨7, .data⟩ (by simp) rfl
                have q1 := eq_dg W x.d z32 hx.out.1 rfl
                rw [HZ.out] at q1
                refine wp_eql (.tmp 18) (.tmp 19) rfl _ (by rw [show a.eval (.tmp 18) = _ from by simp only [Act.eval, Array.getD_eq_getD_getElem?]; exact b18, show a.eval (.tmp 19) = _ from by simp only [Act.eval, Array.getD_eq_getD_getElem?]; exact b19]; exact q1) (by go_simp) ?_
                exact hK _ _ (World.grownBy.refl _ _) rfl
              · intro a W hW hb hd K hK
                have b16 : a.tmps[16]?.getD undef = _ := hd ⟨4, .data⟩ (by simp) rfl
                have b20 : a.tmps[20]?.getD undef = _ := hd ⟨8, .data⟩ (by simp) rfl
                go_simp
                exact hK _ _ (World.grownBy.refl _ _) rfl
              · intro a W hW hb hd K hK
                have b21 : a.tmps[21]?.getD undef = _ := hd ⟨9, .data⟩ (by simp) rfl
                go_simp
                exact hK _ _ (World.grownBy.refl _ _) rfl
              · refine Or.inl ⟨fun v w h => h, ?_⟩
                intro a W hW hb hd K hK
                have b3 := hb 3 rfl
                go_simp
                exact hK _ _ (World.grownBy.refl _ _) rfl
              · refine Or.inl ⟨fun v w h => h, ?_⟩
                intro a W hW hb hd K hK
                have b23 : a.tmps[23]?.getD undef = _ := hd ⟨11, .data⟩ (by simp) rfl
                go_simp
                exact hK _ _ (World.grownBy.refl _ _) rfl
              · refine Or.inl ⟨fun v w h => h, ?_⟩
                intro a W hW hb hd K hK
                have b24 : a.tmps[24]?.getD undef = _ := hd ⟨12, .data⟩ (by simp) rfl
                go_simp
                exact hK _ _ (World.grownBy.refl _ _) rfl
              · exact Or.inr ⟨fun v w h => by rw [show v = _ from h]; first | (intro h2; cases h2) | (simp [undef]), fun w => rfl⟩
              · exact Or.inr ⟨fun v w h => by rw [show v = _ from h]; first | (intro h2; cases h2) | (simp [undef]), fun w => rfl⟩
              · exact Or.inr ⟨fun v w h => by rw [show v = _ from h]; first | (intro h2; cases h2) | (simp [undef]), fun w => rfl⟩
              · exact Or.inr ⟨fun v w h => by rw [show v = _ from h]; first | (intro h2; cases h2) | (simp [undef]), fun w => rfl⟩
              · exact Or.inr ⟨fun v w h => by rw [show v = _ from h]; first | (intro h2; cases h2) | (simp [undef]), fun w => rfl⟩
              · exact Or.inr ⟨fun v w h => by rw [show v = _ from h]; first | (intro h2; cases h2) | (simp [undef]), fun w => rfl⟩
              · exact Or.inr ⟨fun v w h => by rw [show v = _ from h]; first | (intro h2; cases h2) | (simp [undef]), fun w => rfl⟩
              · exact Or.inr ⟨fun v w h => by rw [show v = _ from h]; first | (intro h2; cases h2) | (simp [undef]), fun w => rfl⟩
              · exact Or.inr ⟨fun v w h => by rw [show v = _ from h]; first | (intro h2; cases h2) | (simp [undef]), fun w => rfl⟩
              · refine Or.inl ⟨fun v w h => h, ?_⟩
                intro a W hW hb hd K hK
                have b25 : a.tmps[25]?.getD undef = _ := hd ⟨13, .data⟩ (by simp) rfl
                have b34 : a.tmps[34]?.getD undef = _ := hd ⟨22, .data⟩ (by simp) rfl
                go_simp
                exact hK _ _ (World.grownBy.refl _ _) rfl
            case fin =>
              intro vs W hW hv
              have e10 : vs 10 = _ := hv 10 (by decide)
              have e23 : vs 23 = _ := hv 23 (by decide)
              clear hv
              simp only [putAll, List.drop_succ_cons, List.drop_zero, e10, e23, Act.put, List.setIfInBounds_toArray, List.set_cons_succ, List.set_cons_zero]
              clear e10 e23
              go_wp2_with fail
              refine ⟨⟨k + 1, by omega, by go_num, fun i hi => ?_, hW.2⟩, by simp [intOf]; omega⟩
              by_cases hik : i = k
              · rw [hik]; exact HF.out
              · exact HA.out i (by omega)
          · obtain ⟨j, hj⟩ : ∃ j, k = j + 1 := ⟨k - 1, by omega⟩
            have hjl : j < l.length := by omega
            have HJ : Hid (∀ W, All W [.cells gx 70 (entC x), .low (.els B 33 (some ad) n (l.map entC)), .kept w w.heap.size] → W.cell? (ad.add (j * 33)) = some (.string l[j].p)) := Lib.hid (fun W hW => by
              obtain ⟨ad', e, _, hc⟩ := Els.elem (hW.at_ 1 rfl : Els W B 33 (some ad) n (l.map entC) ∧ B ≤ W.heap.size).1 hjl
              obtain rfl := Option.some.inj e
              have := hc 0 (sv l[j].p) rfl
              rwa [add_zero] at this)
            have HO2 : Hid (∀ v, blt l[j].p x.p = v → okAt Ent.p goodE l k = v) := Lib.hid (fun v hv => HO.out _ (okAt1_succ _ _ _ _ _ _ HG.out hj hjl hv))
            generalize l[j] = y at *
            have HY := HJ
            have d2 : decide (0 < (k : Int)) = true := by simp; omega
            have d3 : decide (0 < k) = true := by simp; omega
            have w1 : IntKind.i64.wrap ((k : Int) - 1) = (j : Int) := by rw [IntWalk.i64_in _ (by omega)]; omega
            have wj1 : (0 : Int) ≤ (j : Int) := by omega
            have wj2 : (j : Int) < (n : Int) := by omega
            have wj3 : ((j : Int)).toNat = j := by omega
            have HK := Lib.hid hj
            clear hj
            cases hb : Op.bytesLess y.p.toList x.p.toList with
            | false =>
              have HF : Hid (okAt Ent.p goodE l k = false) := Lib.hid (HO2.out _ hb)
              replace HF : Hid (validB l = false) := Lib.hid (validB_no l k hkl HF.out)
              refine wp_region_hopsH 24 (12 :: 13 :: 14 :: 15 :: 16 :: 17 :: 18 :: 19 :: 20 :: 21 :: 22 :: 23 :: 24 :: 25 :: 26 :: 27 :: 28 :: 29 :: 30 :: 31 :: 32 :: 33 :: 34 :: 35 :: []) _
                (.eq (.pointer (some ⟨gx, 0, none⟩)) :: .eq (.string x.p) :: .eq (.bool true) :: .eq (.bool false) :: .eq (.bool false) :: .eq (.pointer (some ⟨gx, 1, none⟩)) :: .eq (.agg (x.d.map bv).toArray) :: .eq (.agg (z32.map bv).toArray) :: .eq (.bool false) :: .eq (.bool false) :: .eq (.bool false) :: .eq (.int .i64 k) :: .eq (.bool true) :: .eq (.bool true) :: .eq (.slice (some ad) n c) :: .eq (.int .i64 k) :: .eq (.int .i64 j) :: .eq (.pointer (some (ad.add (j * 33)))) :: .eq (.pointer (some (ad.add (j * 33)))) :: .eq (.string y.p) :: .eq (.pointer (some ⟨gx, 0, none⟩)) :: .eq (.string x.p) :: .eq (.bool true) :: .eq (.bool true) :: [])
                (by kernel_rfl) (by kernel_rfl) hW2 rfl ?hops ?fin
              case hops =>
                refine ⟨?_, ?_, ?_, ?_, ?_, ?_, ?_, ?_, ?_, ?_, ?_, ?_, ?_, ?_, ?_, ?_, ?_, ?_, ?_, ?_, ?_, ?_, ?_, ?_, trivial⟩
                · intro a W hW hb hd K hK
                  have b4 := hb 4 rfl
                  go_simp
                  exact hK _ _ (World.grownBy.refl _ _) rfl
                · intro a W hW hb hd K hK
                  have b12 : a.tmps[12]?.getD undef = _ := hd ⟨0, .data⟩ (by simp) rfl
                  have q1 : W.cell? ⟨gx, 0, none⟩ = some (.string x.p) := Cells.cell (hW.at_ 0 rfl) (i := 0) (by simp [entC])
                  go_simp
                  exact hK _ _ (World.grownBy.refl _ _) rfl
                · intro a W hW hb hd K hK
                  have b13 : a.tmps[13]?.getD undef = _ := hd ⟨1, .data⟩ (by simp) rfl
                  go_simp
                  refine (Path_any x.p W hx.out.2).mono ?_
                  rintro e w' ⟨rfl, hb'⟩
                  exact hK _ _ (grown_of_below hb') (congrArg Value.bool HP.out)
                · intro a W hW hb hd K hK
                  have b14 : a.tmps[14]?.getD undef = _ := hd ⟨2, .data⟩ (by simp) rfl
                  go_simp
                  exact hK _ _ (World.grownBy.refl _ _) rfl
                · intro a W hW hb hd K hK
                  have b15 : a.tmps[15]?.getD undef = _ := hd ⟨3, .data⟩ (by simp) rfl
                  go_simp
                  exact hK _ _ (World.grownBy.refl _ _) rfl
                · refine Or.inl ⟨fun v w h => h, ?_⟩
                  intro a W hW hb hd K hK
                  have b4 := hb 4 rfl
                  go_simp
                  exact hK _ _ (World.grownBy.refl _ _) rfl
                · refine Or.inl ⟨fun v w h => h, ?_⟩
                  intro a W hW hb hd K hK
                  have b17 : a.tmps[17]?.getD undef = _ := hd ⟨5, .data⟩ (by simp) rfl
                  refine wp_load_any 68 (.tmp 17) rfl ⟨gx, 1, none⟩ (by simp [Act.eval, b17]) (x.d.map bv) _ (Cells.sub (hW.at_ 0 rfl) 1 (ent_sub x)) Tryz.underlying68 rfl (by rw [List.length_map, hx.out.1]; kernel_rfl) ?_
                  exact hK _ _ (World.grownBy.refl _ _) rfl
                · refine Or.inl ⟨fun v w h => h, ?_⟩
                  intro a W hW hb hd K hK
                  go_simp
                  exact hK _ _ (World.grownBy.refl _ _) rfl
                · refine Or.inl ⟨fun v w h => h, ?_⟩
                  intro a W hW hb hd K hK
                  have b18 : a.tmps[18]?.getD undef = _ := hd ⟨6, .data⟩ (by simp) rfl
                  have b19 : a.tmps[19]?.getD undef = _ := hd ⟨7, .data⟩ (by simp) rfl
                  have q1 := eq_dg W x.d z32 hx.out.1 rfl
                  rw [HZ.out] at q1
                  refine wp_eql (.tmp 18) (.tmp 19) rfl _ (by rw [show a.eval (.tmp 18) = _ from by simp only [Act.eval, Array.getD_eq_getD_getElem?]; exact b18, show a.eval (.tmp 19) = _ from by simp only [Act.eval, Array.getD_eq_getD_getElem?]; exact b19]; exact q1) (by go_simp) ?_
                  exact hK _ _ (World.grownBy.refl _ _) rfl
                · intro a W hW hb hd K hK
                  have b16 : a.tmps[16]?.getD undef = _ := hd ⟨4, .data⟩ (by simp) rfl
                  have b20 : a.tmps[20]?.getD undef = _ := hd ⟨8, .data⟩ (by simp) rfl
                  go_simp
                  exact hK _ _ (World.grownBy.refl _ _) rfl
                · intro a W hW hb hd K hK
                  have b21 : a.tmps[21]?.getD undef = _ := hd ⟨9, .data⟩ (by simp) rfl
                  go_simp
                  exact hK _ _ (World.grownBy.refl _ _) rfl
                · refine Or.inl ⟨fun v w h => h, ?_⟩
                  intro a W hW hb hd K hK
                  have b3 := hb 3 rfl
                  go_simp
                  exact hK _ _ (World.grownBy.refl _ _) rfl
                · refine Or.inl ⟨fun v w h => h, ?_⟩
                  intro a W hW hb hd K hK
                  have b23 : a.tmps[23]?.getD undef = _ := hd ⟨11, .data⟩ (by simp) rfl
                  go_simp
                  exact hK _ _ (World.grownBy.refl _ _) rfl
                · refine Or.inl ⟨fun v w h => h, ?_⟩
                  intro a W hW hb hd K hK
                  have b24 : a.tmps[24]?.getD undef = _ := hd ⟨12, .data⟩ (by simp) rfl
                  go_simp
                  exact hK _ _ (World.grownBy.refl _ _) rfl
                · refine Or.inl ⟨fun v w h => h, ?_⟩
                  intro a W hW hb hd K hK
                  have b0 := hb 0 rfl
                  go_simp
                  exact hK _ _ (World.grownBy.refl _ _) rfl
                · refine Or.inl ⟨fun v w h => h, ?_⟩
                  intro a W hW hb hd K hK
                  have b3 := hb 3 rfl
                  go_simp
                  exact hK _ _ (World.grownBy.refl _ _) rfl
                · refine Or.inl ⟨fun v w h => h, ?_⟩
                  intro a W hW hb hd K hK
                  have b27 : a.tmps[27]?.getD undef = _ := hd ⟨15, .data⟩ (by simp) rfl
                  go_simp
                  exact hK _ _ (World.grownBy.refl _ _) rfl
                · refine Or.inl ⟨fun v w h => h, ?_⟩
                  intro a W hW hb hd K hK
                  have b26 : a.tmps[26]?.getD undef = _ := hd ⟨14, .data⟩ (by simp) rfl
                  have b28 : a.tmps[28]?.getD undef = _ := hd ⟨16, .data⟩ (by simp) rfl
                  go_simp
                  exact hK _ _ (World.grownBy.refl _ _) rfl
                · refine Or.inl ⟨fun v w h => h, ?_⟩
                  intro a W hW hb hd K hK
                  have b29 : a.tmps[29]?.getD undef = _ := hd ⟨17, .data⟩ (by simp) rfl
                  go_simp
                  exact hK _ _ (World.grownBy.refl _ _) (by first | rfl | (rw [add_zero]; rfl) | (simp [add_zero]; rfl))
                · refine Or.inl ⟨fun v w h => h, ?_⟩
                  intro a W hW hb hd K hK
                  have b30 : a.tmps[30]?.getD undef = _ := hd ⟨18, .data⟩ (by simp) rfl
                  have q1 : W.cell? (ad.add (j * 33)) = some (.string y.p) := HY.out W hW
                  go_simp
                  exact hK _ _ (World.grownBy.refl _ _) rfl
                · refine Or.inl ⟨fun v w h => h, ?_⟩
                  intro a W hW hb hd K hK
                  have b4 := hb 4 rfl
                  go_simp
                  exact hK _ _ (World.grownBy.refl _ _) rfl
                · refine Or.inl ⟨fun v w h => h, ?_⟩
                  intro a W hW hb hd K hK
                  have b32 : a.tmps[32]?.getD undef = _ := hd ⟨20, .data⟩ (by simp) rfl
                  have q1 : W.cell? ⟨gx, 0, none⟩ = some (.string x.p) := Cells.cell (hW.at_ 0 rfl) (i := 0) (by simp [entC])
                  go_simp
                  exact hK _ _ (World.grownBy.refl _ _) rfl
                · refine Or.inl ⟨fun v w h => h, ?_⟩
                  intro a W hW hb hd K hK
                  have b31 : a.tmps[31]?.getD undef = _ := hd ⟨19, .data⟩ (by simp) rfl
                  have b33 : a.tmps[33]?.getD undef = _ := hd ⟨21, .data⟩ (by simp) rfl
                  go_simp
                  exact hK _ _ (World.grownBy.refl _ _) rfl
                · refine Or.inl ⟨fun v w h => h, ?_⟩
                  intro a W hW hb hd K hK
                  have b25 : a.tmps[25]?.getD undef = _ := hd ⟨13, .data⟩ (by simp) rfl
                  have b34 : a.tmps[34]?.getD undef = _ := hd ⟨22, .data⟩ (by simp) rfl
                  go_simp
                  exact hK _ _ (World.grownBy.refl _ _) rfl
              case fin =>
                intro vs W hW hv
                have e10 : vs 10 = _ := hv 10 (by decide)
                have e23 : vs 23 = _ := hv 23 (by decide)
                clear hv
                simp only [putAll, List.drop_succ_cons, List.drop_zero, e10, e23, Act.put, List.setIfInBounds_toArray, List.set_cons_succ, List.set_cons_zero]
                clear e10 e23
                go_wp2_with fail
                go_ret
                exact ⟨ret_bool (by rw [HF.out]), (hW.at_ 2 rfl).1⟩
            | true =>
              have HF : Hid (okAt Ent.p goodE l k = true) := Lib.hid (HO2.out _ hb)
              refine wp_region_hopsH 24 (12 :: 13 :: 14 :: 15 :: 16 :: 17 :: 18 :: 19 :: 20 :: 21 :: 22 :: 23 :: 24 :: 25 :: 26 :: 27 :: 28 :: 29 :: 30 :: 31 :: 32 :: 33 :: 34 :: 35 :: []) _
                (.eq (.pointer (some ⟨gx, 0, none⟩)) :: .eq (.string x.p) :: .eq (.bool true) :: .eq (.bool false) :: .eq (.bool false) :: .eq (.pointer (some ⟨gx, 1, none⟩)) :: .eq (.agg (x.d.map bv).toArray) :: .eq (.agg (z32.map bv).toArray) :: .eq (.bool false) :: .eq (.bool false) :: .eq (.bool false) :: .eq (.int .i64 k) :: .eq (.bool true) :: .eq (.bool true) :: .eq (.slice (some ad) n c) :: .eq (.int .i64 k) :: .eq (.int .i64 j) :: .eq (.pointer (some (ad.add (j * 33)))) :: .eq (.pointer (some (ad.add (j * 33)))) :: .eq (.string y.p) :: .eq (.pointer (some ⟨gx, 0, none⟩)) :: .eq (.string x.p) :: .eq (.bool false) :: .eq (.bool false) :: [])
                (by kernel_rfl) (by kernel_rfl) hW2 rfl ?hops ?fin
              case hops =>
                refine ⟨?_, ?_, ?_, ?_, ?_, ?_, ?_, ?_, ?_, ?_, ?_, ?_, ?_, ?_, ?_, ?_, ?_, ?_, ?_, ?_, ?_, ?_, ?_, ?_, trivial⟩
                · intro a W hW hb hd K hK
                  have b4 := hb 4 rfl
                  go_simp
                  exact hK _ _ (World.grownBy.refl _ _) rfl
                · intro a W hW hb hd K hK
                  have b12 : a.tmps[12]?.getD undef = _ := hd ⟨0, .data⟩ (by simp) rfl
                  have q1 : W.cell? ⟨gx, 0, none⟩ = some (.string x.p) := Cells.cell (hW.at_ 0 rfl) (i := 0) (by simp [entC])
                  go_simp
                  exact hK _ _ (World.grownBy.refl _ _) rfl
                · intro a W hW hb hd K hK
                  have b13 : a.tmps[13]?.getD undef = _ := hd ⟨1, .data⟩ (by simp) rfl
                  go_simp
                  refine (Path_any x.p W hx.out.2).mono ?_
                  rintro e w' ⟨rfl, hb'⟩
                  exact hK _ _ (grown_of_below hb') (congrArg Value.bool HP.out)
                · intro a W hW hb hd K hK
                  have b14 : a.tmps[14]?.getD undef = _ := hd ⟨2, .data⟩ (by simp) rfl
                  go_simp
                  exact hK _ _ (World.grownBy.refl _ _) rfl
                · intro a W hW hb hd K hK
                  have b15 : a.tmps[15]?.getD undef = _ := hd ⟨3, .data⟩ (by simp) rfl
                  go_simp
                  exact hK _ _ (World.grownBy.refl _ _) rfl
                · refine Or.inl ⟨fun v w h => h, ?_⟩
                  intro a W hW hb hd K hK
                  have b4 := hb 4 rfl
                  go_simp
                  exact hK _ _ (World.grownBy.refl _ _) rfl
                · refine Or.inl ⟨fun v w h => h, ?_⟩
                  intro a W hW hb hd K hK
                  have b17 : a.tmps[17]?.getD undef = _ := hd ⟨5, .data⟩ (by simp) rfl
                  refine wp_load_any 68 (.tmp 17) rfl ⟨gx, 1, none⟩ (by simp [Act.eval, b17]) (x.d.map bv) _ (Cells.sub (hW.at_ 0 rfl) 1 (ent_sub x)) Tryz.underlying68 rfl (by rw [List.length_map, hx.out.1]; kernel_rfl) ?_
                  exact hK _ _ (World.grownBy.refl _ _) rfl
                · refine Or.inl ⟨fun v w h => h, ?_⟩
                  intro a W hW hb hd K hK
                  go_simp
                  exact hK _ _ (World.grownBy.refl _ _) rfl
                · refine Or.inl ⟨fun v w h => h, ?_⟩
                  intro a W hW hb hd K hK
                  have b18 : a.tmps[18]?.getD undef = _ := hd ⟨6, .data⟩ (by simp) rfl
                  have b19 : a.tmps[19]?.getD undef = _ := hd ⟨7, .data⟩ (by simp) rfl
                  have q1 := eq_dg W x.d z32 hx.out.1 rfl
                  rw [HZ.out] at q1
                  refine wp_eql (.tmp 18) (.tmp 19) rfl _ (by rw [show a.eval (.tmp 18) = _ from by simp only [Act.eval, Array.getD_eq_getD_getElem?]; exact b18, show a.eval (.tmp 19) = _ from by simp only [Act.eval, Array.getD_eq_getD_getElem?]; exact b19]; exact q1) (by go_simp) ?_
                  exact hK _ _ (World.grownBy.refl _ _) rfl
                · intro a W hW hb hd K hK
                  have b16 : a.tmps[16]?.getD undef = _ := hd ⟨4, .data⟩ (by simp) rfl
                  have b20 : a.tmps[20]?.getD undef = _ := hd ⟨8, .data⟩ (by simp) rfl
                  go_simp
                  exact hK _ _ (World.grownBy.refl _ _) rfl
                · intro a W hW hb hd K hK
                  have b21 : a.tmps[21]?.getD undef = _ := hd ⟨9, .data⟩ (by simp) rfl
                  go_simp
                  exact hK _ _ (World.grownBy.refl _ _) rfl
                · refine Or.inl ⟨fun v w h => h, ?_⟩
                  intro a W hW hb hd K hK
                  have b3 := hb 3 rfl
                  go_simp
                  exact hK _ _ (World.grownBy.refl _ _) rfl
                · refine Or.inl ⟨fun v w h => h, ?_⟩
                  intro a W hW hb hd K hK
                  have b23 : a.tmps[23]?.getD undef = _ := hd ⟨11, .data⟩ (by simp) rfl
                  go_simp
                  exact hK _ _ (World.grownBy.refl _ _) rfl
                · refine Or.inl ⟨fun v w h => h, ?_⟩
                  intro a W hW hb hd K hK
                  have b24 : a.tmps[24]?.getD undef = _ := hd ⟨12, .data⟩ (by simp) rfl
                  go_simp
                  exact hK _ _ (World.grownBy.refl _ _) rfl
                · refine Or.inl ⟨fun v w h => h, ?_⟩
                  intro a W hW hb hd K hK
                  have b0 := hb 0 rfl
                  go_simp
                  exact hK _ _ (World.grownBy.refl _ _) rfl
                · refine Or.inl ⟨fun v w h => h, ?_⟩
                  intro a W hW hb hd K hK
                  have b3 := hb 3 rfl
                  go_simp
                  exact hK _ _ (World.grownBy.refl _ _) rfl
                · refine Or.inl ⟨fun v w h => h, ?_⟩
                  intro a W hW hb hd K hK
                  have b27 : a.tmps[27]?.getD undef = _ := hd ⟨15, .data⟩ (by simp) rfl
                  go_simp
                  exact hK _ _ (World.grownBy.refl _ _) rfl
                · refine Or.inl ⟨fun v w h => h, ?_⟩
                  intro a W hW hb hd K hK
                  have b26 : a.tmps[26]?.getD undef = _ := hd ⟨14, .data⟩ (by simp) rfl
                  have b28 : a.tmps[28]?.getD undef = _ := hd ⟨16, .data⟩ (by simp) rfl
                  go_simp
                  exact hK _ _ (World.grownBy.refl _ _) rfl
                · refine Or.inl ⟨fun v w h => h, ?_⟩
                  intro a W hW hb hd K hK
                  have b29 : a.tmps[29]?.getD undef = _ := hd ⟨17, .data⟩ (by simp) rfl
                  go_simp
                  exact hK _ _ (World.grownBy.refl _ _) (by first | rfl | (rw [add_zero]; rfl) | (simp [add_zero]; rfl))
                · refine Or.inl ⟨fun v w h => h, ?_⟩
                  intro a W hW hb hd K hK
                  have b30 : a.tmps[30]?.getD undef = _ := hd ⟨18, .data⟩ (by simp) rfl
                  have q1 : W.cell? (ad.add (j * 33)) = some (.string y.p) := HY.out W hW
                  go_simp
                  exact hK _ _ (World.grownBy.refl _ _) rfl
                · refine Or.inl ⟨fun v w h => h, ?_⟩
                  intro a W hW hb hd K hK
                  have b4 := hb 4 rfl
                  go_simp
                  exact hK _ _ (World.grownBy.refl _ _) rfl
                · refine Or.inl ⟨fun v w h => h, ?_⟩
                  intro a W hW hb hd K hK
                  have b32 : a.tmps[32]?.getD undef = _ := hd ⟨20, .data⟩ (by simp) rfl
                  have q1 : W.cell? ⟨gx, 0, none⟩ = some (.string x.p) := Cells.cell (hW.at_ 0 rfl) (i := 0) (by simp [entC])
                  go_simp
                  exact hK _ _ (World.grownBy.refl _ _) rfl
                · refine Or.inl ⟨fun v w h => h, ?_⟩
                  intro a W hW hb hd K hK
                  have b31 : a.tmps[31]?.getD undef = _ := hd ⟨19, .data⟩ (by simp) rfl
                  have b33 : a.tmps[33]?.getD undef = _ := hd ⟨21, .data⟩ (by simp) rfl
                  go_simp
                  exact hK _ _ (World.grownBy.refl _ _) rfl
                · refine Or.inl ⟨fun v w h => h, ?_⟩
                  intro a W hW hb hd K hK
                  have b25 : a.tmps[25]?.getD undef = _ := hd ⟨13, .data⟩ (by simp) rfl
                  have b34 : a.tmps[34]?.getD undef = _ := hd ⟨22, .data⟩ (by simp) rfl
                  go_simp
                  exact hK _ _ (World.grownBy.refl _ _) rfl
              case fin =>
                intro vs W hW hv
                have e10 : vs 10 = _ := hv 10 (by decide)
                have e23 : vs 23 = _ := hv 23 (by decide)
                clear hv
                simp only [putAll, List.drop_succ_cons, List.drop_zero, e10, e23, Act.put, List.setIfInBounds_toArray, List.set_cons_succ, List.set_cons_zero]
                clear e10 e23
                go_wp2_with fail
                refine ⟨⟨k + 1, by omega, by go_num, fun i hi => ?_, hW.2⟩, by simp [intOf]; omega⟩
                by_cases hik : i = k
                · rw [hik]; exact HF.out
                · exact HA.out i (by omega)
    · obtain rfl : k = n := by omega
      have d1 : decide ((k : Int) < (k : Int)) = false := by simp
      have hv : Hid (validB l = decide (k ≤ 64)) := Lib.hid (by rw [validB_all l (by rw [HN.out]; exact HA.out), HN.out])
      go_wp2
      go_ret
      refine ⟨ret_bool (by rw [hv.out]; simp only [decide_eq_decide]; omega), (hI.at_ 1 rfl).1⟩

end Go.Proofs.YtjdinakdkdjocaaGreatDoor

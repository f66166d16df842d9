/- Snapshots and changes in plain Lean: the merge of two lists, Diff, Apply, Invert, Compose, and their laws. -/
import Derived.Test.YtipepcjiogifaaaDoorGen2
set_option linter.unusedSimpArgs false
set_option linter.unusedVariables false
set_option linter.unusedSectionVars false
namespace Go.Adm
open Go Go.RowKit

structure Ent (K D : Type) where
  p : K
  d : D
structure Chg (K D : Type) where
  p : K
  o : D
  n : D
structure Sto {K : Type} (lt : K → K → Bool) : Prop where
  irr : ∀ a, lt a a = false
  tr : ∀ a b c, lt a b = true → lt b c = true → lt a c = true
  tot : ∀ a b, a ≠ b → lt a b = true ∨ lt b a = true
section
variable {K D : Type} (lt : K → K → Bool) (z : D) [DecidableEq D]
theorem Sto.asym {lt : K → K → Bool} (h : Sto lt) {a b : K} (hab : lt a b = true) : lt b a = false := by
  cases hq : lt b a with
  | false => rfl
  | true => have := h.tr _ _ _ hab hq; rw [h.irr] at this; cases this
theorem Sto.eq {lt : K → K → Bool} (h : Sto lt) {a b : K} (h1 : lt a b = false) (h2 : lt b a = false) : a = b := by
  by_cases e : a = b
  · exact e
  · rcases h.tot a b e with h3 | h3
    · rw [h1] at h3; cases h3
    · rw [h2] at h3; cases h3
def both (lt : K → K → Bool) : List (Chg K D) → List (Chg K D) → List (Option (Chg K D) × Option (Chg K D))
  | [], [] => []
  | x :: a, [] => (some x, none) :: both lt a []
  | [], y :: b => (none, some y) :: both lt [] b
  | x :: a, y :: b => if lt x.p y.p then (some x, none) :: both lt a (y :: b) else if lt y.p x.p then (none, some y) :: both lt (x :: a) b else (some x, some y) :: both lt a b
  termination_by a b => a.length + b.length
theorem both_nil : both (D := D) lt [] [] = [] := by rw [both]
theorem both_l (x : Chg K D) (a : List (Chg K D)) (b : List (Chg K D)) (h : ∀ y ∈ b.head?, lt x.p y.p = true) : both lt (x :: a) b = (some x, none) :: both lt a b := by
  cases b with
  | nil => rw [both]
  | cons y b => rw [both, if_pos (h y (by simp))]
theorem both_r (hs : Sto lt) (y : Chg K D) (a : List (Chg K D)) (b : List (Chg K D)) (h : ∀ x ∈ a.head?, lt y.p x.p = true) : both lt a (y :: b) = (none, some y) :: both lt a b := by
  cases a with
  | nil => rw [both]
  | cons x a =>
    have h1 := h x (by simp)
    have h2 := hs.asym h1
    rw [both, if_neg (by rw [h2]; decide), if_pos h1]
theorem both_e (hs : Sto lt) (x y : Chg K D) (a b : List (Chg K D)) (h : x.p = y.p) : both lt (x :: a) (y :: b) = (some x, some y) :: both lt a b := by
  rw [both, if_neg (by rw [h, hs.irr]; decide), if_neg (by rw [h, hs.irr]; decide)]
/-- steps that may fail; what each gives is collected -/
def runS {α β : Type} (f : α → Option (Option β)) : List α → Option (List β)
  | [] => some []
  | q :: r => match f q with
    | none => none
    | some e => (runS f r).map (e.toList ++ ·)
theorem runS_cons {α β : Type} (f : α → Option (Option β)) (q : α) (r : List α) {e : Option β} {l : List β} (h : f q = some e) (hr : runS f r = some l) : runS f (q :: r) = some (e.toList ++ l) := by
  simp [runS, h, hr]
theorem runS_c0 {α β : Type} {f : α → Option (Option β)} {q : α} {r : List α} {l : List β} (h : f q = some none) (hr : runS f r = some l) : runS f (q :: r) = some l := by
  simp [runS, h, hr]
theorem runS_c1 {α β : Type} {f : α → Option (Option β)} {q : α} {r : List α} {e : β} {l : List β} (h : f q = some (some e)) (hr : runS f r = some l) : runS f (q :: r) = some (e :: l) := by
  simp [runS, h, hr]
theorem runS_snoc {α β : Type} (f : α → Option (Option β)) : ∀ (r : List α) (q : α) {l : List β}, runS f r = some l → runS f (r ++ [q]) = (f q).map fun e => l ++ e.toList
  | [], q, l, h => by
    simp only [runS, Option.some.injEq] at h
    subst h
    cases hq : f q <;> simp [runS, hq]
  | p :: r, q, l, h => by
    simp only [runS] at h
    cases hp : f p with
    | none => rw [hp] at h; cases h
    | some e =>
      rw [hp] at h
      cases hr : runS f r with
      | none => simp [hr] at h
      | some m =>
        simp only [hr, Option.map_some, Option.some.injEq] at h
        subst h
        have := runS_snoc f r q hr
        simp only [List.cons_append, runS, hp, this]
        cases f q <;> simp
theorem runS_prefix {α β : Type} (f : α → Option (Option β)) : ∀ (r s : List α), runS f r = none → runS f (r ++ s) = none
  | [], s, h => by simp [runS] at h
  | p :: r, s, h => by
    simp only [List.cons_append, runS] at h ⊢
    cases hp : f p with
    | none => rfl
    | some e =>
      rw [hp] at h
      have : runS f r = none := by
        cases hr : runS f r with
        | none => rfl
        | some m => simp [hr] at h
      simp [runS_prefix f r s this]
def difF : Option (Chg K D) × Option (Chg K D) → Option (Option (Chg K D))
  | (some x, none) => some (some ⟨x.p, x.n, z⟩)
  | (none, some y) => some (some y)
  | (some x, some y) => if x.n = y.n then some none else some (some ⟨x.p, x.n, y.n⟩)
  | (none, none) => some none
def appF : Option (Chg K D) × Option (Chg K D) → Option (Option (Ent K D))
  | (some x, none) => if x.n = z then some none else some (some ⟨x.p, x.n⟩)
  | (none, some y) => if y.o = z then (if y.n = z then some none else some (some ⟨y.p, y.n⟩)) else none
  | (some x, some y) => if y.o = x.n then (if y.n = z then some none else some (some ⟨y.p, y.n⟩)) else none
  | (none, none) => some none
def compF : Option (Chg K D) × Option (Chg K D) → Option (Option (Chg K D))
  | (some x, none) => some (some x)
  | (none, some y) => some (some y)
  | (some x, some y) => if x.n = y.o then (if x.o = y.n then some none else some (some ⟨x.p, x.o, y.n⟩)) else none
  | (none, none) => some none
def cre (x : Ent K D) : Chg K D := ⟨x.p, z, x.d⟩
def invC (x : Chg K D) : Chg K D := ⟨x.p, x.n, x.o⟩
/-- Diff, by recursion -/
def diff (lt : K → K → Bool) (z : D) : List (Ent K D) → List (Ent K D) → List (Chg K D)
  | [], [] => []
  | x :: a, [] => ⟨x.p, x.d, z⟩ :: diff lt z a []
  | [], y :: b => ⟨y.p, z, y.d⟩ :: diff lt z [] b
  | x :: a, y :: b => if lt x.p y.p then ⟨x.p, x.d, z⟩ :: diff lt z a (y :: b) else if lt y.p x.p then ⟨y.p, z, y.d⟩ :: diff lt z (x :: a) b else if x.d = y.d then diff lt z a b else ⟨x.p, x.d, y.d⟩ :: diff lt z a b
  termination_by a b => a.length + b.length
theorem diff_run (a b : List (Ent K D)) : runS (difF z) (both lt (a.map (cre z)) (b.map (cre z))) = some (diff lt z a b) := by
  induction a, b using diff.induct (K := K) (D := D) lt with
  | case1 => rw [List.map_nil, both, diff]; rfl
  | case2 x a ih => rw [diff, List.map_cons, List.map_nil, both]; exact runS_c1 rfl ih
  | case3 y b ih => rw [diff, List.map_cons, List.map_nil, both]; exact runS_c1 rfl ih
  | case4 x a y b h ih => rw [diff, if_pos h, List.map_cons, List.map_cons, both, if_pos (by exact h)]; exact runS_c1 rfl ih
  | case5 x a y b h h' ih => rw [diff, if_neg h, if_pos h', List.map_cons, List.map_cons, both, if_neg (by exact h), if_pos (by exact h')]; exact runS_c1 rfl ih
  | case6 x a y b h h' e ih =>
    rw [diff, if_neg h, if_neg h', if_pos e, List.map_cons, List.map_cons, both, if_neg (by exact h), if_neg (by exact h')]
    exact runS_c0 (by simp [difF, cre, e]) ih
  | case7 x a y b h h' e ih =>
    rw [diff, if_neg h, if_neg h', if_neg e, List.map_cons, List.map_cons, both, if_neg (by exact h), if_neg (by exact h')]
    exact runS_c1 (by simp [difF, cre, e]) ih
def Asc (l : List (Ent K D)) : Prop := l.Pairwise fun x y => lt x.p y.p = true
def AscC (l : List (Chg K D)) : Prop := l.Pairwise fun x y => lt x.p y.p = true
theorem diff_gt (k : K) (a b : List (Ent K D)) (ha : ∀ x ∈ a, lt k x.p = true) (hb : ∀ x ∈ b, lt k x.p = true) : ∀ c ∈ diff lt z a b, lt k c.p = true := by
  induction a, b using diff.induct (K := K) (D := D) lt with
  | case1 => rw [diff]; simp
  | case2 x a ih => rw [diff]; simp only [List.mem_cons, forall_eq_or_imp] at ha ⊢; exact ⟨ha.1, ih ha.2 hb⟩
  | case3 y b ih => rw [diff]; simp only [List.mem_cons, forall_eq_or_imp] at hb ⊢; exact ⟨hb.1, ih ha hb.2⟩
  | case4 x a y b h ih => rw [diff, if_pos h]; simp only [List.mem_cons, forall_eq_or_imp] at ha ⊢; exact ⟨ha.1, ih ha.2 hb⟩
  | case5 x a y b h h' ih => rw [diff, if_neg h, if_pos h']; rw [List.forall_mem_cons] at hb; rw [List.forall_mem_cons]; exact ⟨hb.1, ih ha hb.2⟩
  | case6 x a y b h h' e ih => rw [diff, if_neg h, if_neg h', if_pos e]; exact ih (fun x hx => ha x (by simp [hx])) (fun x hx => hb x (by simp [hx]))
  | case7 x a y b h h' e ih => rw [diff, if_neg h, if_neg h', if_neg e]; rw [List.forall_mem_cons]; exact ⟨ha x (by simp), ih (fun x hx => ha x (by simp [hx])) (fun x hx => hb x (by simp [hx]))⟩
theorem head_of {α : Type} {P : α → Prop} {l : List α} (h : ∀ x ∈ l, P x) : ∀ x ∈ l.head?, P x := fun x hx => h x (List.mem_of_mem_head? hx)
theorem map_gt {k : K} {a : List (Ent K D)} (h : ∀ x ∈ a, lt k x.p = true) : ∀ x ∈ a.map (cre z), lt k x.p = true := by
  intro x hx
  obtain ⟨y, hy, rfl⟩ := List.mem_map.1 hx
  exact h y hy
theorem diff_apply (hs : Sto lt) (a b : List (Ent K D)) (ha : Asc lt a) (hb : Asc lt b) (na : ∀ x ∈ a, x.d ≠ z) (nb : ∀ x ∈ b, x.d ≠ z) : runS (appF z) (both lt (a.map (cre z)) (diff lt z a b)) = some b := by
  induction a, b using diff.induct (K := K) (D := D) lt with
  | case1 => rw [diff, List.map_nil, both]; rfl
  | case2 x a ih =>
    rw [diff, List.map_cons, both_e lt hs (cre z x) ⟨x.p, x.d, z⟩ _ _ rfl]
    exact runS_c0 (by simp [appF, cre]) (ih (List.Pairwise.of_cons ha) hb (fun x hx => na x (by simp [hx])) nb)
  | case3 y b ih =>
    have hy : y.d ≠ z := nb y (by simp)
    rw [diff, List.map_nil, both_r lt hs _ _ _ (by simp)]
    exact runS_c1 (by simp [appF, hy]) (ih ha (List.Pairwise.of_cons hb) na (fun x hx => nb x (by simp [hx])))
  | case4 x a y b h ih =>
    rw [diff, if_pos h, List.map_cons, both_e lt hs (cre z x) ⟨x.p, x.d, z⟩ _ _ rfl]
    exact runS_c0 (by simp [appF, cre]) (ih (List.Pairwise.of_cons ha) hb (fun x hx => na x (by simp [hx])) nb)
  | case5 x a y b h h' ih =>
    have hy : y.d ≠ z := nb y (by simp)
    rw [diff, if_neg h, if_pos h', both_r lt hs _ _ _ (by intro u hu; rw [List.map_cons, List.head?_cons] at hu; obtain rfl := Option.some.inj hu; exact h')]
    exact runS_c1 (by simp [appF, hy]) (ih ha (List.Pairwise.of_cons hb) na (fun x hx => nb x (by simp [hx])))
  | case6 x a y b h h' e ih =>
    have hxy := hs.eq (Bool.eq_false_iff.2 h) (Bool.eq_false_iff.2 h')
    have hx : x.d ≠ z := na x (by simp)
    have ga := (List.pairwise_cons.1 ha).1
    have gb := (List.pairwise_cons.1 hb).1
    rw [diff, if_neg h, if_neg h', if_pos e, List.map_cons, both_l lt _ _ _ (head_of (diff_gt lt z x.p a b ga (fun u hu => by rw [hxy]; exact gb u hu)))]
    have hxe : (⟨x.p, x.d⟩ : Ent K D) = y := by cases x; cases y; simp_all
    refine runS_c1 ?_ (ih (List.Pairwise.of_cons ha) (List.Pairwise.of_cons hb) (fun x hx => na x (by simp [hx])) (fun x hx => nb x (by simp [hx])))
    simp only [appF, cre, if_neg hx, hxe]
  | case7 x a y b h h' e ih =>
    have hxy := hs.eq (Bool.eq_false_iff.2 h) (Bool.eq_false_iff.2 h')
    have hy : y.d ≠ z := nb y (by simp)
    rw [diff, if_neg h, if_neg h', if_neg e, List.map_cons, both_e lt hs (cre z x) ⟨x.p, x.d, y.d⟩ _ _ rfl]
    have hxe : (⟨x.p, y.d⟩ : Ent K D) = y := by cases x; cases y; simp_all
    refine runS_c1 ?_ (ih (List.Pairwise.of_cons ha) (List.Pairwise.of_cons hb) (fun x hx => na x (by simp [hx])) (fun x hx => nb x (by simp [hx])))
    simp only [appF, cre, if_neg hy, if_true, hxe]
theorem diff_inv (hs : Sto lt) (a b : List (Ent K D)) : (diff lt z a b).map invC = diff lt z b a := by
  induction a, b using diff.induct (K := K) (D := D) lt with
  | case1 => rw [diff]; rfl
  | case2 x a ih => rw [diff, diff, List.map_cons, ih]; rfl
  | case3 y b ih => rw [diff, diff, List.map_cons, ih]; rfl
  | case4 x a y b h ih => rw [diff, if_pos h, diff, if_neg (by rw [hs.asym h]; decide), if_pos h, List.map_cons, ih]; rfl
  | case5 x a y b h h' ih => rw [diff, if_neg h, if_pos h', diff, if_pos h', List.map_cons, ih]; rfl
  | case6 x a y b h h' e ih => rw [diff, if_neg h, if_neg h', if_pos e, diff, if_neg h', if_neg h, if_pos e.symm, ih]
  | case7 x a y b h h' e ih =>
    have hxy := hs.eq (Bool.eq_false_iff.2 h) (Bool.eq_false_iff.2 h')
    rw [diff, if_neg h, if_neg h', if_neg e, diff, if_neg h', if_neg h, if_neg (fun e' => e e'.symm), List.map_cons, ih]
    simp [invC, hxy]
theorem diff_len (a b : List (Ent K D)) : (diff lt z a b).length ≤ a.length + b.length := by
  induction a, b using diff.induct (K := K) (D := D) lt with
  | case1 => rw [diff]; simp
  | case2 x a ih => rw [diff]; simp only [List.length_cons]; omega
  | case3 y b ih => rw [diff]; simp only [List.length_cons]; omega
  | case4 x a y b h ih => rw [diff, if_pos h]; simp only [List.length_cons] at ih ⊢; omega
  | case5 x a y b h h' ih => rw [diff, if_neg h, if_pos h']; simp only [List.length_cons] at ih ⊢; omega
  | case6 x a y b h h' e ih => rw [diff, if_neg h, if_neg h', if_pos e]; simp only [List.length_cons] at ih ⊢; omega
  | case7 x a y b h h' e ih => rw [diff, if_neg h, if_neg h', if_neg e]; simp only [List.length_cons] at ih ⊢; omega
theorem diff_asc (hs : Sto lt) (a b : List (Ent K D)) (ha : Asc lt a) (hb : Asc lt b) : AscC lt (diff lt z a b) := by
  unfold AscC
  induction a, b using diff.induct (K := K) (D := D) lt with
  | case1 => rw [diff]; simp
  | case2 x a ih =>
    rw [diff]
    exact List.pairwise_cons.2 ⟨diff_gt lt z x.p a [] (List.pairwise_cons.1 ha).1 (by simp), ih (List.Pairwise.of_cons ha) hb⟩
  | case3 y b ih =>
    rw [diff]
    exact List.pairwise_cons.2 ⟨diff_gt lt z y.p [] b (by simp) (List.pairwise_cons.1 hb).1, ih ha (List.Pairwise.of_cons hb)⟩
  | case4 x a y b h ih =>
    rw [diff, if_pos h]
    refine List.pairwise_cons.2 ⟨diff_gt lt z x.p a (y :: b) (List.pairwise_cons.1 ha).1 ?_, ih (List.Pairwise.of_cons ha) hb⟩
    exact List.forall_mem_cons.2 ⟨h, fun u hu => hs.tr _ _ _ h ((List.pairwise_cons.1 hb).1 u hu)⟩
  | case5 x a y b h h' ih =>
    rw [diff, if_neg h, if_pos h']
    refine List.pairwise_cons.2 ⟨diff_gt lt z y.p (x :: a) b ?_ (List.pairwise_cons.1 hb).1, ih ha (List.Pairwise.of_cons hb)⟩
    exact List.forall_mem_cons.2 ⟨h', fun u hu => hs.tr _ _ _ h' ((List.pairwise_cons.1 ha).1 u hu)⟩
  | case6 x a y b h h' e ih => rw [diff, if_neg h, if_neg h', if_pos e]; exact ih (List.Pairwise.of_cons ha) (List.Pairwise.of_cons hb)
  | case7 x a y b h h' e ih =>
    have hxy := hs.eq (Bool.eq_false_iff.2 h) (Bool.eq_false_iff.2 h')
    rw [diff, if_neg h, if_neg h', if_neg e]
    exact List.pairwise_cons.2 ⟨diff_gt lt z x.p a b (List.pairwise_cons.1 ha).1 (fun u hu => by rw [hxy]; exact (List.pairwise_cons.1 hb).1 u hu), ih (List.Pairwise.of_cons ha) (List.Pairwise.of_cons hb)⟩
theorem diff_each (Q : K → Prop) (a b : List (Ent K D)) (ha : ∀ x ∈ a, Q x.p ∧ x.d ≠ z) (hb : ∀ x ∈ b, Q x.p ∧ x.d ≠ z) : ∀ c ∈ diff lt z a b, Q c.p ∧ c.o ≠ c.n := by
  induction a, b using diff.induct (K := K) (D := D) lt with
  | case1 => rw [diff]; simp
  | case2 x a ih => rw [diff]; rw [List.forall_mem_cons] at ha; rw [List.forall_mem_cons]; exact ⟨⟨ha.1.1, ha.1.2⟩, ih ha.2 hb⟩
  | case3 y b ih => rw [diff]; rw [List.forall_mem_cons] at hb; rw [List.forall_mem_cons]; exact ⟨⟨hb.1.1, fun e => hb.1.2 e.symm⟩, ih ha hb.2⟩
  | case4 x a y b h ih => rw [diff, if_pos h]; rw [List.forall_mem_cons] at ha; rw [List.forall_mem_cons]; exact ⟨⟨ha.1.1, ha.1.2⟩, ih ha.2 hb⟩
  | case5 x a y b h h' ih => rw [diff, if_neg h, if_pos h']; rw [List.forall_mem_cons] at hb; rw [List.forall_mem_cons]; exact ⟨⟨hb.1.1, fun e => hb.1.2 e.symm⟩, ih ha hb.2⟩
  | case6 x a y b h h' e ih => rw [diff, if_neg h, if_neg h', if_pos e]; rw [List.forall_mem_cons] at ha hb; exact ih ha.2 hb.2
  | case7 x a y b h h' e ih => rw [diff, if_neg h, if_neg h', if_neg e]; rw [List.forall_mem_cons] at ha hb; rw [List.forall_mem_cons]; exact ⟨⟨ha.1.1, e⟩, ih ha.2 hb.2⟩
end
end Go.Adm

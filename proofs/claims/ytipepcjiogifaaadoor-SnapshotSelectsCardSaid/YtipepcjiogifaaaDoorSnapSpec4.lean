/- What the reference functions of snapshots compute, in plain Lean: it is what the merge gives. -/
import Derived.Test.YtipepcjiogifaaaDoorSnapSpec2
set_option linter.unusedSimpArgs false
set_option linter.unusedVariables false
set_option linter.unusedSectionVars false
namespace Go.Adm
open Go Go.RowKit
section
variable {K D : Type} (lt : K → K → Bool) (z : D) [DecidableEq D] [DecidableEq K]
def PairOf (a b : List (Chg K D)) (q : Option (Chg K D) × Option (Chg K D)) : Prop :=
  match q with
  | (some x, none) => x ∈ a ∧ ∀ y ∈ b, y.p ≠ x.p
  | (none, some y) => y ∈ b ∧ ∀ x ∈ a, x.p ≠ y.p
  | (some x, some y) => x ∈ a ∧ y ∈ b ∧ x.p = y.p
  | (none, none) => False
variable {lt}
theorem asc_ne (hs : Sto lt) {x : Chg K D} {l : List (Chg K D)} (h : ∀ y ∈ l, lt x.p y.p = true) : ∀ y ∈ l, y.p ≠ x.p := fun y hy e => by
  have := h y hy
  rw [e, hs.irr] at this; cases this
theorem mem_both (hs : Sto lt) (a b : List (Chg K D)) (ha : AscC lt a) (hb : AscC lt b) (q : Option (Chg K D) × Option (Chg K D)) : q ∈ both lt a b ↔ PairOf a b q := by
  induction a, b using both.induct (K := K) (D := D) lt with
  | case1 => rw [both]; rcases q with ⟨_ | x, _ | y⟩ <;> simp [PairOf]
  | case2 x a ih =>
    rw [both, List.mem_cons, ih (List.pairwise_cons.1 ha).2 hb]
    rcases q with ⟨_ | x', _ | y'⟩ <;> simp [PairOf]
  | case3 y b ih =>
    rw [both, List.mem_cons, ih ha (List.pairwise_cons.1 hb).2]
    rcases q with ⟨_ | x', _ | y'⟩ <;> simp [PairOf]
  | case4 x a y b h ih =>
    rw [both, if_pos h, List.mem_cons, ih (List.pairwise_cons.1 ha).2 hb]
    have hne : ∀ y' ∈ y :: b, y'.p ≠ x.p := asc_ne hs fun y' hy' => by
      rcases List.mem_cons.1 hy' with rfl | h'
      · exact h
      · exact hs.tr _ _ _ h ((List.pairwise_cons.1 hb).1 _ h')
    rcases q with ⟨_ | x', _ | y'⟩
    · exact ⟨fun h => by rcases h with h | h; cases h; exact h, fun h => .inr h⟩
    · refine ⟨fun h' => ?_, fun h' => .inr ⟨h'.1, fun x' hx' => h'.2 x' (List.mem_cons_of_mem _ hx')⟩⟩
      rcases h' with h' | h'
      · cases h'
      · refine ⟨h'.1, fun x' hx' => ?_⟩
        rcases List.mem_cons.1 hx' with rfl | hx'
        · exact fun e => hne _ h'.1 e.symm
        · exact h'.2 _ hx'
    · refine ⟨fun h' => ?_, fun h' => ?_⟩
      · rcases h' with h' | h'
        · cases h'; exact ⟨List.mem_cons_self, hne⟩
        · exact ⟨List.mem_cons_of_mem _ h'.1, h'.2⟩
      · rcases List.mem_cons.1 h'.1 with rfl | hx
        · exact .inl rfl
        · exact .inr ⟨hx, h'.2⟩
    · refine ⟨fun h' => ?_, fun h' => ?_⟩
      · rcases h' with h' | h'
        · cases h'
        · exact ⟨List.mem_cons_of_mem _ h'.1, h'.2⟩
      · rcases List.mem_cons.1 h'.1 with rfl | hx
        · exact (hne _ h'.2.1 h'.2.2.symm).elim
        · exact .inr ⟨hx, h'.2⟩
  | case5 x a y b h0 h ih =>
    rw [both, if_neg h0, if_pos h, List.mem_cons, ih ha (List.pairwise_cons.1 hb).2]
    have hne : ∀ x' ∈ x :: a, x'.p ≠ y.p := asc_ne hs fun x' hx' => by
      rcases List.mem_cons.1 hx' with rfl | h'
      · exact h
      · exact hs.tr _ _ _ h ((List.pairwise_cons.1 ha).1 _ h')
    rcases q with ⟨_ | x', _ | y'⟩
    · exact ⟨fun h => by rcases h with h | h; cases h; exact h, fun h => .inr h⟩
    · refine ⟨fun h' => ?_, fun h' => ?_⟩
      · rcases h' with h' | h'
        · cases h'; exact ⟨List.mem_cons_self, hne⟩
        · exact ⟨List.mem_cons_of_mem _ h'.1, h'.2⟩
      · rcases List.mem_cons.1 h'.1 with rfl | hx
        · exact .inl rfl
        · exact .inr ⟨hx, h'.2⟩
    · refine ⟨fun h' => ?_, fun h' => .inr ⟨h'.1, fun y' hy' => h'.2 y' (List.mem_cons_of_mem _ hy')⟩⟩
      rcases h' with h' | h'
      · cases h'
      · refine ⟨h'.1, fun y' hy' => ?_⟩
        rcases List.mem_cons.1 hy' with rfl | hy'
        · exact fun e => hne _ h'.1 e.symm
        · exact h'.2 _ hy'
    · refine ⟨fun h' => ?_, fun h' => ?_⟩
      · rcases h' with h' | h'
        · cases h'
        · exact ⟨h'.1, List.mem_cons_of_mem _ h'.2.1, h'.2.2⟩
      · rcases List.mem_cons.1 h'.2.1 with rfl | hx
        · exact (hne _ h'.1 h'.2.2).elim
        · exact .inr ⟨h'.1, hx, h'.2.2⟩
  | case6 x a y b h0 h ih =>
    have e : x.p = y.p := hs.eq (by simpa using h0) (by simpa using h)
    have na : ∀ x' ∈ a, x'.p ≠ x.p := asc_ne hs (List.pairwise_cons.1 ha).1
    have nb : ∀ y' ∈ b, y'.p ≠ y.p := asc_ne hs (List.pairwise_cons.1 hb).1
    rw [both, if_neg h0, if_neg h, List.mem_cons, ih (List.pairwise_cons.1 ha).2 (List.pairwise_cons.1 hb).2]
    rcases q with ⟨_ | x', _ | y'⟩
    · exact ⟨fun h => by rcases h with h | h; cases h; exact h, fun h => .inr h⟩
    · refine ⟨fun h' => ?_, fun h' => ?_⟩
      · rcases h' with h' | h'
        · cases h'
        · refine ⟨List.mem_cons_of_mem _ h'.1, fun x' hx' => ?_⟩
          rcases List.mem_cons.1 hx' with rfl | hx'
          · exact fun e2 => nb _ h'.1 (e2.symm.trans e)
          · exact h'.2 _ hx'
      · rcases List.mem_cons.1 h'.1 with rfl | hy
        · exact (h'.2 _ List.mem_cons_self e).elim
        · exact .inr ⟨hy, fun x' hx' => h'.2 x' (List.mem_cons_of_mem _ hx')⟩
    · refine ⟨fun h' => ?_, fun h' => ?_⟩
      · rcases h' with h' | h'
        · cases h'
        · refine ⟨List.mem_cons_of_mem _ h'.1, fun y' hy' => ?_⟩
          rcases List.mem_cons.1 hy' with rfl | hy'
          · exact fun e2 => na _ h'.1 (e2.symm.trans e.symm)
          · exact h'.2 _ hy'
      · rcases List.mem_cons.1 h'.1 with rfl | hx
        · exact (h'.2 _ List.mem_cons_self e.symm).elim
        · exact .inr ⟨hx, fun y' hy' => h'.2 y' (List.mem_cons_of_mem _ hy')⟩
    · refine ⟨fun h' => ?_, fun h' => ?_⟩
      · rcases h' with h' | h'
        · cases h'; exact ⟨List.mem_cons_self, List.mem_cons_self, e⟩
        · exact ⟨List.mem_cons_of_mem _ h'.1, List.mem_cons_of_mem _ h'.2.1, h'.2.2⟩
      · rcases List.mem_cons.1 h'.1 with rfl | hx
        · rcases List.mem_cons.1 h'.2.1 with rfl | hy
          · exact .inl rfl
          · exact (nb _ hy (h'.2.2.symm.trans e)).elim
        · rcases List.mem_cons.1 h'.2.1 with rfl | hy
          · exact (na _ hx (h'.2.2.trans e.symm)).elim
          · exact .inr ⟨hx, hy, h'.2.2⟩
/-- the key of a pair -/
def keyQ : Option (Chg K D) × Option (Chg K D) → Option K
  | (some x, _) => some x.p
  | (none, some y) => some y.p
  | (none, none) => none
theorem PairOf.key {a b : List (Chg K D)} {q : Option (Chg K D) × Option (Chg K D)} {k : K} (h : PairOf a b q) (hk : keyQ q = some k) : (∃ x ∈ a, x.p = k) ∨ ∃ y ∈ b, y.p = k := by
  rcases q with ⟨_ | x, _ | y⟩
  · exact h.elim
  · simp only [keyQ, Option.some.injEq] at hk; exact .inr ⟨y, h.1, hk⟩
  · simp only [keyQ, Option.some.injEq] at hk; exact .inl ⟨x, h.1, hk⟩
  · simp only [keyQ, Option.some.injEq] at hk; exact .inl ⟨x, h.1, hk⟩
theorem both_asc (hs : Sto lt) (a b : List (Chg K D)) (ha : AscC lt a) (hb : AscC lt b) : (both lt a b).Pairwise fun q q' => ∀ k k', keyQ q = some k → keyQ q' = some k' → lt k k' = true := by
  induction a, b using both.induct (K := K) (D := D) lt with
  | case1 => rw [both]; exact .nil
  | case2 x a ih =>
    have ha2 := (List.pairwise_cons.1 ha).2
    rw [both]
    refine List.pairwise_cons.2 ⟨fun q hq k k' hk hk' => ?_, ih ha2 hb⟩
    simp only [keyQ, Option.some.injEq] at hk
    subst hk
    rcases ((mem_both hs _ _ ha2 hb q).1 hq).key hk' with ⟨u, hu, rfl⟩ | ⟨u, hu, rfl⟩
    · exact (List.pairwise_cons.1 ha).1 _ hu
    · cases hu
  | case3 y b ih =>
    have hb2 := (List.pairwise_cons.1 hb).2
    rw [both]
    refine List.pairwise_cons.2 ⟨fun q hq k k' hk hk' => ?_, ih ha hb2⟩
    simp only [keyQ, Option.some.injEq] at hk
    subst hk
    rcases ((mem_both hs _ _ ha hb2 q).1 hq).key hk' with ⟨u, hu, rfl⟩ | ⟨u, hu, rfl⟩
    · cases hu
    · exact (List.pairwise_cons.1 hb).1 _ hu
  | case4 x a y b h ih =>
    have ha2 := (List.pairwise_cons.1 ha).2
    rw [both, if_pos h]
    refine List.pairwise_cons.2 ⟨fun q hq k k' hk hk' => ?_, ih ha2 hb⟩
    simp only [keyQ, Option.some.injEq] at hk
    subst hk
    rcases ((mem_both hs _ _ ha2 hb q).1 hq).key hk' with ⟨u, hu, rfl⟩ | ⟨u, hu, rfl⟩
    · exact (List.pairwise_cons.1 ha).1 _ hu
    · rcases List.mem_cons.1 hu with rfl | hu
      · exact h
      · exact hs.tr _ _ _ h ((List.pairwise_cons.1 hb).1 _ hu)
  | case5 x a y b h0 h ih =>
    have hb2 := (List.pairwise_cons.1 hb).2
    rw [both, if_neg h0, if_pos h]
    refine List.pairwise_cons.2 ⟨fun q hq k k' hk hk' => ?_, ih ha hb2⟩
    simp only [keyQ, Option.some.injEq] at hk
    subst hk
    rcases ((mem_both hs _ _ ha hb2 q).1 hq).key hk' with ⟨u, hu, rfl⟩ | ⟨u, hu, rfl⟩
    · rcases List.mem_cons.1 hu with rfl | hu
      · exact h
      · exact hs.tr _ _ _ h ((List.pairwise_cons.1 ha).1 _ hu)
    · exact (List.pairwise_cons.1 hb).1 _ hu
  | case6 x a y b h0 h ih =>
    have e : x.p = y.p := hs.eq (by simpa using h0) (by simpa using h)
    have ha2 := (List.pairwise_cons.1 ha).2
    have hb2 := (List.pairwise_cons.1 hb).2
    rw [both, if_neg h0, if_neg h]
    refine List.pairwise_cons.2 ⟨fun q hq k k' hk hk' => ?_, ih ha2 hb2⟩
    simp only [keyQ, Option.some.injEq] at hk
    subst hk
    rcases ((mem_both hs _ _ ha2 hb2 q).1 hq).key hk' with ⟨u, hu, rfl⟩ | ⟨u, hu, rfl⟩
    · exact (List.pairwise_cons.1 ha).1 _ hu
    · rw [e]; exact (List.pairwise_cons.1 hb).1 _ hu
theorem runS_none_iff {α β : Type} (f : α → Option (Option β)) : ∀ (l : List α), runS f l = none ↔ ∃ q ∈ l, f q = none
  | [] => by simp [runS]
  | p :: l => by
    simp only [runS, List.mem_cons, exists_eq_or_imp]
    cases hp : f p with
    | none => simp
    | some e => simp [runS_none_iff f l]
theorem runS_mem {α β : Type} (f : α → Option (Option β)) : ∀ (l : List α) {r : List β}, runS f l = some r → ∀ e, e ∈ r ↔ ∃ q ∈ l, f q = some (some e)
  | [], r, h, e => by
    simp only [runS, Option.some.injEq] at h
    subst h
    simp
  | p :: l, r, h, e => by
    simp only [runS] at h
    cases hp : f p with
    | none => rw [hp] at h; cases h
    | some d =>
      rw [hp] at h
      cases hl : runS f l with
      | none => simp [hl] at h
      | some m =>
        simp only [hl, Option.map_some, Option.some.injEq] at h
        subst h
        simp only [List.mem_append, Option.mem_toList, List.mem_cons, exists_eq_or_imp, hp, runS_mem f l hl e]
        cases d <;> simp
theorem runS_pair {α β : Type} (f : α → Option (Option β)) {R : α → α → Prop} {S : β → β → Prop} (hRS : ∀ q q' e e', R q q' → f q = some (some e) → f q' = some (some e') → S e e') : ∀ (l : List α) {r : List β}, l.Pairwise R → runS f l = some r → r.Pairwise S
  | [], r, _, h => by
    simp only [runS, Option.some.injEq] at h
    subst h
    exact .nil
  | p :: l, r, hR, h => by
    simp only [runS] at h
    cases hp : f p with
    | none => rw [hp] at h; cases h
    | some d =>
      rw [hp] at h
      cases hl : runS f l with
      | none => simp [hl] at h
      | some m =>
        simp only [hl, Option.map_some, Option.some.injEq] at h
        subst h
        have ih := runS_pair f hRS l (List.pairwise_cons.1 hR).2 hl
        cases d with
        | none => simpa using ih
        | some e =>
          refine List.pairwise_cons.2 ⟨fun e' he' => ?_, ih⟩
          obtain ⟨q', hq', hf'⟩ := (runS_mem f l hl e').1 he'
          exact hRS p q' e e' ((List.pairwise_cons.1 hR).1 _ hq') hp hf'
theorem asc_run {α : Type} (hs : Sto lt) (key : α → K) (f : Option (Chg K D) × Option (Chg K D) → Option (Option α)) {a b : List (Chg K D)} (ha : AscC lt a) (hb : AscC lt b) (hk : ∀ q e, PairOf a b q → f q = some (some e) → keyQ q = some (key e)) {r : List α} (h : runS f (both lt a b) = some r) : r.Pairwise fun x y => lt (key x) (key y) = true := by
  refine runS_pair f (R := fun q q' => q ∈ both lt a b ∧ q' ∈ both lt a b ∧ ∀ k k', keyQ q = some k → keyQ q' = some k' → lt k k' = true) ?_ _ ?_ h
  · rintro q q' e e' ⟨h1, h2, h3⟩ he he'
    exact h3 _ _ (hk q e ((mem_both hs a b ha hb q).1 h1) he) (hk q' e' ((mem_both hs a b ha hb q').1 h2) he')
  · exact List.Pairwise.imp_of_mem (fun h1 h2 h3 => ⟨h1, h2, h3⟩) (both_asc hs a b ha hb)
theorem asc_ext {α : Type} (key : α → K) (hs : Sto lt) : ∀ (l m : List α), l.Pairwise (fun x y => lt (key x) (key y) = true) → m.Pairwise (fun x y => lt (key x) (key y) = true) → (∀ x, x ∈ l ↔ x ∈ m) → l = m
  | [], [], _, _, _ => rfl
  | [], y :: m, _, _, h => by have := (h y).2 List.mem_cons_self; cases this
  | x :: l, [], _, _, h => by have := (h x).1 List.mem_cons_self; cases this
  | x :: l, y :: m, hl, hm, h => by
    have e : x = y := by
      rcases List.mem_cons.1 ((h x).1 List.mem_cons_self) with e | h1
      · exact e
      · rcases List.mem_cons.1 ((h y).2 List.mem_cons_self) with e | h2
        · exact e.symm
        · have q1 := (List.pairwise_cons.1 hm).1 _ h1
          have q2 := (List.pairwise_cons.1 hl).1 _ h2
          rw [hs.asym q1] at q2; cases q2
    subst e
    congr 1
    refine asc_ext key hs l m (List.pairwise_cons.1 hl).2 (List.pairwise_cons.1 hm).2 fun w => ⟨fun hw => ?_, fun hw => ?_⟩
    · rcases List.mem_cons.1 ((h w).1 (List.mem_cons_of_mem _ hw)) with e | h1
      · subst e; have := (List.pairwise_cons.1 hl).1 _ hw; rw [hs.irr] at this; cases this
      · exact h1
    · rcases List.mem_cons.1 ((h w).2 (List.mem_cons_of_mem _ hw)) with e | h1
      · subst e; have := (List.pairwise_cons.1 hm).1 _ hw; rw [hs.irr] at this; cases this
      · exact h1
variable (lt)
/-- an element put into an ascending list -/
def putK {α : Type} (key : α → K) (l : List α) (x : α) : List α := l.takeWhile (fun y => lt (key y) (key x)) ++ x :: l.dropWhile (fun y => lt (key y) (key x))
def foldPut {α β : Type} (key : α → K) (g : β → Option α) (l : List β) (o : List α) : List α := l.foldl (fun o b => match g b with | none => o | some e => putK lt key o e) o
variable {lt}
theorem mem_putK {α : Type} (key : α → K) (l : List α) (x y : α) : y ∈ putK lt key l x ↔ y = x ∨ y ∈ l := by
  unfold putK
  conv => rhs; rw [← List.takeWhile_append_dropWhile (p := fun y => lt (key y) (key x)) (l := l)]
  simp only [List.mem_append, List.mem_cons]
  constructor
  · rintro (h | h | h)
    · exact .inr (.inl h)
    · exact .inl h
    · exact .inr (.inr h)
  · rintro (h | h | h)
    · exact .inr (.inl h)
    · exact .inl h
    · exact .inr (.inr h)
theorem putK_cons {α : Type} (key : α → K) (y : α) (l : List α) (x : α) : putK lt key (y :: l) x = if lt (key y) (key x) then y :: putK lt key l x else x :: y :: l := by
  unfold putK
  by_cases h : lt (key y) (key x) = true
  · simp [h]
  · simp [h]
theorem asc_putK {α : Type} (key : α → K) (hs : Sto lt) : ∀ (l : List α) (x : α), l.Pairwise (fun x y => lt (key x) (key y) = true) → (∀ y ∈ l, key y ≠ key x) → (putK lt key l x).Pairwise (fun x y => lt (key x) (key y) = true)
  | [], x, _, _ => by simp [putK]
  | y :: l, x, hl, hn => by
    rw [putK_cons]
    by_cases h : lt (key y) (key x) = true
    · rw [if_pos h]
      refine List.pairwise_cons.2 ⟨fun w hw => ?_, asc_putK key hs l x (List.pairwise_cons.1 hl).2 (fun w hw => hn w (List.mem_cons_of_mem _ hw))⟩
      rcases (mem_putK key l x w).1 hw with rfl | hw
      · exact h
      · exact (List.pairwise_cons.1 hl).1 _ hw
    · rw [if_neg h]
      have h2 : lt (key x) (key y) = true := by
        rcases hs.tot _ _ (hn y List.mem_cons_self) with h3 | h3
        · exact absurd h3 h
        · exact h3
      refine List.pairwise_cons.2 ⟨fun w hw => ?_, hl⟩
      rcases List.mem_cons.1 hw with rfl | hw
      · exact h2
      · exact hs.tr _ _ _ h2 ((List.pairwise_cons.1 hl).1 _ hw)
theorem foldPut_cons {α β : Type} (key : α → K) (g : β → Option α) (b : β) (l : List β) (o : List α) : foldPut lt key g (b :: l) o = foldPut lt key g l (match g b with | none => o | some e => putK lt key o e) := rfl
theorem mem_foldPut {α β : Type} (key : α → K) (g : β → Option α) : ∀ (l : List β) (o : List α) (e : α), e ∈ foldPut lt key g l o ↔ e ∈ o ∨ ∃ b ∈ l, g b = some e
  | [], o, e => by simp [foldPut]
  | b :: l, o, e => by
    rw [foldPut_cons, mem_foldPut key g l]
    simp only [List.mem_cons, exists_eq_or_imp]
    cases hb : g b with
    | none => simp
    | some d =>
      simp only [mem_putK, Option.some.injEq]
      constructor
      · rintro ((h | h) | h)
        · exact .inr (.inl h.symm)
        · exact .inl h
        · exact .inr (.inr h)
      · rintro (h | h | h)
        · exact .inl (.inr h)
        · exact .inl (.inl h.symm)
        · exact .inr h
theorem asc_foldPut {α β : Type} (key : α → K) (hs : Sto lt) (g : β → Option α) : ∀ (l : List β) (o : List α), o.Pairwise (fun x y => lt (key x) (key y) = true) → (∀ b ∈ l, ∀ e, g b = some e → ∀ y ∈ o, key y ≠ key e) → l.Pairwise (fun b b' => ∀ e e', g b = some e → g b' = some e' → key e ≠ key e') → (foldPut lt key g l o).Pairwise (fun x y => lt (key x) (key y) = true)
  | [], o, ho, _, _ => ho
  | b :: l, o, ho, h1, h2 => by
    rw [foldPut_cons]
    have h2' := List.pairwise_cons.1 h2
    cases hb : g b with
    | none => exact asc_foldPut key hs g l o ho (fun b' hb' => h1 b' (List.mem_cons_of_mem _ hb')) h2'.2
    | some d =>
      refine asc_foldPut key hs g l _ (asc_putK key hs o d ho (h1 b List.mem_cons_self d hb)) (fun b' hb' e he y hy => ?_) h2'.2
      rcases (mem_putK key o d y).1 hy with rfl | hy
      · exact h2'.1 b' hb' _ _ hb he
      · exact h1 b' (List.mem_cons_of_mem _ hb') e he y hy
def lookR (s : List (Ent K D)) (k : K) : Option D := (s.find? fun x => decide (x.p = k)).map (·.d)
def lookZ (s : List (Ent K D)) (k : K) : D := (lookR s k).getD z
def findR (l : List (Chg K D)) (k : K) : Option (Chg K D) := l.find? fun x => decide (x.p = k)
theorem lookR_none {s : List (Ent K D)} {k : K} : lookR s k = none ↔ ∀ x ∈ s, x.p ≠ k := by
  simp [lookR, List.find?_eq_none]
theorem findR_none {s : List (Chg K D)} {k : K} : findR s k = none ↔ ∀ x ∈ s, x.p ≠ k := by
  simp [findR, List.find?_eq_none]
theorem lookR_some {s : List (Ent K D)} {k : K} {d : D} (h : lookR s k = some d) : ∃ x ∈ s, x.p = k ∧ x.d = d := by
  unfold lookR at h
  cases hf : s.find? fun x => decide (x.p = k) with
  | none => rw [hf] at h; cases h
  | some x =>
    rw [hf, Option.map_some, Option.some.injEq] at h
    exact ⟨x, List.mem_of_find?_eq_some hf, by simpa using List.find?_some hf, h⟩
theorem findR_some {s : List (Chg K D)} {k : K} {d : Chg K D} (h : findR s k = some d) : d ∈ s ∧ d.p = k := ⟨List.mem_of_find?_eq_some h, by simpa using List.find?_some h⟩
theorem asc_uniq (hs : Sto lt) {α : Type} (key : α → K) : ∀ {l : List α}, l.Pairwise (fun x y => lt (key x) (key y) = true) → ∀ {x y}, x ∈ l → y ∈ l → key x = key y → x = y
  | [], _, x, y, h, _, _ => by cases h
  | w :: l, hl, x, y, hx, hy, e => by
    have h1 := List.pairwise_cons.1 hl
    rcases List.mem_cons.1 hx with e1 | hx'
    · rcases List.mem_cons.1 hy with e2 | hy'
      · rw [e1, e2]
      · have := h1.1 _ hy'; rw [← e1, e, hs.irr] at this; cases this
    · rcases List.mem_cons.1 hy with e2 | hy'
      · have := h1.1 _ hx'; rw [← e2, e, hs.irr] at this; cases this
      · exact asc_uniq hs key h1.2 hx' hy' e
theorem lookR_mem (hs : Sto lt) {s : List (Ent K D)} (ha : Asc lt s) {x : Ent K D} (hx : x ∈ s) : lookR s x.p = some x.d := by
  cases h : lookR s x.p with
  | none => exact absurd rfl (lookR_none.1 h x hx)
  | some d =>
    obtain ⟨y, hy, e1, e2⟩ := lookR_some h
    rw [← e2, asc_uniq hs Ent.p ha hy hx e1]
theorem findR_mem (hs : Sto lt) {s : List (Chg K D)} (ha : AscC lt s) {x : Chg K D} (hx : x ∈ s) : findR s x.p = some x := by
  cases h : findR s x.p with
  | none => exact absurd rfl (findR_none.1 h x hx)
  | some d => rw [asc_uniq hs Chg.p ha (findR_some h).1 hx (findR_some h).2]
theorem asc_pw {α β : Type} (key : α → K) (key' : β → K) (hs : Sto lt) (g : β → Option α) (hg : ∀ b e, g b = some e → key e = key' b) {l : List β} (h : l.Pairwise (fun x y => lt (key' x) (key' y) = true)) : l.Pairwise (fun b b' => ∀ e e', g b = some e → g b' = some e' → key e ≠ key e') :=
  h.imp fun {b b'} h1 e e' he he' e2 => by
    rw [hg _ _ he, hg _ _ he'] at e2
    rw [e2, hs.irr] at h1; cases h1
theorem cre_asc {a : List (Ent K D)} (h : Asc lt a) : AscC lt (a.map (cre z)) := List.pairwise_map.2 h
def dA (b : List (Ent K D)) (x : Ent K D) : Option (Chg K D) := if lookZ z b x.p = x.d then none else some ⟨x.p, x.d, lookZ z b x.p⟩
def dB (a : List (Ent K D)) (y : Ent K D) : Option (Chg K D) := if (lookR a y.p).isSome then none else some ⟨y.p, z, y.d⟩
theorem refDiff_eq (hs : Sto lt) (a b : List (Ent K D)) (ha : Asc lt a) (hb : Asc lt b) (na : ∀ x ∈ a, x.d ≠ z) (nb : ∀ x ∈ b, x.d ≠ z) : foldPut lt Chg.p (dB z a) b (foldPut lt Chg.p (dA z b) a []) = diff lt z a b := by
  have hrun := diff_run lt z a b
  have ka : ∀ x e, dA z b x = some e → e.p = x.p := fun x e h => by unfold dA at h; split at h <;> cases h; rfl
  have kb : ∀ x e, dB z a x = some e → e.p = x.p := fun x e h => by unfold dB at h; split at h <;> cases h; rfl
  refine asc_ext Chg.p hs _ _ (asc_foldPut Chg.p hs _ _ _ (asc_foldPut Chg.p hs _ _ _ .nil (fun _ _ _ _ y hy => by cases hy) (asc_pw Chg.p Ent.p hs _ ka ha)) (fun y hy e he w hw e2 => ?_) (asc_pw Chg.p Ent.p hs _ kb hb))
    (asc_run hs Chg.p (difF z) (cre_asc z ha) (cre_asc z hb) ?_ hrun) fun e => ?_
  · rw [kb _ _ he] at e2
    unfold dB at he
    split at he
    · cases he
    · next h =>
      simp only [Bool.not_eq_true, Option.isSome_eq_false_iff, Option.isNone_iff_eq_none] at h
      rcases (mem_foldPut Chg.p _ a [] w).1 hw with hw | ⟨x, hx, hw⟩
      · cases hw
      · rw [ka _ _ hw] at e2
        exact lookR_none.1 h x hx e2
  · rintro ⟨_ | x, _ | y⟩ e hp he <;> simp only [difF] at he <;> (try split at he) <;> simp only [Option.some.injEq, reduceCtorEq] at he <;> subst he <;> rfl
  · rw [mem_foldPut, mem_foldPut, runS_mem _ _ hrun]
    constructor
    · rintro ((h | ⟨x, hx, h⟩) | ⟨y, hy, h⟩)
      · cases h
      · unfold dA at h
        split at h
        · cases h
        · next hne =>
          simp only [Option.some.injEq] at h
          subst h
          unfold lookZ at hne ⊢
          cases hl : lookR b x.p with
          | none =>
            refine ⟨(some (cre z x), none), (mem_both hs _ _ (cre_asc z ha) (cre_asc z hb) _).2 ⟨List.mem_map_of_mem hx, fun y hy => ?_⟩, rfl⟩
            obtain ⟨y', hy', rfl⟩ := List.mem_map.1 hy
            exact lookR_none.1 hl y' hy'
          | some d =>
            obtain ⟨y, hy, e1, e2⟩ := lookR_some hl
            refine ⟨(some (cre z x), some (cre z y)), (mem_both hs _ _ (cre_asc z ha) (cre_asc z hb) _).2 ⟨List.mem_map_of_mem hx, List.mem_map_of_mem hy, e1.symm⟩, ?_⟩
            rw [hl] at hne
            simp only [Option.getD_some] at hne
            simp only [difF, cre, e2, Option.getD_some]
            rw [if_neg (fun h => hne h.symm)]
      · unfold dB at h
        split at h
        · cases h
        · next hn =>
          simp only [Bool.not_eq_true, Option.isSome_eq_false_iff, Option.isNone_iff_eq_none] at hn
          simp only [Option.some.injEq] at h
          subst h
          refine ⟨(none, some (cre z y)), (mem_both hs _ _ (cre_asc z ha) (cre_asc z hb) _).2 ⟨List.mem_map_of_mem hy, fun x hx => ?_⟩, rfl⟩
          obtain ⟨x', hx', rfl⟩ := List.mem_map.1 hx
          exact lookR_none.1 hn x' hx'
    · rintro ⟨q, hq, hf⟩
      have hp := (mem_both hs _ _ (cre_asc z ha) (cre_asc z hb) _).1 hq
      rcases q with ⟨_ | x, _ | y⟩
      · exact hp.elim
      · simp only [difF, Option.some.injEq] at hf
        subst hf
        obtain ⟨y', hy', rfl⟩ := List.mem_map.1 hp.1
        refine .inr ⟨y', hy', ?_⟩
        have hn : lookR a y'.p = none := lookR_none.2 fun x hx => hp.2 _ (List.mem_map_of_mem hx)
        unfold dB
        rw [hn]; rfl
      · simp only [difF, Option.some.injEq] at hf
        subst hf
        obtain ⟨x', hx', rfl⟩ := List.mem_map.1 hp.1
        refine .inl (.inr ⟨x', hx', ?_⟩)
        have hn : lookR b x'.p = none := lookR_none.2 fun y hy => hp.2 _ (List.mem_map_of_mem hy)
        unfold dA lookZ
        rw [hn, Option.getD_none, if_neg (fun h => na x' hx' h.symm)]
        rfl
      · obtain ⟨x', hx', rfl⟩ := List.mem_map.1 hp.1
        obtain ⟨y', hy', rfl⟩ := List.mem_map.1 hp.2.1
        simp only [difF] at hf
        split at hf
        · cases hf
        · next hne =>
          simp only [Option.some.injEq] at hf
          subst hf
          refine .inl (.inr ⟨x', hx', ?_⟩)
          have hn : lookR b x'.p = some y'.d := by rw [show x'.p = y'.p from hp.2.2]; exact lookR_mem hs hb hy'
          unfold dA lookZ
          rw [hn, Option.getD_some, if_neg (fun h => hne h.symm)]
          rfl
theorem appF_l (x : Ent K D) : appF z (some (cre z x), none) = if x.d = z then some none else some (some ⟨x.p, x.d⟩) := rfl
theorem appF_e (x : Ent K D) (y : Chg K D) : appF z (some (cre z x), some y) = if y.o = x.d then (if y.n = z then some none else some (some ⟨y.p, y.n⟩)) else none := rfl
def aL (c : Chg K D) : Option (Ent K D) := if c.n = z then none else some ⟨c.p, c.n⟩
theorem filter_asc {s : List (Ent K D)} (h : Asc lt s) (f : Ent K D → Bool) : Asc lt (s.filter f) := List.Pairwise.filter _ h
/-- Apply by the reference: none where a change does not fit -/
def refApp (s : List (Ent K D)) (l : List (Chg K D)) : Option (List (Ent K D)) := if l.all (fun c => decide (lookZ z s c.p = c.o)) then some (foldPut lt Ent.p (aL z) l (s.filter fun x => !(findR l x.p).isSome)) else none
theorem refApp_eq (hs : Sto lt) (s : List (Ent K D)) (l : List (Chg K D)) (ha : Asc lt s) (hl : AscC lt l) (na : ∀ x ∈ s, x.d ≠ z) : refApp (lt := lt) z s l = runS (appF z) (both lt (s.map (cre z)) l) := by
  have hc := cre_asc z ha
  unfold refApp
  by_cases hall : l.all (fun c => decide (lookZ z s c.p = c.o)) = true
  · rw [if_pos hall]
    simp only [List.all_eq_true, decide_eq_true_eq] at hall
    cases hrun : runS (appF z) (both lt (s.map (cre z)) l) with
    | none =>
      exfalso
      obtain ⟨q, hq, hf⟩ := (runS_none_iff _ _).1 hrun
      have hp := (mem_both hs _ _ hc hl _).1 hq
      rcases q with ⟨_ | x, _ | y⟩
      · exact hp.elim
      · have h1 := hall y hp.1
        have hn : lookR s y.p = none := lookR_none.2 fun x hx => hp.2 _ (List.mem_map_of_mem hx)
        unfold lookZ at h1
        rw [hn, Option.getD_none] at h1
        simp only [appF, if_pos h1.symm] at hf
        split at hf <;> cases hf
      · simp only [appF] at hf
        split at hf <;> cases hf
      · obtain ⟨x', hx', rfl⟩ := List.mem_map.1 hp.1
        have h1 := hall y hp.2.1
        have hn : lookR s y.p = some x'.d := by rw [← show x'.p = y.p from hp.2.2]; exact lookR_mem hs ha hx'
        unfold lookZ at h1
        rw [hn, Option.getD_some] at h1
        rw [appF_e, if_pos h1.symm] at hf
        split at hf <;> cases hf
    | some r =>
      congr 1
      have kl : ∀ x e, aL (K := K) z x = some e → e.p = x.p := fun x e h => by unfold aL at h; split at h <;> cases h; rfl
      refine asc_ext Ent.p hs _ _ (asc_foldPut Ent.p hs _ _ _ (filter_asc ha _) (fun y hy e he w hw e2 => ?_) (asc_pw Ent.p Chg.p hs _ kl hl))
        (asc_run hs Ent.p (appF z) hc hl ?_ hrun) fun e => ?_
      · rw [kl _ _ he] at e2
        have h1 := (List.mem_filter.1 hw).2
        simp only [Bool.not_eq_true', Option.isSome_eq_false_iff, Option.isNone_iff_eq_none] at h1
        exact findR_none.1 h1 y hy e2.symm
      · rintro ⟨_ | x, _ | y⟩ e hp he
        · cases hp
        · simp only [appF] at he
          split at he <;> (try split at he) <;> simp only [Option.some.injEq, reduceCtorEq] at he
          subst he; rfl
        · simp only [appF] at he
          split at he <;> simp only [Option.some.injEq, reduceCtorEq] at he
          subst he; rfl
        · simp only [appF] at he
          split at he <;> (try split at he) <;> simp only [Option.some.injEq, reduceCtorEq] at he
          subst he; exact congrArg some hp.2.2
      · rw [mem_foldPut, runS_mem _ _ hrun, List.mem_filter]
        constructor
        · rintro (⟨hx, h1⟩ | ⟨c, hc', h⟩)
          · simp only [Bool.not_eq_true', Option.isSome_eq_false_iff, Option.isNone_iff_eq_none] at h1
            refine ⟨(some (cre z e), none), (mem_both hs _ _ hc hl _).2 ⟨List.mem_map_of_mem hx, findR_none.1 h1⟩, ?_⟩
            rw [appF_l, if_neg (na e hx)]
          · unfold aL at h
            split at h
            · cases h
            · next hne =>
              simp only [Option.some.injEq] at h
              subst h
              have h1 := hall c hc'
              unfold lookZ at h1
              cases hk : lookR s c.p with
              | none =>
                rw [hk, Option.getD_none] at h1
                refine ⟨(none, some c), (mem_both hs _ _ hc hl _).2 ⟨hc', fun x hx => ?_⟩, ?_⟩
                · obtain ⟨x', hx', rfl⟩ := List.mem_map.1 hx
                  exact lookR_none.1 hk x' hx'
                · simp only [appF]
                  rw [if_pos h1.symm, if_neg hne]
              | some d =>
                rw [hk, Option.getD_some] at h1
                obtain ⟨x, hx, e1, e2⟩ := lookR_some hk
                refine ⟨(some (cre z x), some c), (mem_both hs _ _ hc hl _).2 ⟨List.mem_map_of_mem hx, hc', e1⟩, ?_⟩
                rw [appF_e, if_pos (by rw [e2]; exact h1.symm), if_neg hne]
        · rintro ⟨q, hq, hf⟩
          have hp := (mem_both hs _ _ hc hl _).1 hq
          rcases q with ⟨_ | x, _ | y⟩
          · exact hp.elim
          · simp only [appF] at hf
            split at hf <;> (try split at hf) <;> simp only [Option.some.injEq, reduceCtorEq] at hf
            next h1 h2 =>
            subst hf
            refine .inr ⟨y, hp.1, ?_⟩
            unfold aL
            rw [if_neg h2]
          · simp only [appF] at hf
            split at hf <;> simp only [Option.some.injEq, reduceCtorEq] at hf
            subst hf
            obtain ⟨x', hx', rfl⟩ := List.mem_map.1 hp.1
            refine .inl ⟨hx', ?_⟩
            simp only [Bool.not_eq_true', Option.isSome_eq_false_iff, Option.isNone_iff_eq_none]
            exact findR_none.2 hp.2
          · simp only [appF] at hf
            split at hf <;> (try split at hf) <;> simp only [Option.some.injEq, reduceCtorEq] at hf
            next h1 h2 =>
            subst hf
            refine .inr ⟨y, hp.2.1, ?_⟩
            unfold aL
            rw [if_neg h2]
  · rw [if_neg hall]
    symm
    rw [runS_none_iff]
    simp only [List.all_eq_true, decide_eq_true_eq, Classical.not_forall] at hall
    obtain ⟨c, hcl, hne⟩ := hall
    unfold lookZ at hne
    cases hk : lookR s c.p with
    | none =>
      rw [hk, Option.getD_none] at hne
      refine ⟨(none, some c), (mem_both hs _ _ hc hl _).2 ⟨hcl, fun x hx => ?_⟩, ?_⟩
      · obtain ⟨x', hx', rfl⟩ := List.mem_map.1 hx
        exact lookR_none.1 hk x' hx'
      · simp only [appF]
        rw [if_neg (fun h => hne h.symm)]
    | some d =>
      rw [hk, Option.getD_some] at hne
      obtain ⟨x, hx, e1, e2⟩ := lookR_some hk
      refine ⟨(some (cre z x), some c), (mem_both hs _ _ hc hl _).2 ⟨List.mem_map_of_mem hx, hcl, e1⟩, ?_⟩
      rw [appF_e, if_neg (fun h => hne (by rw [← e2]; exact h.symm))]
def cA (b : List (Chg K D)) (x : Chg K D) : Option (Chg K D) := match findR b x.p with
  | none => some x
  | some y => if x.o = y.n then none else some ⟨y.p, x.o, y.n⟩
def cB (a : List (Chg K D)) (y : Chg K D) : Option (Chg K D) := if (findR a y.p).isSome then none else some y
def cOk (b : List (Chg K D)) (x : Chg K D) : Bool := match findR b x.p with
  | none => true
  | some y => decide (x.n = y.o)
/-- Compose by the reference: none where two changes do not fit -/
def refComp (a b : List (Chg K D)) : Option (List (Chg K D)) := if a.all (cOk b) then some (foldPut lt Chg.p (cB a) b (foldPut lt Chg.p (cA b) a [])) else none
theorem refComp_eq (hs : Sto lt) (a b : List (Chg K D)) (ha : AscC lt a) (hb : AscC lt b) : refComp (lt := lt) a b = runS compF (both lt a b) := by
  unfold refComp
  by_cases hall : a.all (cOk b) = true
  · rw [if_pos hall]
    simp only [List.all_eq_true] at hall
    cases hrun : runS compF (both lt a b) with
    | none =>
      exfalso
      obtain ⟨q, hq, hf⟩ := (runS_none_iff _ _).1 hrun
      have hp := (mem_both hs _ _ ha hb _).1 hq
      rcases q with ⟨_ | x, _ | y⟩
      · exact hp.elim
      · simp [compF] at hf
      · simp [compF] at hf
      · have h1 := hall x hp.1
        unfold cOk at h1
        rw [hp.2.2, findR_mem hs hb hp.2.1] at h1
        simp only [decide_eq_true_eq] at h1
        simp only [compF, if_pos h1] at hf
        split at hf <;> cases hf
    | some r =>
      congr 1
      have ka : ∀ x e, cA b x = some e → e.p = x.p := fun x e h => by
        unfold cA at h
        cases hf : findR b x.p with
        | none => rw [hf] at h; simp only [Option.some.injEq] at h; rw [h]
        | some y =>
          rw [hf] at h
          simp only at h
          split at h
          · cases h
          · simp only [Option.some.injEq] at h
            subst h
            exact (findR_some hf).2
      have kb : ∀ x e, cB a x = some e → e.p = x.p := fun x e h => by unfold cB at h; split at h <;> cases h; rfl
      refine asc_ext Chg.p hs _ _ (asc_foldPut Chg.p hs _ _ _ (asc_foldPut Chg.p hs _ _ _ .nil (fun _ _ _ _ y hy => by cases hy) (asc_pw Chg.p Chg.p hs _ ka ha)) (fun y hy e he w hw e2 => ?_) (asc_pw Chg.p Chg.p hs _ kb hb))
        (asc_run hs Chg.p compF ha hb ?_ hrun) fun e => ?_
      · rw [kb _ _ he] at e2
        unfold cB at he
        split at he
        · cases he
        · next h =>
          simp only [Bool.not_eq_true, Option.isSome_eq_false_iff, Option.isNone_iff_eq_none] at h
          rcases (mem_foldPut Chg.p _ a [] w).1 hw with hw | ⟨x, hx, hw⟩
          · cases hw
          · rw [ka _ _ hw] at e2
            exact findR_none.1 h x hx e2
      · rintro ⟨_ | x, _ | y⟩ e hp he <;> simp only [compF] at he <;> (try split at he) <;> (try split at he) <;> simp only [Option.some.injEq, reduceCtorEq] at he <;> subst he <;> rfl
      · rw [mem_foldPut, mem_foldPut, runS_mem _ _ hrun]
        constructor
        · rintro ((h | ⟨x, hx, h⟩) | ⟨y, hy, h⟩)
          · cases h
          · unfold cA at h
            have h1 := hall x hx
            unfold cOk at h1
            cases hf : findR b x.p with
            | none =>
              rw [hf] at h
              simp only [Option.some.injEq] at h
              subst h
              exact ⟨(some x, none), (mem_both hs _ _ ha hb _).2 ⟨hx, findR_none.1 hf⟩, rfl⟩
            | some y =>
              rw [hf] at h h1
              simp only [decide_eq_true_eq] at h h1
              split at h
              · cases h
              · next hne =>
                simp only [Option.some.injEq] at h
                subst h
                refine ⟨(some x, some y), (mem_both hs _ _ ha hb _).2 ⟨hx, (findR_some hf).1, (findR_some hf).2.symm⟩, ?_⟩
                simp only [compF]
                rw [if_pos h1, if_neg hne, (findR_some hf).2]
          · unfold cB at h
            split at h
            · cases h
            · next hn =>
              simp only [Bool.not_eq_true, Option.isSome_eq_false_iff, Option.isNone_iff_eq_none] at hn
              simp only [Option.some.injEq] at h
              subst h
              exact ⟨(none, some y), (mem_both hs _ _ ha hb _).2 ⟨hy, findR_none.1 hn⟩, rfl⟩
        · rintro ⟨q, hq, hf⟩
          have hp := (mem_both hs _ _ ha hb _).1 hq
          rcases q with ⟨_ | x, _ | y⟩
          · exact hp.elim
          · simp only [compF, Option.some.injEq] at hf
            subst hf
            refine .inr ⟨y, hp.1, ?_⟩
            unfold cB
            rw [findR_none.2 hp.2]; rfl
          · simp only [compF, Option.some.injEq] at hf
            subst hf
            refine .inl (.inr ⟨x, hp.1, ?_⟩)
            unfold cA
            rw [findR_none.2 hp.2]
          · simp only [compF] at hf
            split at hf <;> (try split at hf) <;> simp only [Option.some.injEq, reduceCtorEq] at hf
            next h1 h2 =>
            subst hf
            refine .inl (.inr ⟨x, hp.1, ?_⟩)
            unfold cA
            rw [hp.2.2, findR_mem hs hb hp.2.1]
            simp only
            rw [if_neg h2]
  · rw [if_neg hall]
    symm
    rw [runS_none_iff]
    simp only [List.all_eq_true, Classical.not_forall] at hall
    obtain ⟨x, hx, hne⟩ := hall
    unfold cOk at hne
    cases hf : findR b x.p with
    | none => rw [hf] at hne; exact absurd rfl hne
    | some y =>
      rw [hf] at hne
      simp only [decide_eq_true_eq] at hne
      refine ⟨(some x, some y), (mem_both hs _ _ ha hb _).2 ⟨hx, (findR_some hf).1, (findR_some hf).2.symm⟩, ?_⟩
      simp only [compF]
      rw [if_neg hne]
end
end Go.Adm

/- Composition of changes in plain Lean: the changes from a to b followed by those from b to c are those from a to c. -/
import Derived.Test.YtipepcjiogifaaaDoorSnapSpec
set_option linter.unusedSimpArgs false
set_option linter.unusedVariables false
set_option linter.unusedSectionVars false
namespace Go.Adm
open Go Go.RowKit
section
variable {K D : Type} (lt : K → K → Bool) (z : D) [DecidableEq D]
/-- a list of entries begins with at most one entry of key k -/
structure Peel (k : K) (a pa a' : List (Ent K D)) (v : D) : Prop where
  app : a = pa ++ a'
  one : pa = [] ∧ v = z ∨ pa = [⟨k, v⟩] ∧ v ≠ z
  gt : ∀ x ∈ a', lt k x.p = true
  asc : Asc lt a'
  nz : ∀ x ∈ a', x.d ≠ z
theorem peel_of (hs : Sto lt) (k : K) (a : List (Ent K D)) (ha : Asc lt a) (na : ∀ x ∈ a, x.d ≠ z) (hk : ∀ x ∈ a.head?, lt x.p k = false) : ∃ pa a' v, Peel lt z k a pa a' v := by
  cases a with
  | nil => exact ⟨[], [], z, rfl, .inl ⟨rfl, rfl⟩, by simp, ha, by simp⟩
  | cons x a =>
    have h1 := (List.pairwise_cons.1 ha).1
    have h2 := List.Pairwise.of_cons ha
    cases hq : lt k x.p with
    | true =>
      refine ⟨[], x :: a, z, rfl, .inl ⟨rfl, rfl⟩, List.forall_mem_cons.2 ⟨hq, fun u hu => hs.tr _ _ _ hq (h1 u hu)⟩, ha, na⟩
    | false =>
      have e : x.p = k := hs.eq (hk x (by simp)) hq
      refine ⟨[x], a, x.d, rfl, .inr ⟨by rw [← e], na x (by simp)⟩, fun u hu => by rw [← e]; exact h1 u hu, h2, fun u hu => na u (by simp [hu])⟩
def chg1 (k : K) (u v : D) : List (Chg K D) := if u = v then [] else [⟨k, u, v⟩]
theorem diff_l (hs : Sto lt) (x : Ent K D) (a b : List (Ent K D)) (h : ∀ y ∈ b, lt x.p y.p = true) : diff lt z (x :: a) b = ⟨x.p, x.d, z⟩ :: diff lt z a b := by
  cases b with
  | nil => rw [diff]
  | cons y b => rw [diff, if_pos (h y (by simp))]
theorem diff_r (hs : Sto lt) (y : Ent K D) (a b : List (Ent K D)) (h : ∀ x ∈ a, lt y.p x.p = true) : diff lt z a (y :: b) = ⟨y.p, z, y.d⟩ :: diff lt z a b := by
  cases a with
  | nil => rw [diff]
  | cons x a => rw [diff, if_neg (by rw [hs.asym (h x (by simp))]; decide), if_pos (h x (by simp))]
theorem diff_peel (hs : Sto lt) {k : K} {a pa a' b pb b' : List (Ent K D)} {u v : D} (ha : Peel lt z k a pa a' u) (hb : Peel lt z k b pb b' v) : diff lt z a b = chg1 k u v ++ diff lt z a' b' := by
  rw [ha.app, hb.app]
  unfold chg1
  rcases ha.one with ⟨rfl, rfl⟩ | ⟨rfl, h1⟩ <;> rcases hb.one with ⟨rfl, h2⟩ | ⟨rfl, h2⟩
  · rw [h2, if_pos rfl]; rfl
  · rw [if_neg (fun e => h2 e.symm), List.nil_append]; exact diff_r lt _ hs _ _ _ ha.gt
  · rw [h2, if_neg h1]; exact diff_l lt _ hs _ _ _ hb.gt
  · simp only [List.cons_append, List.nil_append]
    rw [diff, if_neg (by rw [hs.irr]; decide), if_neg (by rw [hs.irr]; decide)]
    by_cases e : u = v
    · rw [if_pos e, if_pos e]; rfl
    · rw [if_neg e, if_neg e]; rfl
theorem min_key (hs : Sto lt) : ∀ (ks : List K), ks ≠ [] → ∃ k ∈ ks, ∀ x ∈ ks, lt x k = false
  | [], h => absurd rfl h
  | [k], _ => ⟨k, by simp, by simp [hs.irr]⟩
  | k :: k' :: ks, _ => by
    obtain ⟨m, hm, hmin⟩ := min_key hs (k' :: ks) (by simp)
    cases hq : lt k m with
    | true =>
      refine ⟨k, by simp, List.forall_mem_cons.2 ⟨hs.irr k, fun x hx => ?_⟩⟩
      cases hx2 : lt x k with
      | false => rfl
      | true => have := hs.tr _ _ _ hx2 hq; rw [hmin x hx] at this; cases this
    | false => exact ⟨m, by simp [hm], List.forall_mem_cons.2 ⟨hq, hmin⟩⟩
theorem chg1_gt {k : K} {u v : D} {l : List (Chg K D)} : ∀ c ∈ chg1 k u v, c.p = k := by
  intro c hc
  unfold chg1 at hc
  split at hc
  · simp at hc
  · simp only [List.mem_singleton] at hc; rw [hc]
theorem comp_peel (hs : Sto lt) {k : K} {u v x : D} {l m : List (Chg K D)} {r : List (Chg K D)} (hl : ∀ c ∈ l, lt k c.p = true) (hm : ∀ c ∈ m, lt k c.p = true) (hr : runS (compF (K := K)) (both lt l m) = some r) :
    runS compF (both lt (chg1 k u v ++ l) (chg1 k v x ++ m)) = some (chg1 k u x ++ r) := by
  unfold chg1
  by_cases h1 : u = v
  · subst h1
    rw [if_pos rfl, List.nil_append]
    by_cases h2 : u = x
    · rw [if_pos h2]; exact hr
    · rw [if_neg h2, List.cons_append, List.nil_append, both_r lt hs _ _ _ (head_of hl)]
      exact runS_c1 rfl hr
  · rw [if_neg h1]
    by_cases h2 : v = x
    · subst h2
      rw [if_pos rfl, if_neg h1, List.nil_append, List.cons_append, List.nil_append, both_l lt _ _ _ (head_of hm)]
      exact runS_c1 rfl hr
    · rw [if_neg h2, List.cons_append, List.cons_append, List.nil_append, List.nil_append, both_e lt hs ⟨k, u, v⟩ ⟨k, v, x⟩ _ _ rfl]
      by_cases h3 : u = x
      · rw [if_pos h3]
        exact runS_c0 (by simp [compF, h3]) hr
      · rw [if_neg h3]
        exact runS_c1 (by simp [compF, h3]) hr
theorem diff_comp (hs : Sto lt) : ∀ (n : Nat) (a b c : List (Ent K D)), a.length + b.length + c.length ≤ n → Asc lt a → Asc lt b → Asc lt c → (∀ x ∈ a, x.d ≠ z) → (∀ x ∈ b, x.d ≠ z) → (∀ x ∈ c, x.d ≠ z) →
    runS compF (both lt (diff lt z a b) (diff lt z b c)) = some (diff lt z a c) := by
  intro n
  induction n with
  | zero =>
    intro a b c hn _ _ _ _ _ _
    obtain rfl : a = [] := List.eq_nil_of_length_eq_zero (by omega)
    obtain rfl : b = [] := List.eq_nil_of_length_eq_zero (by omega)
    obtain rfl : c = [] := List.eq_nil_of_length_eq_zero (by omega)
    rw [diff, both]; rfl
  | succ n ih =>
    intro a b c hn ha hb hc na nb nc
    by_cases h0 : a.head?.toList.map (·.p) ++ (b.head?.toList.map (·.p) ++ c.head?.toList.map (·.p)) = []
    · simp only [List.append_eq_nil_iff, List.map_eq_nil_iff, Option.toList_eq_nil_iff, List.head?_eq_none_iff] at h0
      obtain ⟨rfl, rfl, rfl⟩ := h0
      rw [diff, both]; rfl
    · obtain ⟨k, hk, hmin⟩ := min_key lt hs _ h0
      have hka : ∀ x ∈ a.head?, lt x.p k = false := fun x hx => hmin _ (by simp only [List.mem_append, List.mem_map, Option.mem_toList]; exact .inl ⟨x, hx, rfl⟩)
      have hkb : ∀ x ∈ b.head?, lt x.p k = false := fun x hx => hmin _ (by simp only [List.mem_append, List.mem_map, Option.mem_toList]; exact .inr (.inl ⟨x, hx, rfl⟩))
      have hkc : ∀ x ∈ c.head?, lt x.p k = false := fun x hx => hmin _ (by simp only [List.mem_append, List.mem_map, Option.mem_toList]; exact .inr (.inr ⟨x, hx, rfl⟩))
      obtain ⟨pa, a', u, pA⟩ := peel_of lt z hs k a ha na hka
      obtain ⟨pb, b', v, pB⟩ := peel_of lt z hs k b hb nb hkb
      obtain ⟨pc, c', x, pC⟩ := peel_of lt z hs k c hc nc hkc
      have hlen : a'.length + b'.length + c'.length ≤ n := by
        have e1 := congrArg List.length pA.app
        have e2 := congrArg List.length pB.app
        have e3 := congrArg List.length pC.app
        simp only [List.length_append] at e1 e2 e3
        have hpos : 0 < pa.length + pb.length + pc.length := by
          rcases Nat.eq_zero_or_pos (pa.length + pb.length + pc.length) with h | h
          · exfalso
            obtain rfl : pa = [] := List.eq_nil_of_length_eq_zero (by omega)
            obtain rfl : pb = [] := List.eq_nil_of_length_eq_zero (by omega)
            obtain rfl : pc = [] := List.eq_nil_of_length_eq_zero (by omega)
            have qa : ∀ y ∈ a, lt k y.p = true := by rw [pA.app]; exact pA.gt
            have qb : ∀ y ∈ b, lt k y.p = true := by rw [pB.app]; exact pB.gt
            have qc : ∀ y ∈ c, lt k y.p = true := by rw [pC.app]; exact pC.gt
            simp only [List.mem_append, List.mem_map, Option.mem_toList] at hk
            rcases hk with ⟨y, hy, rfl⟩ | ⟨y, hy, rfl⟩ | ⟨y, hy, rfl⟩
            · have := qa y (List.mem_of_mem_head? hy); rw [hs.irr] at this; cases this
            · have := qb y (List.mem_of_mem_head? hy); rw [hs.irr] at this; cases this
            · have := qc y (List.mem_of_mem_head? hy); rw [hs.irr] at this; cases this
          · exact h
        omega
      rw [diff_peel lt z hs pA pB, diff_peel lt z hs pB pC, diff_peel lt z hs pA pC]
      exact comp_peel lt hs (diff_gt lt z k a' b' pA.gt pB.gt) (diff_gt lt z k b' c' pB.gt pC.gt) (ih a' b' c' hlen pA.asc pB.asc pC.asc pA.nz pB.nz pC.nz)
end
end Go.Adm

/- What can be reached from roots: plain Lean. -/
import Derived.Test.YtkcmaembpfakdaaGreatDoorGen2
set_option linter.unusedSimpArgs false
set_option linter.unusedVariables false
namespace Go.Adm
section
variable {D : Type} (z : D) (G : D → Option (List D)) (roots : List D)
/-- what can be reached -/
inductive Reach : D → Prop
  | root {d : D} : d ∈ roots → d ≠ z → Reach d
  | step {d e : D} {ls : List D} : Reach d → G d = some ls → e ∈ ls → e ≠ z → Reach e
/-- the state of a search with a stack: had S, present P, missing M, stack W -/
structure CloI (P M W S : List D) : Prop where
  mem : ∀ d, d ∈ S ↔ d = z ∨ d ∈ P ∨ d ∈ M
  pres : ∀ d ∈ P, Reach z G roots d ∧ (G d).isSome = true
  miss : ∀ d ∈ M, Reach z G roots d ∧ G d = none
  work : ∀ d ∈ W, d = z ∨ Reach z G roots d
  rts : ∀ d ∈ roots, d ∈ S ∨ d ∈ W
  lnk : ∀ d ∈ P, ∀ ls, G d = some ls → ∀ e ∈ ls, e ∈ S ∨ e ∈ W
  ndP : P.Nodup
  ndM : M.Nodup
variable {z G roots} {P M W S : List D} {d : D}
theorem CloI.start : CloI z G roots [] [] roots [z] where
  mem d := by simp
  pres d h := by cases h
  miss d h := by cases h
  work d h := by
    by_cases e : d = z
    · exact .inl e
    · exact .inr (.root h e)
  rts d h := .inr h
  lnk d h := by cases h
  ndP := List.nodup_nil
  ndM := List.nodup_nil
theorem CloI.skip (h : CloI z G roots P M (W ++ [d]) S) (hd : d ∈ S) : CloI z G roots P M W S where
  mem := h.mem
  pres := h.pres
  miss := h.miss
  work x hx := h.work x (by simp [hx])
  rts x hx := by
    rcases h.rts x hx with h1 | h1
    · exact .inl h1
    · rcases List.mem_append.1 h1 with h2 | h2
      · exact .inr h2
      · exact .inl (by rw [List.mem_singleton.1 h2]; exact hd)
  lnk x hx ls hl e he := by
    rcases h.lnk x hx ls hl e he with h1 | h1
    · exact .inl h1
    · rcases List.mem_append.1 h1 with h2 | h2
      · exact .inr h2
      · exact .inl (by rw [List.mem_singleton.1 h2]; exact hd)
  ndP := h.ndP
  ndM := h.ndM
theorem CloI.top (h : CloI z G roots P M (W ++ [d]) S) (hd : d ∉ S) : Reach z G roots d := by
  rcases h.work d (by simp) with e | e
  · exact absurd ((h.mem d).2 (.inl e)) hd
  · exact e
theorem CloI.gone (h : CloI z G roots P M (W ++ [d]) S) (hd : d ∉ S) (hg : G d = none) : CloI z G roots P (M ++ [d]) W (d :: S) where
  mem x := by
    rw [List.mem_cons, h.mem x, List.mem_append, List.mem_singleton]
    constructor
    · rintro (h1 | h1 | h1 | h1) <;> simp [h1]
    · rintro (h1 | h1 | h1 | h1) <;> simp [h1]
  pres := h.pres
  miss x hx := by
    rcases List.mem_append.1 hx with h1 | h1
    · exact h.miss x h1
    · rw [List.mem_singleton.1 h1]; exact ⟨h.top hd, hg⟩
  work x hx := h.work x (by simp [hx])
  rts x hx := by
    rcases h.rts x hx with h1 | h1
    · exact .inl (by simp [h1])
    · rcases List.mem_append.1 h1 with h2 | h2
      · exact .inr h2
      · exact .inl (by simp [List.mem_singleton.1 h2])
  lnk x hx ls hl e he := by
    rcases h.lnk x hx ls hl e he with h1 | h1
    · exact .inl (by simp [h1])
    · rcases List.mem_append.1 h1 with h2 | h2
      · exact .inr h2
      · exact .inl (by simp [List.mem_singleton.1 h2])
  ndP := h.ndP
  ndM := by
    refine List.nodup_append.2 ⟨h.ndM, by simp, fun a ha b hb e => ?_⟩
    rw [List.mem_singleton] at hb
    subst hb; subst e
    exact hd ((h.mem a).2 (.inr (.inr ha)))
theorem CloI.have {ls : List D} (h : CloI z G roots P M (W ++ [d]) S) (hd : d ∉ S) (hg : G d = some ls) : CloI z G roots (P ++ [d]) M (W ++ ls) (d :: S) where
  mem x := by
    rw [List.mem_cons, h.mem x, List.mem_append, List.mem_singleton]
    constructor
    · rintro (h1 | h1 | h1 | h1) <;> simp [h1]
    · rintro (h1 | (h1 | h1) | h1) <;> simp [h1]
  pres x hx := by
    rcases List.mem_append.1 hx with h1 | h1
    · exact h.pres x h1
    · rw [List.mem_singleton.1 h1]; exact ⟨h.top hd, by rw [hg]; rfl⟩
  miss := h.miss
  work x hx := by
    rcases List.mem_append.1 hx with h1 | h1
    · exact h.work x (by simp [h1])
    · by_cases e : x = z
      · exact .inl e
      · exact .inr (.step (h.top hd) hg h1 e)
  rts x hx := by
    rcases h.rts x hx with h1 | h1
    · exact .inl (by simp [h1])
    · rcases List.mem_append.1 h1 with h2 | h2
      · exact .inr (by simp [h2])
      · exact .inl (by simp [List.mem_singleton.1 h2])
  lnk x hx ls' hl e he := by
    rcases List.mem_append.1 hx with h1 | h1
    · rcases h.lnk x h1 ls' hl e he with h1 | h1
      · exact .inl (by simp [h1])
      · rcases List.mem_append.1 h1 with h2 | h2
        · exact .inr (by simp [h2])
        · exact .inl (by simp [List.mem_singleton.1 h2])
    · rw [List.mem_singleton.1 h1, hg] at hl
      obtain rfl := Option.some.inj hl
      exact .inr (by simp [he])
  ndP := by
    refine List.nodup_append.2 ⟨h.ndP, by simp, fun a ha b hb e => ?_⟩
    rw [List.mem_singleton] at hb
    subst hb; subst e
    exact hd ((h.mem a).2 (.inr (.inl ha)))
  ndM := h.ndM
variable (z G roots) in
/-- present and missing are just what can be reached -/
def CloOk (P M : List D) : Prop := (∀ d, d ∈ P ↔ Reach z G roots d ∧ (G d).isSome = true) ∧ ∀ d, d ∈ M ↔ Reach z G roots d ∧ G d = none
theorem reach_nz (h : Reach z G roots d) : d ≠ z := by cases h <;> assumption
theorem CloI.done (h : CloI z G roots P M [] S) : CloOk z G roots P M := by
  have hall : ∀ d, Reach z G roots d → d ∈ P ∨ d ∈ M := fun d hd => by
    have hs : d ∈ S := by
      induction hd with
      | root h1 _ => exact (h.rts _ h1).elim id (fun h => by cases h)
      | step hr hg he hz ih =>
        rename_i a e ls
        rcases (h.mem a).1 ih with h1 | h1 | h1
        · exact absurd h1 (reach_nz hr)
        · exact (h.lnk a h1 ls hg e he).elim id (fun h => by cases h)
        · rw [(h.miss a h1).2] at hg; cases hg
    rcases (h.mem d).1 hs with h1 | h1
    · exact absurd h1 (reach_nz hd)
    · exact h1
  refine ⟨fun d => ⟨h.pres d, fun ⟨h1, h2⟩ => ?_⟩, fun d => ⟨h.miss d, fun ⟨h1, h2⟩ => ?_⟩⟩
  · rcases hall d h1 with h3 | h3
    · exact h3
    · rw [(h.miss d h3).2] at h2; cases h2
  · rcases hall d h1 with h3 | h3
    · have := (h.pres d h3).2; rw [h2] at this; cases this
    · exact h3
theorem CloOk.perm {P' M' : List D} (h : CloOk z G roots P M) (hp : P'.Perm P) (hm : M'.Perm M) : CloOk z G roots P' M' :=
  ⟨fun d => by rw [hp.mem_iff]; exact h.1 d, fun d => by rw [hm.mem_iff]; exact h.2 d⟩
variable (z G roots) in
/-- the state of the reference's search -/
structure RefI (all : List D) (i : Nat) (P M : List D) : Prop where
  le : i ≤ all.length
  nd : all.Nodup
  rch : ∀ d ∈ all, Reach z G roots d
  rts : ∀ d ∈ roots, d = z ∨ d ∈ all
  lnk : ∀ d ∈ all.take i, ∀ ls, G d = some ls → ∀ e ∈ ls, e ∈ all
  pres : ∀ d, d ∈ P ↔ d ∈ all.take i ∧ (G d).isSome = true
  miss : ∀ d, d ∈ M ↔ d ∈ all.take i ∧ G d = none
theorem RefI.done {all : List D} (h : RefI z G roots all all.length P M) (hz : ∀ d ls, G d = some ls → ∀ e ∈ ls, e ≠ z) : CloOk z G roots P M := by
  have hall : ∀ d, d ∈ all ↔ Reach z G roots d := fun d => ⟨h.rch d, fun hd => by
    induction hd with
    | root h1 h2 => exact (h.rts _ h1).resolve_left h2
    | step hr hg he hz ih => exact h.lnk _ (by rw [List.take_length]; exact ih) _ hg _ he⟩
  refine ⟨fun d => ?_, fun d => ?_⟩
  · rw [h.pres, List.take_length, hall]
  · rw [h.miss, List.take_length, hall]
theorem take_snoc {all : List D} {i : Nat} (hi : i < all.length) (d : D) : d ∈ all.take (i + 1) ↔ d ∈ all.take i ∨ d = all[i] := by
  rw [List.take_succ_eq_append_getElem hi, List.mem_append, List.mem_singleton]
theorem RefI.gone {all : List D} {i : Nat} {M' : List D} (h : RefI z G roots all i P M) (hi : i < all.length) (hg : G all[i] = none) (hM : ∀ d, d ∈ M' ↔ d ∈ M ∨ d = all[i]) : RefI z G roots all (i + 1) P M' where
  le := hi
  nd := h.nd
  rch := h.rch
  rts := h.rts
  lnk d hd ls hl e he := by
    rcases (take_snoc hi d).1 hd with h1 | h1
    · exact h.lnk d h1 ls hl e he
    · rw [h1, hg] at hl; cases hl
  pres d := by
    rw [h.pres, take_snoc hi]
    constructor
    · rintro ⟨h1, h2⟩; exact ⟨.inl h1, h2⟩
    · rintro ⟨h1 | h1, h2⟩
      · exact ⟨h1, h2⟩
      · rw [h1, hg] at h2; cases h2
  miss d := by
    rw [hM, h.miss, take_snoc hi]
    constructor
    · rintro (⟨h1, h2⟩ | h1)
      · exact ⟨.inl h1, h2⟩
      · exact ⟨.inr h1, by rw [h1]; exact hg⟩
    · rintro ⟨h1 | h1, h2⟩
      · exact .inl ⟨h1, h2⟩
      · exact .inr h1
/-- the links of a content, one after the other -/
structure GrowI (z : D) (all : List D) (ls : List D) (k : Nat) (all' : List D) : Prop where
  pre : all <+: all'
  nd : all'.Nodup
  from' : ∀ d ∈ all', d ∈ all ∨ d ∈ ls.take k
  got : ∀ d ∈ ls.take k, d ∈ all'
  len : all'.length ≤ all.length + k
theorem GrowI.start {all ls : List D} (h : all.Nodup) : GrowI z all ls 0 all := ⟨List.prefix_refl _, h, fun d hd => .inl hd, fun d hd => by simp at hd, by omega⟩
theorem GrowI.had {all ls all' : List D} {k : Nat} (h : GrowI z all ls k all') (hk : k < ls.length) (hd : ls[k] ∈ all') : GrowI z all ls (k + 1) all' :=
  ⟨h.pre, h.nd, fun d hd => (h.from' d hd).imp_right (fun h1 => (take_snoc hk d).2 (.inl h1)), fun d hd2 => ((take_snoc hk d).1 hd2).elim (h.got d) (fun e => by rw [e]; exact hd), by have := h.len; omega⟩
theorem GrowI.new {all ls all' : List D} {k : Nat} (h : GrowI z all ls k all') (hk : k < ls.length) (hd : ls[k] ∉ all') : GrowI z all ls (k + 1) (all' ++ [ls[k]]) := by
  refine ⟨h.pre.trans (List.prefix_append _ _), ?_, fun d hd => ?_, fun d hd2 => ?_, by have := h.len; rw [List.length_append, List.length_singleton]; omega⟩
  · refine List.nodup_append.2 ⟨h.nd, by simp, fun a ha b hb e => ?_⟩
    rw [List.mem_singleton] at hb
    subst hb; subst e
    exact hd ha
  · rcases List.mem_append.1 hd with h1 | h1
    · exact (h.from' d h1).imp_right (fun h1 => (take_snoc hk d).2 (.inl h1))
    · exact .inr ((take_snoc hk d).2 (.inr (List.mem_singleton.1 h1)))
  · rcases (take_snoc hk d).1 hd2 with h1 | h1
    · exact List.mem_append.2 (.inl (h.got d h1))
    · exact List.mem_append.2 (.inr (by rw [h1]; simp))
theorem RefI.have {all all' ls : List D} {i : Nat} {P' : List D} (h : RefI z G roots all i P M) (hi : i < all.length) (hg : G all[i] = some ls) (hz : ∀ e ∈ ls, e ≠ z) (hP : ∀ d, d ∈ P' ↔ d ∈ P ∨ d = all[i]) (hgr : GrowI z all ls ls.length all') : RefI z G roots all' (i + 1) P' M := by
  obtain ⟨t, rfl⟩ := hgr.pre
  have ht : (all ++ t).take (i + 1) = all.take (i + 1) := List.take_append_of_le_length hi
  refine ⟨by rw [List.length_append]; omega, hgr.nd, fun d hd => ?_, fun d hd => ?_, fun d hd ls' hl e he => ?_, fun d => ?_, fun d => ?_⟩
  · rcases hgr.from' d hd with h1 | h1
    · exact h.rch d h1
    · rw [List.take_length] at h1
      exact .step (h.rch _ (List.getElem_mem hi)) hg h1 (hz d h1)
  · exact (h.rts d hd).imp_right (fun h1 => List.mem_append.2 (.inl h1))
  · rw [ht] at hd
    rcases (take_snoc hi d).1 hd with h1 | h1
    · exact List.mem_append.2 (.inl (h.lnk d h1 ls' hl e he))
    · rw [h1, hg] at hl
      obtain rfl := Option.some.inj hl
      exact hgr.got e (by rw [List.take_length]; exact he)
  · rw [ht, hP, h.pres, take_snoc hi]
    constructor
    · rintro (⟨h1, h2⟩ | h1)
      · exact ⟨.inl h1, h2⟩
      · exact ⟨.inr h1, by rw [h1, hg]; rfl⟩
    · rintro ⟨h1 | h1, h2⟩
      · exact .inl ⟨h1, h2⟩
      · exact .inr h1
  · rw [ht, h.miss, take_snoc hi]
    constructor
    · rintro ⟨h1, h2⟩; exact ⟨.inl h1, h2⟩
    · rintro ⟨h1 | h1, h2⟩
      · exact ⟨h1, h2⟩
      · rw [h1, hg] at h2; cases h2
theorem asc_same {lt : D → D → Bool} (irr : ∀ a, lt a a = false) (tr : ∀ a b c, lt a b = true → lt b c = true → lt a c = true) : ∀ {l m : List D}, l.Pairwise (fun x y => lt x y = true) → m.Pairwise (fun x y => lt x y = true) → (∀ x, x ∈ l ↔ x ∈ m) → l = m
  | [], [], _, _, _ => rfl
  | [], y :: m, _, _, h => by have := (h y).2 List.mem_cons_self; cases this
  | x :: l, [], _, _, h => by have := (h x).1 List.mem_cons_self; cases this
  | x :: l, y :: m, hl, hm, h => by
    obtain ⟨hx, hl'⟩ := List.pairwise_cons.1 hl
    obtain ⟨hy, hm'⟩ := List.pairwise_cons.1 hm
    have e : x = y := by
      rcases List.mem_cons.1 ((h x).1 List.mem_cons_self) with e | h1
      · exact e
      · rcases List.mem_cons.1 ((h y).2 List.mem_cons_self) with e | h2
        · exact e.symm
        · have := tr _ _ _ (hx y h2) (hy x h1)
          rw [irr] at this; cases this
    subst e
    congr 1
    refine asc_same irr tr hl' hm' (fun w => ⟨fun hw => ?_, fun hw => ?_⟩)
    · rcases List.mem_cons.1 ((h w).1 (List.mem_cons_of_mem _ hw)) with e | h1
      · have := hx w hw; rw [e, irr] at this; cases this
      · exact h1
    · rcases List.mem_cons.1 ((h w).2 (List.mem_cons_of_mem _ hw)) with e | h1
      · have := hy w hw; rw [e, irr] at this; cases this
      · exact h1
end
section
variable {D : Type} [DecidableEq D] {G : D → Option (List D)} {S : List D} {d : D}
/-- what is left to be read -/
def costS (G : D → Option (List D)) (S l : List D) : Nat := (l.map fun x => if x ∈ S then 0 else ((G x).getD []).length).sum
theorem costS_mono (d : D) : ∀ l : List D, costS G (d :: S) l ≤ costS G S l
  | [] => Nat.le_refl _
  | x :: l => by
    have ih := costS_mono d l
    unfold costS at ih ⊢
    simp only [List.map_cons, List.sum_cons]
    have h1 : (if x ∈ d :: S then 0 else ((G x).getD []).length) ≤ (if x ∈ S then 0 else ((G x).getD []).length) := by
      by_cases h : x ∈ S
      · rw [if_pos (List.mem_cons_of_mem _ h), if_pos h]; exact Nat.le_refl _
      · rw [if_neg h]
        split
        · exact Nat.zero_le _
        · exact Nat.le_refl _
    omega
theorem costS_put {ls : List D} (hd : d ∉ S) (hg : G d = some ls) : ∀ {l : List D}, d ∈ l → costS G (d :: S) l + ls.length ≤ costS G S l
  | [], h => by cases h
  | x :: l, h => by
    have hm := costS_mono (G := G) (S := S) d l
    by_cases hx : x = d
    · subst hx
      unfold costS at hm ⊢
      simp only [List.map_cons, List.sum_cons, List.mem_cons, true_or, if_true, if_neg hd, hg, Option.getD_some]
      simp only [List.mem_cons] at hm
      omega
    · have ih := costS_put hd hg ((List.mem_cons.1 h).resolve_left (fun e => hx e.symm))
      unfold costS at ih ⊢
      simp only [List.map_cons, List.sum_cons]
      have h1 : (if x ∈ d :: S then 0 else ((G x).getD []).length) ≤ (if x ∈ S then 0 else ((G x).getD []).length) := by
        by_cases h : x ∈ S
        · rw [if_pos (List.mem_cons_of_mem _ h), if_pos h]; exact Nat.le_refl _
        · rw [if_neg h]
          split
          · exact Nat.zero_le _
          · exact Nat.le_refl _
      omega
theorem costS_le (G : D → Option (List D)) (S : List D) (m : Nat) (hG : ∀ d ls, G d = some ls → ls.length ≤ m) : ∀ l : List D, costS G S l ≤ m * l.length
  | [] => by simp [costS]
  | x :: l => by
    have ih := costS_le G S m hG l
    unfold costS at ih ⊢
    simp only [List.map_cons, List.sum_cons, List.length_cons]
    have h1 : (if x ∈ S then 0 else ((G x).getD []).length) ≤ m := by
      split
      · exact Nat.zero_le _
      · cases hg : G x with
        | none => exact Nat.zero_le _
        | some ls => exact hG x ls hg
    rw [Nat.mul_succ]
    omega
theorem costS_congr {S' : List D} (h : ∀ d, d ∈ S ↔ d ∈ S') (l : List D) : costS G S l = costS G S' l := by
  unfold costS
  congr 1
  refine List.map_congr_left (fun x _ => ?_)
  by_cases hx : x ∈ S
  · rw [if_pos hx, if_pos ((h x).1 hx)]
  · rw [if_neg hx, if_neg (fun h2 => hx ((h x).2 h2))]
end
end Go.Adm

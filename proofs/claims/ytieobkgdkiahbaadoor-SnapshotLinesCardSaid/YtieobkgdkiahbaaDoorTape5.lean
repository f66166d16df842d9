/- Lists of entries in order: putting and dropping keep them so. -/
import Derived.Test.YtieobkgdkiahbaaDoorTape4
set_option linter.unusedSimpArgs false
set_option linter.unusedVariables false
namespace Go.Adm
open Go Go.RowKit
structure GoodL (l : List E) : Prop where
  asc : Asc blt l
  each : ∀ x ∈ l, E32 x
  path : ∀ x ∈ l, pathB x.p = true
  non : ∀ x ∈ l, x.d ≠ z32
theorem GoodL.nil : GoodL [] := ⟨List.Pairwise.nil, by simp, by simp, by simp⟩
theorem GoodL.sub {l l' : List E} (h : GoodL l) (hs : l'.Sublist l) : GoodL l' := ⟨h.asc.sublist hs, fun x hx => h.each x (hs.subset hx), fun x hx => h.path x (hs.subset hx), fun x hx => h.non x (hs.subset hx)⟩
theorem GoodL.erase {l : List E} (h : GoodL l) (i : Nat) : GoodL (l.eraseIdx i) := h.sub (List.eraseIdx_sublist l i)
theorem GoodL.put {l f : List E} {e : E} {j : Nat} (h : GoodL l) (hf : l.filter (otherB e) = f) (he : E32 e) (hp : pathB e.p = true) (hd : e.d ≠ z32) (hj : j ≤ f.length) (hbig : ∀ x ∈ f.drop j, blt e.p x.p = true)
    (hsm : j = 0 ∨ ∃ y, f[j - 1]? = some y ∧ blt e.p y.p = false) : GoodL (f.take j ++ e :: f.drop j) ∧ (f.take j ++ e :: f.drop j).length ≤ l.length + 1 := by
  have hF : GoodL f := h.sub (hf ▸ List.filter_sublist)
  have hne : ∀ x ∈ f, x.p ≠ e.p := fun x hx => by
    rw [← hf] at hx
    have h1 := (List.mem_filter.1 hx).2
    intro e1
    rw [otherB, e1] at h1
    simp at h1
  have hlow : ∀ x ∈ f.take j, blt x.p e.p = true := by
    rcases hsm with rfl | ⟨y, hy, hb⟩
    · simp
    · intro x hx
      obtain ⟨hlt, hy⟩ := List.getElem?_eq_some_iff.1 hy
      have hym : y ∈ f := hy ▸ List.getElem_mem hlt
      have hye : blt y.p e.p = true := by
        rcases sto_blt.tot _ _ (hne y hym) with h1 | h1
        · exact h1
        · rw [hb] at h1; cases h1
      rcases Nat.eq_zero_or_pos j with h0 | h0
      · subst h0; simp at hx
      · have h2 : f.take j = f.take (j - 1) ++ [y] := by
          obtain ⟨i, rfl⟩ : ∃ i, j = i + 1 := ⟨j - 1, by omega⟩
          simp only [Nat.add_sub_cancel] at hlt hy ⊢
          rw [List.take_succ_eq_append_getElem hlt, hy]
        have h3 : (f.take j).Pairwise fun x y => blt x.p y.p = true := hF.asc.sublist (List.take_sublist _ _)
        rw [h2] at h3 hx
        rcases List.mem_append.1 hx with hx | hx
        · exact sto_blt.tr _ _ _ ((List.pairwise_append.1 h3).2.2 x hx y (by simp)) hye
        · rw [List.mem_singleton.1 hx]; exact hye
  have hmem : ∀ x ∈ f.take j ++ e :: f.drop j, x = e ∨ x ∈ f := fun x hx => by
    rcases List.mem_append.1 hx with h | h
    · exact .inr (List.mem_of_mem_take h)
    · rcases List.mem_cons.1 h with h | h
      · exact .inl h
      · exact .inr (List.mem_of_mem_drop h)
  refine ⟨⟨?_, ?_, ?_, ?_⟩, ?_⟩
  · refine List.pairwise_append.2 ⟨hF.asc.sublist (List.take_sublist _ _), List.pairwise_cons.2 ⟨hbig, hF.asc.sublist (List.drop_sublist _ _)⟩, fun a ha b hb => ?_⟩
    rcases List.mem_cons.1 hb with rfl | hb
    · exact hlow a ha
    · exact sto_blt.tr _ _ _ (hlow a ha) (hbig b hb)
  · intro x hx
    rcases hmem x hx with rfl | h1
    · exact he
    · exact hF.each x h1
  · intro x hx
    rcases hmem x hx with rfl | h1
    · exact hp
    · exact hF.path x h1
  · intro x hx
    rcases hmem x hx with rfl | h1
    · exact hd
    · exact hF.non x h1
  · have h1 : f.length ≤ l.length := hf ▸ List.length_filter_le _ _
    rw [List.length_append, List.length_cons, List.length_take, List.length_drop]
    omega
theorem GoodL.valid {l : List E} (h : GoodL l) (hl : l.length ≤ 64) : validB l = true := by
  rw [validB_all, decide_eq_true hl]
  intro i hi
  rw [okAt_at _ _ _ _ hi]
  have hg : goodE l[i] = true := by
    simp only [goodE, h.path _ (List.getElem_mem hi), Bool.true_and, Bool.not_eq_true', decide_eq_false_iff_not]
    exact h.non _ (List.getElem_mem hi)
  rcases i with _ | i
  · exact okAt1_zero _ _ _ _ _ hg rfl
  · exact okAt1_succ _ _ _ _ i _ hg rfl (by omega) (List.pairwise_iff_getElem.1 h.asc i (i + 1) (by omega) hi (by omega))
end Go.Adm
namespace Go.Proofs.YtieobkgdkiahbaaDoor
open Go Go.RowKit Go.Adm

/-- a list in order, in memory, as the program holds it -/
theorem Put_good (w : World) (B : Nat) (A : Option Addr) (n c : Nat) (l : List E) (e : E) (h : GoodL l) (hl : Els w B 33 A n (l.map entC)) (he : E32 e) (hp : pathB e.p = true) (hd : e.d ≠ z32) (hn : l.length = n) (hn2 : n ≤ 1000) (hB : B ≤ w.heap.size) :
    Calls Tryd.prog 52 #[.slice A n c, .agg (entC e).toArray] w fun en w' => ∃ l', GoodL l' ∧ l'.length ≤ n + 1 ∧ OwnPost entC 33 l' 72 w en w' :=
  (Put_any w B A n c l _ e rfl hl h.each he hn hn2 hB).mono fun en w' ⟨j, hj, h1, h2, h3⟩ => by
    obtain ⟨g1, g2⟩ := h.put rfl he hp hd hj h1 h2
    exact ⟨_, g1, by omega, h3⟩
end Go.Proofs.YtieobkgdkiahbaaDoor

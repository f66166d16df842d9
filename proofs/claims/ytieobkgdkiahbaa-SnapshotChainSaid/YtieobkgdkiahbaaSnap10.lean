/- Plain facts: the differences of two lists in order. -/
import Derived.Test.YtieobkgdkiahbaaSnap9
set_option linter.unusedSimpArgs false
set_option linter.unusedVariables false
namespace Go.Adm
open Go Go.RowKit
theorem diff_32 (a b : List E) (ha : ∀ x ∈ a, E32 x) (hb : ∀ x ∈ b, E32 x) : ∀ c ∈ diff blt z32 a b, C32 c := by
  induction a, b using diff.induct (K := ByteArray) (D := List UInt8) blt with
  | case1 => rw [diff]; simp
  | case2 x a ih => rw [diff]; rw [List.forall_mem_cons] at ha; rw [List.forall_mem_cons]; exact ⟨⟨ha.1.1, rfl, ha.1.2⟩, ih ha.2 hb⟩
  | case3 y b ih => rw [diff]; rw [List.forall_mem_cons] at hb; rw [List.forall_mem_cons]; exact ⟨⟨rfl, hb.1.1, hb.1.2⟩, ih ha hb.2⟩
  | case4 x a y b h ih => rw [diff, if_pos h]; rw [List.forall_mem_cons] at ha; rw [List.forall_mem_cons]; exact ⟨⟨ha.1.1, rfl, ha.1.2⟩, ih ha.2 hb⟩
  | case5 x a y b h h' ih => rw [diff, if_neg h, if_pos h']; rw [List.forall_mem_cons] at hb; rw [List.forall_mem_cons]; exact ⟨⟨rfl, hb.1.1, hb.1.2⟩, ih ha hb.2⟩
  | case6 x a y b h h' e ih => rw [diff, if_neg h, if_neg h', if_pos e]; exact ih (fun x hx => ha x (by simp [hx])) (fun x hx => hb x (by simp [hx]))
  | case7 x a y b h h' e ih => rw [diff, if_neg h, if_neg h', if_neg e]; rw [List.forall_mem_cons]; exact ⟨⟨(ha x (by simp)).1, (hb y (by simp)).1, (ha x (by simp)).2⟩, ih (fun x hx => ha x (by simp [hx])) (fun x hx => hb x (by simp [hx]))⟩
theorem diff_changes {a b : List E} (ha : GoodL a) (hb : GoodL b) (la : a.length ≤ 64) (lb : b.length ≤ 64) : changesB (diff blt z32 a b) = true := by
  have hl := diff_len (lt := blt) (z := z32) a b
  rw [changesB_all, decide_eq_true (by omega)]
  have hasc : AscC blt (diff blt z32 a b) := diff_asc (lt := blt) (z := z32) sto_blt a b ha.asc hb.asc
  have heach := diff_each (lt := blt) (z := z32) (fun p => pathB p = true) a b (fun x hx => ⟨ha.path x hx, ha.non x hx⟩) (fun x hx => ⟨hb.path x hx, hb.non x hx⟩)
  generalize diff blt z32 a b = l at *
  intro i hi
  rw [okAt_at _ _ _ _ hi]
  have hg : goodC l[i] = true := by
    obtain ⟨h1, h2⟩ := heach _ (List.getElem_mem hi)
    simp only [goodC, h1, Bool.true_and, Bool.not_eq_true', decide_eq_false_iff_not]
    exact h2
  rcases i with _ | i
  · exact okAt1_zero _ _ _ _ _ hg rfl
  · exact okAt1_succ _ _ _ _ i _ hg rfl (by omega) (List.pairwise_iff_getElem.1 hasc i (i + 1) (by omega) hi (by omega))
theorem diff_appR {a b : List E} (ha : GoodL a) (hb : GoodL b) (lb : b.length ≤ 64) : appR a (diff blt z32 a b) = (b, 0) := by
  unfold appR
  rw [diff_apply (lt := blt) (z := z32) sto_blt a b ha.asc hb.asc ha.non hb.non]
  simp only
  rw [if_neg (by omega)]
theorem diff_invS {a b : List E} (ha : GoodL a) (hb : GoodL b) (la : a.length ≤ 64) (lb : b.length ≤ 64) : invS (diff blt z32 a b) = (diff blt z32 b a, 0) := by
  unfold invS
  rw [diff_changes ha hb la lb, if_pos rfl, diff_inv (lt := blt) (z := z32) sto_blt a b]
end Go.Adm

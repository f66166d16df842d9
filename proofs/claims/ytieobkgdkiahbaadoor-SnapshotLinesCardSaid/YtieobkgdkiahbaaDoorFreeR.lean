/- A store of a whole element into a row of the call's own. -/
import Derived.Test.YtieobkgdkiahbaaDoorFreeO
set_option linter.unusedSimpArgs false
set_option linter.unusedVariables false
namespace Go.Adm
open Go Go.RowKit
theorem take_mid {α : Type} (L vs : List α) (o m N : Nat) (hm : vs.length = m) (h1 : o + m ≤ N) (h2 : N ≤ L.length) : (L.take o ++ vs ++ L.drop (o + m)).take N = (L.take N).take o ++ vs ++ (L.take N).drop (o + m) := by
  have hl : (L.take o ++ vs).length = o + m := by rw [List.length_append, List.length_take, hm]; omega
  rw [List.take_append, List.take_of_length_le (by rw [hl]; omega), hl, List.drop_take, List.take_take, Nat.min_eq_left (by omega)]
theorem own_el_store {w : World} {base size g n c j : Nat} {e : TypeId} {xs vs : List Value} (h : Own w base e size (some ⟨g, 0, none⟩) n c xs) (hj : j < n) (hv : vs.length = size) :
    w.there g (j * size) size ∧ Own (w.setCells g (j * size) vs) base e size (some ⟨g, 0, none⟩) n c (xs.take (j * size) ++ vs ++ xs.drop (j * size + size)) := by
  obtain ⟨hlen, hr⟩ := h
  rcases hr with ⟨h1, _⟩ | ⟨g', cap, cur, hv', hg, hh, h1, h2, h3, h4⟩
  · injection h1 with h1
    cases h1
  · injection hv' with e1 e2 e3
    injection e1 with e1
    injection e1 with e1
    subst e1 e3
    have hC : Cells w g e cur.toList := by simpa [Cells] using hh
    have ho : j * size + size ≤ n * size := by rw [← Nat.succ_mul]; exact Nat.mul_le_mul_right _ hj
    have hn : n * size ≤ c * size := Nat.mul_le_mul_right _ h1
    have hcl : cur.toList.length = c * size := by simpa using h3
    refine ⟨fun i hi => ?_, ?_⟩
    · have := hC.there (j * size + i) (by omega)
      rwa [Nat.zero_add] at this
    · have hS := hC.storeN (vs := vs) (o := j * size) (by omega)
      rw [hv] at hS
      refine ⟨?_, .inr ⟨g, c, (cur.toList.take (j * size) ++ vs ++ cur.toList.drop (j * size + size)).toArray, rfl, hg, hS, h1, h2, ?_, ?_⟩⟩
      · simp only [List.length_append, List.length_take, List.length_drop, hlen, hv]
        omega
      · simp only [List.size_toArray, List.length_append, List.length_take, List.length_drop, hcl, hv]
        omega
      · show List.take (n * size) (cur.toList.take (j * size) ++ vs ++ cur.toList.drop (j * size + size)) = _
        rw [take_mid _ _ _ _ _ hv ho (by omega), h4]
theorem flat_set {α β : Type} {f : α → List β} {size : Nat} {l : List α} (h : ∀ x ∈ l, (f x).length = size) {j : Nat} (hj : j < l.length) (x : α) :
    (l.map f).flatten.take (j * size) ++ f x ++ (l.map f).flatten.drop (j * size + size) = ((l.set j x).map f).flatten := by
  have h' : ∀ e ∈ l.map f, e.length = size := fun e he => by obtain ⟨x, hx, rfl⟩ := List.mem_map.1 he; exact h x hx
  rw [← Nat.succ_mul, flat_take j h', flat_drop (j + 1) h', List.set_eq_take_append_cons_drop, if_pos hj]
  simp
/-- a store of a whole element into a row of the call's own -/
theorem wp_store_el {P : Program} {o : Oper} {a : Act} {w : World} {K : Act → World → Prop} {Q : Exit → Act → World → Prop} {α : Type} {f : α → List Value} {base size g n c j : Nat} {e ty : TypeId} {l : List α}
    (x y : Operand) (ho : o.op = .store ty x y) (hown : Own w base e size (some ⟨g, 0, none⟩) n c (l.map f).flatten) (hj : j < n) (hl : l.length = n) (hf : ∀ x ∈ l, (f x).length = size) (v : α) (hv : (f v).length = size)
    (hx : a.eval x = .pointer (some ⟨g, j * size, none⟩)) (hy : a.eval y = .agg (f v).toArray) (hi : (P.info? ty).map (·.size) = some size) (h1 : ∀ u ∈ f v, u.oneCell' = true)
    (h : ∀ w', Own w' base e size (some ⟨g, 0, none⟩) n c ((l.set j v).map f).flatten → w.grownBy w' (some g) → w'.heap.size = w.heap.size → K (a.put o.dst undef) w') : o.wp P a w K Q := by
  obtain ⟨ht, hS⟩ := own_el_store hown hj hv
  rw [flat_set hf (by omega)] at hS
  have hrun := run_storeVar_mid (P := P) w g (j * size) ty (f v).toArray (by rw [List.size_toArray, hv]; exact ht) (by rw [List.size_toArray, hv]; exact hi) (all_oneCell_toArray h1)
  have h2 := h _ hS only_setCells (size_setCells _ _ _ _)
  have hex : (execOp a.eval o).run P w = .ok .skip (w.setCells g (j * size) (f v)) := by
    unfold execOp
    simp only [ho, hx, hy, Instr.storeAt, Instr.sureAddr, Sem.run_bind, Sem.run_pure, Result.andThen_ok, hrun, List.toList_toArray]
  unfold Oper.wp
  rw [hex]
  exact h2
end Go.Adm

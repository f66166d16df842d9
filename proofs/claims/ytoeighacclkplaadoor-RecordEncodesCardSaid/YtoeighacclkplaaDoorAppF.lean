/- An append onto a row that is full leaves old memory alone. -/
import Derived.Test.YtoeighacclkplaaDoorGen2
import Derived.ArgAppend
set_option linter.unusedSimpArgs false
set_option linter.unusedVariables false
set_option maxRecDepth 100000
namespace Go.Adm
open Go Go.RowKit
theorem run_app_full {P : Program} (w : World) {t e : TypeId} {z : Value} {size bytes : Nat} (E : ElemOf P t e z size bytes) (base : Nat) (ty : TypeId) (ad : Addr) (n : Nat) (xs : List Value) (hown : Own w base e size (some ad) n n xs)
    (A : Option Addr) (m c : Nat) (news : List Value) (hr : Rd w w.heap.size size A m news) (hbytes : (n + m) * bytes ≤ 140737488355328) (hbase : base ≤ w.heap.size) :
    ∃ A' c' w', (Builtin.append_ #[t, t] ty #[.slice (some ad) n n, .slice A m c]).run P w = .ok (.slice A' (n + m) c') w' ∧ Own w' base e size A' (n + m) c' (xs ++ news) ∧ w.grownBy w' none := by
  obtain ⟨i, hi, hz, hsize, hby⟩ := E.hi
  rcases Nat.eq_zero_or_pos m with h0 | h0
  · subst h0
    have hn : news = [] := List.eq_nil_of_length_eq_zero (by simpa using hr.len)
    subst hn
    have hrun : (Builtin.append_ #[t, t] ty #[.slice (some ad) n n, .slice A 0 c]).run P w = .ok (.slice (some ad) n n) w := by
      cases A with
      | none => exact run_app_none w base t ty e i size E.ht hi _ n xs hown c
      | some b =>
        have hlc : ∀ W : World, (loadCells b 0).run P W = .ok #[] W := fun W => by simp [loadCells, loadCellsFrom]
        simp [Builtin.append_, run_underlying E.ht, sizeOf, typeInfo, hi, Builtin.lenOf, Builtin.firstCells, hlc, storeCells]
    exact ⟨_, _, w, hrun, by rw [List.append_nil]; exact hown, World.grownBy.refl _ _⟩
  · obtain ⟨b, rfl, _, hc⟩ := hr.at_ h0
    have hx := Own.rd hown
    have holds : ∀ j u, xs[j]? = some u → w.cell? (ad.add j) = some u := by
      intro j u hu
      have hl := hx.len
      have hn : 0 < n := by
        rcases Nat.eq_zero_or_pos n with h | h
        · rw [h, Nat.zero_mul] at hl
          rw [List.eq_nil_of_length_eq_zero hl] at hu
          simp at hu
        · exact h
      obtain ⟨ad', e', _, hc'⟩ := hx.at_ hn
      injection e' with e'
      subst e'
      exact hc' j u hu
    have hs0 : 0 < size := E.hs
    obtain ⟨v', w', hrun, h2, h3⟩ := run_append_arg_grows (P := P) w t ty e i z size bytes E.ht hi hz hsize hby E.hz hs0 ad n n xs hx.len holds b m c news hr.len hc (by omega) (by
      have := Nat.le_mul_of_pos_right (n + m) E.hb
      simp only [maxLen]; omega) hbytes
    have h2' : w'.ownsRow base e size v' (n + m) (xs ++ news) := Go.Joins.ownsRow_le h2 hbase
    obtain ⟨A', c', rfl⟩ := own_forms h2'
    exact ⟨A', c', w', hrun, h2', h3⟩
theorem wp_app_full {P : Program} {w : World} {o : Oper} {a : Act} {K : Act → World → Prop} {Q : Exit → Act → World → Prop} {t e : TypeId} {z : Value} {size bytes : Nat} (E : ElemOf P t e z size bytes) (s x : Operand)
    (ho : o.op = .call { callee := .builtin .append, args := #[s, x], argTypes := #[t, t] })
    (base : Nat) (ad : Addr) (n : Nat) (xs : List Value) (hs : a.eval s = .slice (some ad) n n) (hown : Own w base e size (some ad) n n xs)
    (A : Option Addr) (m c : Nat) (news : List Value) (hx : a.eval x = .slice A m c) (hr : Rd w w.heap.size size A m news) (hbytes : (n + m) * bytes ≤ 140737488355328) (hbase : base ≤ w.heap.size)
    (h : ∀ A' c' w', Own w' base e size A' (n + m) c' (xs ++ news) → w.grownBy w' none → K (a.put o.dst (.slice A' (n + m) c')) w') : o.wp P a w K Q := by
  obtain ⟨A', c', w', hrun, h2, h3⟩ := run_app_full w E base o.type ad n xs hown A m c news hr hbytes hbase
  unfold Oper.wp execOp
  simp only [ho, resolve, invoke, builtin, Sem.run_bind, Sem.run_pure, Result.andThen_ok, List.map_toArray, List.map_cons, List.map_nil, hs, hx, hrun]
  exact h _ _ _ h2 h3
end Go.Adm

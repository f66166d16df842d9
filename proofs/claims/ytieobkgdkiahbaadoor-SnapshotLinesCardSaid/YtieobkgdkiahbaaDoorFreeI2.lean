/- Operations of a round, one after the other: loads, literals, stores of several cells. -/
import Derived.Test.YtieobkgdkiahbaaDoorFreeI
set_option linter.unusedSimpArgs false
set_option linter.unusedVariables false
namespace Go.Adm
open Go Go.RowKit
section
variable {F : Fence} {nF : Nat} {P : Program} {ops : Array Oper} {rest : List Oper} {o : Oper} {a : Act} {w : World} {Q : Exit → Act → World → Prop}
theorem wpIn_neq {K : Act → World → Prop} {t t2 : TypeId} (hF : ∀ f, F.fn f) (x y : Operand) (ho : o.op = .binOp .neq t x y t2) (v : Value)
    (h : (binOp .neq t (a.eval x) (a.eval y)).run P w = .ok v w) (hg : (eqGuard .neq t x y (a.eval x) (a.eval y)).run P w = .ok () w) (hk : K (a.put o.dst v) w) : o.wpIn F nF P a w K Q :=
  wpIn_val hF (by rw [ho]; intro c hc; cases hc) (v := v) (w' := w) (by
    unfold execOp
    simp only [ho, Sem.run_bind, hg, h, Result.andThen_ok, Sem.run_pure]) hk
theorem wlIn_neq {t t2 : TypeId} (hF : ∀ f, F.fn f) (x y : Operand) (hgd : o.guard = none) (ho : o.op = .binOp .neq t x y t2) (v : Value)
    (h : (binOp .neq t (a.eval x) (a.eval y)).run P w = .ok v w) (hg : (eqGuard .neq t x y (a.eval x) (a.eval y)).run P w = .ok () w) (hk : wpListIn F nF P ops Q rest (a.put o.dst v) w) : wpListIn F nF P ops Q (o :: rest) a w :=
  wpListIn_plain hgd fun _ hK => wpIn_neq hF x y ho v h hg (hK _ _ hk)
theorem wlIn_load_any (hF : ∀ f, F.fn f) (hgd : o.guard = none) (ty : TypeId) (x : Operand) (ho : o.op = .load ty x)
    (ad : Addr) (hx : a.eval x = .pointer (some ad)) (cs : List Value) (d : TypeDesc) (hc : ∀ j u, cs[j]? = some u → w.cell? (ad.add j) = some u)
    (hu : P.underlying ty = some d) (hd : d.isRow = true) (hi : (P.info? ty).map (·.size) = some cs.length) (h : wpListIn F nF P ops Q rest (a.put o.dst (.agg cs.toArray)) w) : wpListIn F nF P ops Q (o :: rest) a w :=
  wpListIn_plain hgd fun _ hK => wpIn_load_any hF ty x ho ad hx cs d hc hu hd hi (hK _ _ h)
theorem wlIn_bld (hF : ∀ f, F.fn f) (hgd : o.guard = none) (t : TypeId) (parts : List (Nat × Operand)) (ho : o.op = .build t parts.toArray)
    (fields : Array Field) (z : Value) (places : Array (Nat × Nat)) (cells : Array Value)
    (hz : ∀ w, (zeroValue t).run P w = .ok z w) (hu : P.underlying t = some (.struct fields)) (hp : ∀ w, (placesOf fields).run P w = .ok places w)
    (hf : Instr.fill (places[·]?) z.cells (parts.map fun x => (x.1, a.eval x.2)) = some cells)
    (h : wpListIn F nF P ops Q rest (a.put o.dst (.agg cells)) w) : wpListIn F nF P ops Q (o :: rest) a w :=
  wpListIn_plain hgd fun _ hK => wpIn_bld hF t parts ho fields z places cells hz hu hp hf (hK _ _ h)
theorem wlIn_lit1 {t e : TypeId} {z : Value} {size bytes : Nat} (hF : ∀ f, F.fn f) (hgd : o.guard = none) (E : ElemOf P t e z size bytes) (x : Operand) (ho : o.op = .buildSlice t 1 #[(0, x)])
    (es : List Value) (hx : a.eval x = .agg es.toArray) (hl : es.length = size) (hs : size ≤ 1000000)
    (h : wpListIn F nF P ops Q rest (a.put o.dst (.slice (some ⟨w.heap.size, 0, none⟩) 1 1)) (w.alloc (.cells es.toArray e))) : wpListIn F nF P ops Q (o :: rest) a w :=
  wpListIn_plain hgd fun _ hK => wpIn_lit1 hF E x ho es hx hl hs (hK _ _ h)
/-- a whole array is stored into a block that is known whole -/
theorem wlIn_store_at {rs : List Res} (hF : ∀ f, F.fn f) (hR : All w rs) (i : Nat) (hgd : o.guard = none) (ty : TypeId) (x y : Operand) (ho : o.op = .store ty x y)
    (g : Nat) (t : TypeId) (cs : List Value) (vs : List Value) (hC : rs[i]? = some (.cells g t cs)) (hx : a.eval x = .pointer (some ⟨g, 0, none⟩)) (hy : a.eval y = .agg vs.toArray)
    (hl : vs.length = cs.length) (hi : (P.info? ty).map (·.size) = some vs.length) (h1 : ∀ v ∈ vs, v.oneCell' = true) (hap : Apart (some g) (rs.eraseIdx i))
    (h : ∀ w', All w' (rs.set i (.cells g t vs)) → KeepsOthers w w' → w'.heap.size = w.heap.size → wpListIn F nF P ops Q rest (a.put o.dst undef) w') : wpListIn F nF P ops Q (o :: rest) a w :=
  wpListIn_plain hgd fun _ hK => by
    have hc : Cells w g t cs := hR.at_ i hC
    have hht : w.there g 0 vs.toArray.size := by rw [List.size_toArray, hl]; exact hc.there
    have hrun := run_storeVar_mid (P := P) w g 0 ty vs.toArray hht (by rw [List.size_toArray]; exact hi) (all_oneCell_toArray h1)
    have h2 := h (w.setCells g 0 vs) (All.upd only_setCells i _ hR (hc.storeAll hl) hap) (.of_grownBy only_setCells fun j o' e ho' => by
      injection e with e
      subst e
      have h3 : w.heap[g]? = some (.cells cs.toArray t (0, 0)) := hc
      rw [h3] at ho'
      injection ho' with ho'
      rw [← ho']; rfl) (size_setCells _ _ _ _)
    refine ⟨fun f _ => hF f, ?_⟩
    rw [Oper.semAt_plain F _ _ (by rw [ho]; intro c hc'; cases hc')]
    have hex : (execOp a.eval o).run P w = .ok .skip (w.setCells g 0 vs) := by
      unfold execOp
      simp only [ho, hx, hy, Instr.storeAt, Instr.sureAddr, Sem.run_bind, Sem.run_pure, Result.andThen_ok, hrun, List.toList_toArray]
    rw [hex]
    exact hK _ _ h2
end
end Go.Adm

/- Literals of two wide elements; struct literals in drawn regions. -/
import Derived.Test.YtjdinakdkdjocaaGreatDoorGen2
set_option linter.unusedSimpArgs false
set_option linter.unusedVariables false
set_option maxRecDepth 100000
namespace Go.Adm
open Go Go.RowKit
theorem fill_two {size : Nat} {e1 e2 old : List Value} (h1 : e1.length = size) (h2 : e2.length = size) (ho : old.length = 2 * size) : Instr.fill (fun i => some (i * size, size)) old.toArray [(0, .agg e1.toArray), (1, .agg e2.toArray)] = some (e1 ++ e2).toArray := by
  refine (fill_step (off := 0 * size) (size := size) (es := e1) (pre := []) (old := old.take size) (post := old.drop size) rfl (by rw [List.nil_append, List.take_append_drop]) (by simp) (by rw [List.length_take]; omega) rfl h1).trans ?_
  refine (fill_step (off := 1 * size) (size := size) (es := e2) (pre := e1) (old := old.drop size) (post := []) rfl (by simp) (by omega) (by rw [List.length_drop]; omega) rfl h2).trans ?_
  simp [Instr.fill]
/-- a literal of two elements that take several cells -/
theorem wl_lit2 {P : Program} {ops : Array Oper} {rest : List Oper} {o : Oper} {a : Act} {w : World} {Q : Exit → Act → World → Prop} {t e : TypeId} {z : Value} {size bytes : Nat} (E : ElemOf P t e z size bytes) (hg : o.guard = none) (x y : Operand) (ho : o.op = .buildSlice t 2 #[(0, x), (1, y)])
    (e1 e2 : List Value) (hx : a.eval x = .agg e1.toArray) (hy : a.eval y = .agg e2.toArray) (hl1 : e1.length = size) (hl2 : e2.length = size) (hs : size ≤ 1000000)
    (h : wpList P ops Q rest (a.put o.dst (.slice (some ⟨w.heap.size, 0, none⟩) 2 2)) (w.alloc (.cells (e1 ++ e2).toArray e))) : wpList P ops Q (o :: rest) a w := by
  obtain ⟨i, hi, hz, hsize, _⟩ := E.hi
  have hpos := E.hs
  refine wpList_buildSlice hg t e 2 #[(0, x), (1, y)] ho (e1 ++ e2).toArray i z E.ht hi hz (by rw [hsize]; omega) (by rw [hsize]; omega) ?_ h
  have h1 : ((#[(0, x), (1, y)] : Array (Nat × Operand)).map fun (i, x) => (i, a.eval x)).toList = [(0, .agg e1.toArray), (1, .agg e2.toArray)] := by simp [hx, hy]
  rw [h1, hsize]
  have h2 : (Array.range (2 * size)).map (z.cells[· % z.cells.size]!) = ((Array.range (2 * size)).map (z.cells[· % z.cells.size]!)).toList.toArray := (Array.toArray_toList ..).symm
  rw [h2]
  exact fill_two hl1 hl2 (by simp)
theorem wp_build_at {P : Program} {o : Oper} {a : Act} {w : World} {K : Act → World → Prop} {Q : Exit → Act → World → Prop} (t : TypeId) (parts : List (Nat × Operand)) (ho : o.op = .build t parts.toArray)
    (fields : Array Field) (z : Value) (places : Array (Nat × Nat)) (cells : Array Value)
    (hz : ∀ w, (zeroValue t).run P w = .ok z w) (hu : P.underlying t = some (.struct fields)) (hp : ∀ w, (placesOf fields).run P w = .ok places w)
    (hf : Instr.fill (places[·]?) z.cells (parts.map fun x => (x.1, a.eval x.2)) = some cells)
    (h : K (a.put o.dst (.agg cells)) w) : o.wp P a w K Q := by
  have hf' : Instr.fill (places[·]?) z.cells ((parts.toArray.map fun (i, x) => (i, a.eval x)).toList) = some cells := by
    rw [Array.toList_map]; exact hf
  unfold Oper.wp execOp
  simp only [ho, Sem.run_bind, run_build_struct w t fields z places _ cells (hz w) hu (hp w) hf', Result.andThen_ok]
  exact h
/-- a fact of a drawn region that turns the tape -/
structure TF (gt : Nat) where
  ok : Value → World → Prop
  st : ∀ v w w', World.grownBy w w' (some gt) → ok v w → ok v w'
def TF.at {gt : Nat} (fs : List (TF gt)) (k : Nat) (v : Value) (w : World) : Prop := match fs[k]? with
  | some f => f.ok v w
  | none => True
theorem TF.keep {gt : Nat} (fs : List (TF gt)) (k : Nat) (v : Value) (w w' : World) (hg : World.grownBy w w' (some gt)) (h : TF.at fs k v w) : TF.at fs k v w' := by
  unfold TF.at at *
  cases hk : fs[k]? with
  | none => trivial
  | some f => rw [hk] at h; exact f.st v w w' hg h
def TF.eq {gt : Nat} (u : Value) : TF gt := ⟨fun v _ => v = u, fun _ _ _ _ h => h⟩
def TF.pure {gt : Nat} (p : Value → Prop) : TF gt := ⟨fun v _ => p v, fun _ _ _ _ h => h⟩
def TF.lit {gt : Nat} (t : TypeId) (n : Nat) (cs : List Value) : TF gt := ⟨fun v w => ∃ g, v = .slice (some ⟨g, 0, none⟩) n n ∧ g ≠ gt ∧ Cells w g t cs, fun _ _ _ hg ⟨g, h1, h2, h3⟩ => ⟨g, h1, h2, h3.grown hg (fun e => h2 (Option.some.inj e))⟩⟩
def TF.lits {gt : Nat} (t : TypeId) (n : Nat) (p : List Value → Prop) : TF gt := ⟨fun v w => ∃ g cs, v = .slice (some ⟨g, 0, none⟩) n n ∧ g ≠ gt ∧ p cs ∧ Cells w g t cs, fun _ _ _ hg ⟨g, cs, h1, h2, hp, h3⟩ => ⟨g, cs, h1, h2, hp, h3.grown hg (fun e => h2 (Option.some.inj e))⟩⟩
def TF.box {gt : Nat} (t : TypeId) (lo : Nat) (cs : List Value) : TF gt := ⟨fun v w => ∃ g, v = .pointer (some ⟨g, 0, none⟩) ∧ lo < g ∧ g ≠ gt ∧ Cells w g t cs, fun _ _ _ hg ⟨g, h1, h0, h2, h3⟩ => ⟨g, h1, h0, h2, h3.grown hg (fun e => h2 (Option.some.inj e))⟩⟩
end Go.Adm

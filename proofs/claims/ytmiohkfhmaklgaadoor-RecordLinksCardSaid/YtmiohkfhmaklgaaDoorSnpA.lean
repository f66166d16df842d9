/- The waking test of the laws on snapshots. Plain facts: the differences of two lists in order. Compose. -/
import Derived.Test.YtmiohkfhmaklgaaDoorTapA
import Derived.Test.YtmiohkfhmaklgaaDoorSnap8
set_option linter.unusedSimpArgs false
set_option linter.unusedVariables false
namespace Go.Adm
open Go Go.RowKit
theorem wp_bld {P : Program} {o : Oper} {a : Act} {w : World} {K : Act → World → Prop} {Q : Exit → Act → World → Prop} (t : TypeId) (parts : List (Nat × Operand)) (ho : o.op = .build t parts.toArray)
    (fields : Array Field) (z : Value) (places : Array (Nat × Nat)) (cells : Array Value)
    (hz : ∀ w, (zeroValue t).run P w = .ok z w) (hu : P.underlying t = some (.struct fields)) (hp : ∀ w, (placesOf fields).run P w = .ok places w)
    (hf : Instr.fill (places[·]?) z.cells (parts.map fun x => (x.1, a.eval x.2)) = some cells)
    (h : K (a.put o.dst (.agg cells)) w) : o.wp P a w K Q := by
  have hf' : Instr.fill (places[·]?) z.cells ((parts.toArray.map fun (i, x) => (i, a.eval x)).toList) = some cells := by
    rw [Array.toList_map]; exact hf
  unfold Oper.wp execOp
  simp only [ho, Sem.run_bind, run_build_struct w t fields z places _ cells (hz w) hu (hp w) hf', Result.andThen_ok]
  exact h
theorem wl_met {P : Program} {ops : Array Oper} {rest : List Oper} {o : Oper} {a : Act} {w : World} {Q : Exit → Act → World → Prop} (hw : Region.wanted o (yielded ops a.tmps) = true)
    (h : o.wp P a w (wpList P ops Q rest) Q) : wpList P ops Q (o :: rest) a w := by
  unfold wpList
  rw [if_pos hw]
  exact .inl h
def dOne : List UInt8 := 1 :: List.replicate 31 0
def cOne : C := ⟨⟨#[97]⟩, z32, dOne⟩
def eOne : E := ⟨⟨#[97]⟩, dOne⟩
theorem one_val0 : validB ([] : List E) = true := by decide +kernel
theorem one_chg : changesB [cOne] = true := by decide +kernel
theorem one_app : appR [] [cOne] = ([eOne], 0) := by kernel_rfl
theorem one_val : validB [eOne] = true := by decide +kernel
theorem one_eq : entEq eOne eOne = true := by decide +kernel
theorem one_32 : C32 cOne ∧ E32 eOne := ⟨⟨rfl, rfl, by decide⟩, ⟨rfl, by decide⟩⟩
end Go.Adm
namespace Go.Proofs.YtmiohkfhmaklgaaDoor
open Go Go.RowKit Go.Adm

end Go.Proofs.YtmiohkfhmaklgaaDoor
set_option linter.unusedSimpArgs false
set_option linter.unusedVariables false
namespace Go.Adm
open Go Go.RowKit
theorem diff_32 (a b : List E) (ha : ∀ x ∈ a, E32 x) (hb : ∀ x ∈ b, E32 x) : ∀ c ∈ diff blt z32 a b, C32 c := by
  induction a, b using diff.induct (K := ByteArray) (D := List UInt8) blt with
  | case1 => rw [diff]; simp
  | case2 x a ih => rw [diff]; rw [List.forall_mem_cons] at ha; rw [List.forall_mem_cons]; exact ⟨⟨ha.1.1, rfl, ha.1.2⟩, ih ha.2 hb⟩
  | case3 y b ih => rw [diff]; rw [List.forall_mem_cons] at hb; rw [List.forall_mem_cons]; exact ⟨⟨rfl, hb.1.1, hb.1.2⟩, ih ha hb.2⟩
  | case4 x a y b h ih => rw [diff, if_pos h]; rw [List.forall_mem_cons] at ha; rw [List.forall_mem_cons]; exact ⟨⟨ha.1.1, rfl, ha.1.2⟩, ih ha.2 hb⟩
  | case5 x a y b h h' ih => rw [diff, if_neg h, if_pos h']; rw [List.forall_mem_cons] at hb; rw [List.forall_mem_cons]; exact ⟨⟨rfl, hb.1.1, hb.1.2⟩, ih ha hb.2⟩
  | case6 x a y b h h' e ih => rw [diff, if_neg h, if_neg h', if_pos e]; exact ih (fun x hx => ha x (by simp [hx])) (fun x hx => hb x (by simp [hx]))
  | case7 x a y b h h' e ih => rw [diff, if_neg h, if_neg h', if_neg e]; rw [List.forall_mem_cons]; exact ⟨⟨(ha x (by simp)).1, (hb y (by simp)).1, (ha x (by simp)).2⟩, ih (fun x hx => ha x (by simp [hx])) (fun x hx => hb x (by simp [hx]))⟩
theorem diff_changes {a b : List E} (ha : GoodL a) (hb : GoodL b) (la : a.length ≤ 64) (lb : b.length ≤ 64) : changesB (diff blt z32 a b) = true := by
  have hl := diff_len (lt := blt) (z := z32) a b
  rw [changesB_all, decide_eq_true (by omega)]
  have hasc : AscC blt (diff blt z32 a b) := diff_asc (lt := blt) (z := z32) sto_blt a b ha.asc hb.asc
  have heach := diff_each (lt := blt) (z := z32) (fun p => pathB p = true) a b (fun x hx => ⟨ha.path x hx, ha.non x hx⟩) (fun x hx => ⟨hb.path x hx, hb.non x hx⟩)
  generalize diff blt z32 a b = l at *
  intro i hi
  rw [okAt_at _ _ _ _ hi]
  have hg : goodC l[i] = true := by
    obtain ⟨h1, h2⟩ := heach _ (List.getElem_mem hi)
    simp only [goodC, h1, Bool.true_and, Bool.not_eq_true', decide_eq_false_iff_not]
    exact h2
  rcases i with _ | i
  · exact okAt1_zero _ _ _ _ _ hg rfl
  · exact okAt1_succ _ _ _ _ i _ hg rfl (by omega) (List.pairwise_iff_getElem.1 hasc i (i + 1) (by omega) hi (by omega))
theorem diff_appR {a b : List E} (ha : GoodL a) (hb : GoodL b) (lb : b.length ≤ 64) : appR a (diff blt z32 a b) = (b, 0) := by
  unfold appR
  rw [diff_apply (lt := blt) (z := z32) sto_blt a b ha.asc hb.asc ha.non hb.non]
  simp only
  rw [if_neg (by omega)]
theorem diff_invS {a b : List E} (ha : GoodL a) (hb : GoodL b) (la : a.length ≤ 64) (lb : b.length ≤ 64) : invS (diff blt z32 a b) = (diff blt z32 b a, 0) := by
  unfold invS
  rw [diff_changes ha hb la lb, if_pos rfl, diff_inv (lt := blt) (z := z32) sto_blt a b]
end Go.Adm
set_option linter.unusedSimpArgs false
set_option linter.unusedVariables false
namespace Go.Adm
open Go Go.RowKit
def compR (a b : List C) : List C × Int := match runS compF (both blt a b) with
  | none => ([], 9)
  | some r => if 128 < r.length then ([], 3) else (r, 0)
end Go.Adm
namespace Go.Proofs.YtmiohkfhmaklgaaDoor
open Go Go.RowKit Go.Adm Go.Shelf
attribute [local go_sem] Oper.semAt_some

end Go.Proofs.YtmiohkfhmaklgaaDoor

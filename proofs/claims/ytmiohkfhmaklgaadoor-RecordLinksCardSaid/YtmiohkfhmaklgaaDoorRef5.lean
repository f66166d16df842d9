/- Invert, Diff, Apply and Compose of the reference. -/
import Derived.Test.YtmiohkfhmaklgaaDoorRef4
import Derived.Test.YtmiohkfhmaklgaaDoorSnap5
set_option linter.unusedSimpArgs false
set_option linter.unusedVariables false
set_option maxRecDepth 100000
namespace Go.Adm
open Go Go.RowKit
theorem wp_bld' {P : Program} {o : Oper} {a : Act} {w : World} {K : Act → World → Prop} {Q : Exit → Act → World → Prop} (t : TypeId) (parts : List (Nat × Operand)) (ho : o.op = .build t parts.toArray)
    (fields : Array Field) (z : Value) (places : Array (Nat × Nat)) (cells : Array Value)
    (hz : ∀ w, (zeroValue t).run P w = .ok z w) (hu : P.underlying t = some (.struct fields)) (hp : ∀ w, (placesOf fields).run P w = .ok places w)
    (hf : Instr.fill (places[·]?) z.cells (parts.map fun x => (x.1, a.eval x.2)) = some cells)
    (h : K (a.put o.dst (.agg cells)) w) : o.wp P a w K Q := by
  have hf' : Instr.fill (places[·]?) z.cells ((parts.toArray.map fun (i, x) => (i, a.eval x)).toList) = some cells := by
    rw [Array.toList_map]; exact hf
  unfold Oper.wp execOp
  simp only [ho, Sem.run_bind, run_build_struct w t fields z places _ cells (hz w) hu (hp w) hf', Result.andThen_ok]
  exact h
theorem own_le {w : World} {base n c size : Nat} {e : TypeId} {A : Option Addr} {xs : List Value} (h : Go.Adm.Own w base e size A n c xs) : n ≤ c := by
  rcases h.2 with ⟨h1, h2⟩ | ⟨g, cap, cur, hv, _, _, hle, _⟩
  · omega
  · injection hv with _ _ h3
    omega
theorem foldPut_snoc {α β K : Type} [DecidableEq K] {lt : K → K → Bool} (key : α → K) (g : β → Option α) (l : List β) (b : β) (o : List α) : foldPut lt key g (l ++ [b]) o = match g b with | none => foldPut lt key g l o | some e => putK lt key (foldPut lt key g l o) e := by
  unfold foldPut
  rw [List.foldl_append]
  rfl
theorem putK_len {α K : Type} [DecidableEq K] {lt : K → K → Bool} (key : α → K) (l : List α) (x : α) : (putK lt key l x).length = l.length + 1 := by
  unfold putK
  have := congrArg List.length (List.takeWhile_append_dropWhile (p := fun y => lt (key y) (key x)) (l := l))
  simp only [List.length_append] at this
  simp only [List.length_append, List.length_cons]
  omega
theorem lookZ_32 {l : List E} (h : ∀ e ∈ l, E32 e) (k : ByteArray) : (lookZ z32 l k).length = 32 := by
  unfold lookZ
  cases hl : lookR l k with
  | none => rfl
  | some d =>
    obtain ⟨x, hx, _, rfl⟩ := lookR_some hl
    exact (h x hx).1
theorem findR_32 {l : List C} (h : ∀ e ∈ l, C32 e) (k : ByteArray) : C32 ((findR l k).getD cZ) := by
  cases hl : findR l k with
  | none => exact ⟨rfl, rfl, by decide⟩
  | some d => exact h d (findR_some hl).1
def rDiff (a b : List E) : List C × Int := if validB a && validB b then (foldPut blt Chg.p (dB z32 a) b (foldPut blt Chg.p (dA z32 b) a []), 0) else ([], 1)
def rApp (s : List E) (l : List C) : List E × Int := if validB s && changesB l then (match refApp (lt := blt) z32 s l with | none => ([], 9) | some r => if 64 < r.length then ([], 3) else (r, 0)) else ([], 1)
def rComp (a b : List C) : List C × Int := if changesB a && changesB b then (match refComp (lt := blt) a b with | none => ([], 9) | some r => if 128 < r.length then ([], 3) else (r, 0)) else ([], 1)
end Go.Adm
namespace Go.Proofs.YtmiohkfhmaklgaaDoor
open Go Go.RowKit Go.Adm

end Go.Proofs.YtmiohkfhmaklgaaDoor

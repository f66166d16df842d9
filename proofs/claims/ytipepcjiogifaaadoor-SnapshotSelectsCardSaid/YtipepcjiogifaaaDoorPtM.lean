/- Matching: rows and columns, plain Lean; make of rows. -/
import Derived.Test.YtipepcjiogifaaaDoorPtF
import Derived.Laws.MakeOwn
set_option linter.unusedSimpArgs false
set_option linter.unusedVariables false
set_option maxRecDepth 100000
namespace Go.Adm
open Go Go.RowKit
section
variable {P : Program} {w : World} {rs : List Res}
/-- make, at the operation -/
theorem wl_mk {ops : Array Oper} {rest : List Oper} {o : Oper} {a : Act} {Q : Exit → Act → World → Prop} {t e : TypeId} {z : Value} {size bytes : Nat} (E : ElemOf P t e z size bytes) (hR : All w rs) (hgd : o.guard = none) (l c : Operand) (ho : o.op = .makeSlice t l c)
    (n m : Nat) (hl : a.eval l = .int .i64 n) (hc : a.eval c = .int .i64 m) (hnm : n ≤ m) (hb : bytes * m ≤ 281474976710656)
    (h : ∀ w', All w' (.cells w.heap.size e (madeCells z.cells (m * size)).toList :: rs) → w'.heap.size = w.heap.size + 1 → wpList P ops Q rest (a.put o.dst (.slice (some ⟨w.heap.size, 0, none⟩) n m)) w') : wpList P ops Q (o :: rest) a w := by
  obtain ⟨i, hi, hz, hsize, hby⟩ := E.hi
  have hm : m ≤ 281474976710656 := Nat.le_trans (Nat.le_mul_of_pos_left m E.hb) hb
  have hr := run_make (P := P) w t e i z E.ht hi hz .i64 .i64 n m (by omega) (by omega) (by rw [hby]; rw [← Int.natCast_mul]; omega) (by omega)
  rw [hsize, Int.toNat_natCast, Int.toNat_natCast] at hr
  refine wpList_plain hgd fun K hK' => ?_
  unfold Oper.wp
  simp only [execOp, ho, hl, hc, Sem.run_bind, hr, Result.andThen_ok, Sem.run_pure]
  exact hK' _ _ (h _ (hR.new _ e rfl rfl) (by simp))
theorem run_set1 (w : World) (ty : TypeId) (g : Nat) (t : TypeId) (cs : List Value) (j : Nat) (v : Value) (hC : Cells w g t cs) (hj : j < cs.length) (hi : (P.info? ty).map (·.size) = some 1) (h1 : v.oneCell' = true) :
    (storeVar ty ⟨g, j, none⟩ v).run P w = .ok () (w.setCell ⟨g, j, none⟩ v) := by
  have := run_storeCells_cells (P := P) g j [v] 0 w (fun i hi => by
      have : i = 0 := by simp at hi; omega
      subst this
      simp [hC.cell hj]) (fun i hi => by
      have : i = 0 := by simp at hi; omega
      subst this
      exact hC.frozen j) (fun x hx => by simp at hx; subst hx; exact h1)
  have hc : v.cells = #[v] := by cases v <;> first | rfl | cases h1
  cases hq : P.info? ty with
  | none => simp [hq] at hi
  | some i =>
    have hs : i.size = 1 := by simpa [hq] using hi
    simp only [Nat.add_zero] at this
    simp [storeVar, sizeOf, typeInfo, hq, hc, hs, this, World.setCells]
/-- one cell of a block that is known whole is stored -/
theorem wl_set1 {ops : Array Oper} {rest : List Oper} {o : Oper} {a : Act} {Q : Exit → Act → World → Prop} (hR : All w rs) (i : Nat) (hgd : o.guard = none) (ty : TypeId) (x y : Operand) (ho : o.op = .store ty x y)
    (g : Nat) (t : TypeId) (cs : List Value) (j : Nat) (v : Value) (hC : rs[i]? = some (.cells g t cs)) (hx : a.eval x = .pointer (some ⟨g, j, none⟩)) (hy : a.eval y = v) (hj : j < cs.length) (hi : (P.info? ty).map (·.size) = some 1) (h1 : v.oneCell' = true) (hap : Apart (some g) (rs.eraseIdx i))
    (h : ∀ w', All w' (rs.set i (.cells g t (cs.set j v))) → w'.heap.size = w.heap.size → wpList P ops Q rest (a.put o.dst undef) w') : wpList P ops Q (o :: rest) a w := by
  have hr := run_set1 (P := P) w ty g t cs j v (hR.at_ i hC) hj hi h1
  refine wpList_plain hgd fun _ hK => ?_
  unfold Oper.wp execOp
  simp only [ho, hx, hy, Instr.storeAt, Instr.sureAddr, Sem.run_bind, Sem.run_pure, Result.andThen_ok, hr]
  exact hK _ _ (h _ (hR.store i hC j v hap) (by simp [World.setCell]))
end
/-- the cells of a row of n bools -/
def bc (n : Nat) (f : Nat → Bool) : List Value := (List.range n).map fun i => Value.bool (f i)
theorem bc_len (n : Nat) (f : Nat → Bool) : (bc n f).length = n := by simp [bc]
theorem bc_at {n i : Nat} (f : Nat → Bool) (h : i < n) : (bc n f)[i]? = some (.bool (f i)) := by simp [bc, h]
theorem bc_congr {n : Nat} {f g : Nat → Bool} (h : ∀ i, i < n → f i = g i) : bc n f = bc n g := by
  unfold bc
  exact List.map_congr_left fun i hi => by rw [h i (List.mem_range.1 hi)]
theorem bc_set (n : Nat) (f : Nat → Bool) (j : Nat) (v : Bool) : (bc n f).set j (.bool v) = bc n (fun i => if i = j then v else f i) := by
  apply List.ext_getElem?
  intro i
  by_cases hi : i < n
  · rw [bc_at _ hi, List.getElem?_set]
    by_cases hij : j = i
    · subst hij; rw [if_pos rfl, if_pos (by rw [bc_len]; exact hi), if_pos rfl]
    · rw [if_neg hij, bc_at _ hi, if_neg (fun e => hij e.symm)]
  · rw [List.getElem?_eq_none (by rw [List.length_set, bc_len]; omega), List.getElem?_eq_none (by rw [bc_len]; omega)]
theorem bc_made (n : Nat) : (madeCells (Value.bool false).cells (n * 1)).toList = bc n (fun _ => false) := by
  apply List.ext_getElem?
  intro i
  rw [Array.getElem?_toList]
  by_cases hi : i < n
  · rw [bc_at _ hi]
    simp [madeCells, hi, Value.cells, Nat.mod_one]
  · rw [List.getElem?_eq_none (by rw [bc_len]; omega)]
    simp [madeCells]; omega
/-- one part's row from the row above -/
def rowN (L : List UInt8) (x : Pt) (f : Nat → Bool) : Nat → Bool
  | 0 => f 0 && repB x
  | i + 1 => if repB x then f (i + 1) || (rowN L x f i && fitB x (L.getD i 0)) else f i && fitB x (L.getD i 0)
def row0 : Nat → Bool := fun i => decide (i = 0)
def rowF (L : List UInt8) (xs : List Pt) : Nat → Bool := xs.foldl (fun f x => rowN L x f) row0
def matchB (L : List UInt8) (xs : List Pt) : Bool := rowF L xs L.length
def rowK (L : List UInt8) (xs : List Pt) (k : Nat) : Nat → Bool := rowF L (xs.take k)
theorem rowK_zero (L : List UInt8) (xs : List Pt) : rowK L xs 0 = row0 := by simp [rowK, rowF]
theorem rowK_succ (L : List UInt8) (xs : List Pt) {k : Nat} {x : Pt} (h : xs[k]? = some x) : rowK L xs (k + 1) = rowN L x (rowK L xs k) := by
  unfold rowK rowF
  rw [List.take_add_one, h, List.foldl_append]
  rfl
theorem rowK_all (L : List UInt8) (xs : List Pt) : rowK L xs xs.length = rowF L xs := by unfold rowK; rw [List.take_length]
def repAt (xs : List Pt) (k : Nat) : Bool := match xs[k]? with | some x => repB x | none => false
theorem repAt_some {xs : List Pt} {k : Nat} {x : Pt} (h : xs[k]? = some x) : repAt xs k = repB x := by unfold repAt; rw [h]
theorem repAt_none {xs : List Pt} {k : Nat} (h : xs.length ≤ k) : repAt xs k = false := by unfold repAt; rw [List.getElem?_eq_none h]
/-- the columns -/
def colE (L : List UInt8) (xs : List Pt) (i k : Nat) : Bool := if repAt xs k then rowK L xs (k + 1) i else rowK L xs k i
def fitAt (xs : List Pt) (k : Nat) (b : UInt8) : Bool := match xs[k]? with | some x => fitB x b | none => false
theorem fitAt_some {xs : List Pt} {k : Nat} {x : Pt} (b : UInt8) (h : xs[k]? = some x) : fitAt xs k b = fitB x b := by unfold fitAt; rw [h]
theorem col_zero (L : List UInt8) (xs : List Pt) : colE L xs 0 0 = true := by
  unfold colE
  split
  · next h =>
    unfold repAt at h
    split at h
    · next x hx =>
      rw [rowK_succ L xs hx, rowK_zero]
      simp [rowN, row0, h]
    · exact absurd h (by decide)
  · rw [rowK_zero]; rfl
theorem col_zero_succ (L : List UInt8) (xs : List Pt) {k : Nat} {x : Pt} (h : xs[k]? = some x) : colE L xs 0 (k + 1) = (colE L xs 0 k && repB x) := by
  have h1 : ∀ j, colE L xs 0 j = rowK L xs j 0 := by
    intro j
    unfold colE
    split
    · next hr =>
      unfold repAt at hr
      split at hr
      · next y hy => rw [rowK_succ L xs hy]; simp [rowN, hr]
      · exact absurd hr (by decide)
    · rfl
  rw [h1, h1, rowK_succ L xs h]; rfl
/-- what the first loop over the parts lays, after K parts -/
def preK (L : List UInt8) (xs : List Pt) (i : Nat) (b : UInt8) (K j : Nat) : Bool :=
  (decide (j < K) && (colE L xs i j && fitAt xs j b && repAt xs j)) || (decide (0 < j) && decide (j ≤ K) && (colE L xs i (j - 1) && fitAt xs (j - 1) b && !repAt xs (j - 1)))
theorem preK_zero (L : List UInt8) (xs : List Pt) (i : Nat) (b : UInt8) (j : Nat) : preK L xs i b 0 j = false := by
  unfold preK
  by_cases h : 0 < j
  · simp [h]; omega
  · simp [h]
theorem preK_skip {L : List UInt8} {xs : List Pt} {i : Nat} {b : UInt8} {K : Nat} (h : (colE L xs i K && fitAt xs K b) = false) (j : Nat) : preK L xs i b (K + 1) j = preK L xs i b K j := by
  unfold preK
  by_cases h1 : j = K
  · subst h1; simp [h]
  · by_cases h2 : j = K + 1
    · subst h2; simp [h]; intro hh; omega
    · have e1 : decide (j < K + 1) = decide (j < K) := decide_eq_decide.2 (by omega)
      have e2 : decide (j ≤ K + 1) = decide (j ≤ K) := decide_eq_decide.2 (by omega)
      rw [e1, e2]
theorem preK_long {L : List UInt8} {xs : List Pt} {i : Nat} {b : UInt8} {K : Nat} (h : (colE L xs i K && fitAt xs K b) = true) (hr : repAt xs K = true) (j : Nat) : preK L xs i b (K + 1) j = if j = K then true else preK L xs i b K j := by
  unfold preK
  by_cases h1 : j = K
  · subst h1; simp [h, hr]
  · rw [if_neg h1]
    by_cases h2 : j = K + 1
    · subst h2; simp [hr]; intro hh; omega
    · have e1 : decide (j < K + 1) = decide (j < K) := decide_eq_decide.2 (by omega)
      have e2 : decide (j ≤ K + 1) = decide (j ≤ K) := decide_eq_decide.2 (by omega)
      rw [e1, e2]
theorem preK_short {L : List UInt8} {xs : List Pt} {i : Nat} {b : UInt8} {K : Nat} (h : (colE L xs i K && fitAt xs K b) = true) (hr : repAt xs K = false) (j : Nat) : preK L xs i b (K + 1) j = if j = K + 1 then true else preK L xs i b K j := by
  unfold preK
  by_cases h2 : j = K + 1
  · subst h2; simp [h, hr]
  · rw [if_neg h2]
    by_cases h1 : j = K
    · subst h1; simp [hr]
    · have e1 : decide (j < K + 1) = decide (j < K) := decide_eq_decide.2 (by omega)
      have e2 : decide (j ≤ K + 1) = decide (j ≤ K) := decide_eq_decide.2 (by omega)
      rw [e1, e2]
/-- the closure of the column -/
def postK (L : List UInt8) (xs : List Pt) (i : Nat) (b : UInt8) (K j : Nat) : Bool := if j ≤ K then colE L xs (i + 1) j else preK L xs i b xs.length j
theorem col_step_row (L : List UInt8) (xs : List Pt) (i k : Nat) (b : UInt8) (hb : L.getD i 0 = b) (hk : k ≤ xs.length) :
    colE L xs (i + 1) k = ((colE L xs i k && fitAt xs k b && repAt xs k) || rowK L xs k (i + 1)) := by
  unfold colE
  cases hr : repAt xs k with
  | false => simp
  | true =>
    have hr0 := hr
    unfold repAt at hr
    split at hr
    · next x hx =>
      rw [if_pos rfl, if_pos rfl, rowK_succ L xs hx, fitAt_some b hx]
      show rowN L x (rowK L xs k) (i + 1) = _
      rw [rowN, if_pos hr, hb]
      cases rowK L xs k (i + 1) <;> cases rowN L x (rowK L xs k) i <;> cases fitB x b <;> rfl
    · exact absurd hr (by decide)
theorem postK_zero (L : List UInt8) (xs : List Pt) (i : Nat) (b : UInt8) (hb : L.getD i 0 = b) (j : Nat) (hj : j ≤ xs.length) : postK L xs i b 0 j = preK L xs i b xs.length j := by
  unfold postK
  by_cases h : j ≤ 0
  · obtain rfl : j = 0 := by omega
    rw [if_pos (Nat.le_refl _), col_step_row L xs i 0 b hb (Nat.zero_le _), rowK_zero]
    unfold preK
    cases hn : xs.length with
    | zero =>
      have : repAt xs 0 = false := repAt_none (by omega)
      simp [this, row0]
    | succ n => simp [row0]
  · rw [if_neg h]
theorem col_succ (L : List UInt8) (xs : List Pt) (i K : Nat) (b : UInt8) (hb : L.getD i 0 = b) {x : Pt} (hx : xs[K]? = some x) :
    colE L xs (i + 1) (K + 1) = (preK L xs i b xs.length (K + 1) || (colE L xs (i + 1) K && repB x)) := by
  obtain ⟨hK, _⟩ := List.getElem?_eq_some_iff.1 hx
  rw [col_step_row L xs i (K + 1) b hb (by omega), rowK_succ L xs hx, rowN]
  unfold preK
  rw [Nat.add_sub_cancel, repAt_some hx, fitAt_some b hx, hb]
  have hrep : repAt xs (K + 1) = (decide (K + 1 < xs.length) && repAt xs (K + 1)) := by
    by_cases h : K + 1 < xs.length
    · simp [h]
    · rw [repAt_none (by omega)]; simp
  have e1 : decide (K + 1 ≤ xs.length) = true := by simp; omega
  have e2 : decide (0 < K + 1) = true := by simp
  rw [e1, e2]
  cases hr : repB x with
  | true =>
    rw [if_pos rfl]
    have : colE L xs (i + 1) K = (rowK L xs K (i + 1) || (rowN L x (rowK L xs K) i && fitB x b)) := by
      unfold colE
      rw [repAt_some hx, hr, if_pos rfl, rowK_succ L xs hx, rowN, if_pos hr, hb]
    rw [this]
    by_cases h : K + 1 < xs.length
    · simp [h]
    · rw [repAt_none (by omega)]; simp [h]
  | false =>
    have : colE L xs i K = rowK L xs K i := by
      unfold colE
      rw [repAt_some hx, hr]; rfl
    rw [this]
    by_cases h : K + 1 < xs.length
    · simp [h]
    · rw [repAt_none (by omega)]; simp [h]
theorem postK_step {L : List UInt8} {xs : List Pt} {i K : Nat} {b : UInt8} (hb : L.getD i 0 = b) {x : Pt} (hx : xs[K]? = some x) (h : (postK L xs i b K K && repB x) = true) (j : Nat) : postK L xs i b (K + 1) j = if j = K + 1 then true else postK L xs i b K j := by
  unfold postK at h ⊢
  rw [if_pos (Nat.le_refl _)] at h
  by_cases hj : j = K + 1
  · subst hj
    rw [if_pos (Nat.le_refl _), if_pos rfl, col_succ L xs i K b hb hx, h]; simp
  · rw [if_neg hj]
    by_cases h1 : j ≤ K
    · rw [if_pos (by omega), if_pos h1]
    · rw [if_neg (by omega), if_neg h1]
theorem postK_skip {L : List UInt8} {xs : List Pt} {i K : Nat} {b : UInt8} (hb : L.getD i 0 = b) {x : Pt} (hx : xs[K]? = some x) (h : (postK L xs i b K K && repB x) = false) (j : Nat) : postK L xs i b (K + 1) j = postK L xs i b K j := by
  unfold postK at h ⊢
  rw [if_pos (Nat.le_refl _)] at h
  by_cases hj : j = K + 1
  · subst hj
    rw [if_pos (Nat.le_refl _), if_neg (by omega), col_succ L xs i K b hb hx, h]; simp
  · by_cases h1 : j ≤ K
    · rw [if_pos (by omega), if_pos h1]
    · rw [if_neg (by omega), if_neg h1]
theorem col_end (L : List UInt8) (xs : List Pt) : colE L xs L.length xs.length = matchB L xs := by
  unfold colE matchB
  rw [repAt_none (Nat.le_refl _), ← rowK_all]; rfl
end Go.Adm
namespace Go.Proofs.YtipepcjiogifaaaDoor
open Go Go.RowKit Go.Adm
end Go.Proofs.YtipepcjiogifaaaDoor

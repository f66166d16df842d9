/- A drawn region in a round that reads, and stores whole arrays into boxes, in whatever order. -/
import Derived.Test.YtipepcjiogifaaaDoorFreA
set_option linter.unusedSimpArgs false
set_option linter.unusedVariables false
namespace Go.Adm
open Go Go.RowKit
/-- what an operation leaves: a value, or an array in a box -/
inductive SF
  | eq (v : Value)
  | st (g : Nat) (t : TypeId) (vs : List Value)
def SF.ok : SF → Value → World → Prop
  | .eq v0, v, _ => v = v0
  | .st g t vs, v, w => v = undef ∧ Cells w g t vs
def SF.go : SF → World → World → Prop
  | .eq _, w, w' => w.grownBy w' none
  | .st g t vs, w, w' => w.grownBy w' (some g) ∧ KeepsOthers w w' ∧ Cells w' g t vs
def SF.box : SF → Option Nat
  | .eq _ => none
  | .st g _ _ => some g
def SF.fits (bs : List (Nat × TypeId × Nat)) : SF → Prop
  | .eq _ => True
  | .st g t vs => ∀ b ∈ bs, b.1 = g → b.2.1 = t ∧ b.2.2 = vs.length
def Boxes (bs : List (Nat × TypeId × Nat)) (w : World) : Prop := ∀ b ∈ bs, ∃ cs : List Value, cs.length = b.2.2 ∧ Cells w b.1 b.2.1 cs
theorem SF.keep {f f' : SF} {v : Value} {w w' : World} (hne : ∀ g, f.box = some g → f'.box ≠ some g) (hg : f'.go w w') (h : f.ok v w) : f.ok v w' := by
  cases f with
  | eq v0 => exact h
  | st g t vs =>
    refine ⟨h.1, ?_⟩
    have hc : Cells w g t vs := h.2
    cases f' with
    | eq v1 => exact hc.grown (row := none) hg (by simp)
    | st g' t' vs' => exact hc.grown hg.1 (fun e => hne g rfl e.symm)
theorem wpIn_region_st {F : Fence} {nF : Nat} {P : Program} {id : Nat} {Q : Exit → Act → World → Prop} {a0 : Act} {w0 : World} {l : List Oper} (D : List Nat) (rs : List Res) (J : World → Prop) (bs : List (Nat × TypeId × Nat)) (fs : List SF)
    (hF : ∀ f, F.fn f) (hm : P.follows .mixedOrders = true) (hB : (backB l l.length && dstA D l && decide (D.Nodup)) = true) (hsz : a0.tmps.size ≤ 1000)
    (hJ : ∀ w w' : World, KeepsOthers w w' → w.heap.size ≤ w'.heap.size → J w → J w') (hR : All w0 rs ∧ J w0 ∧ Boxes bs w0) (hDs : D.all (fun t => decide (t < a0.tmps.size) || decide (1000 ≤ t)) = true)
    (hap : ∀ f ∈ fs, ∀ g, f.box = some g → Apart (some g) rs) (hft : ∀ f ∈ fs, f.fits bs) (hnd : ∀ (j k : Nat) (g : Nat), j ≠ k → (fs.getD j (.eq undef)).box = some g → (fs.getD k (.eq undef)).box ≠ some g)
    (hop : HopsA F nF P Q D a0 (fun W => All W rs ∧ J W ∧ Boxes bs W) (fun k => (fs.getD k (.eq undef)).ok) (fun k => (fs.getD k (.eq undef)).go) 0 l)
    (hfin : ∀ (vs : Nat → Value) (w : World), All w rs ∧ J w ∧ Boxes bs w → (∀ k, k < l.length → (fs.getD k (.eq undef)).ok (vs k) w) → Q .normal (putAll vs D 0 a0) w) : (Code.region id l.toArray true).wpIn F nF P Q a0 w0 := by
  have hmem : ∀ k g, (fs.getD k (.eq undef)).box = some g → fs.getD k (.eq undef) ∈ fs := fun k g h => by
    cases hk : fs[k]? with
    | none => simp [List.getD, hk, SF.box] at h
    | some f => simp only [List.getD, hk, Option.getD_some]; exact List.mem_of_getElem? hk
  have hst : ∀ (f : SF) (w w' : World), (∀ g, f.box = some g → f ∈ fs) → f.go w w' → (All w rs ∧ J w ∧ Boxes bs w) → (All w' rs ∧ J w' ∧ Boxes bs w') := fun f w w' hf hg ⟨h1, h2, h3⟩ => by
    cases f with
    | eq v => exact ⟨h1.quiet hg, hJ _ _ (.of_grownBy hg fun j o e => by cases e) hg.size h2, fun b hb => by obtain ⟨cs, hl, hc⟩ := h3 b hb; exact ⟨cs, hl, hc.grown (row := none) hg (by simp)⟩⟩
    | st g t vs =>
      refine ⟨h1.step hg.1 (hap _ (hf g rfl) g rfl), hJ _ _ hg.2.1 hg.1.size h2, fun b hb => ?_⟩
      obtain ⟨cs, hl, hc⟩ := h3 b hb
      by_cases e : b.1 = g
      · obtain ⟨e1, e2⟩ := hft _ (hf g rfl) b hb e
        exact ⟨vs, e2.symm, by rw [e, e1]; exact hg.2.2⟩
      · exact ⟨cs, hl, hc.grown hg.1 (fun e' => e (Option.some.inj e'))⟩
  refine wpIn_region_allA D (fun W => All W rs ∧ J W ∧ Boxes bs W) (fun k => (fs.getD k (.eq undef)).ok) (fun k => (fs.getD k (.eq undef)).go) hF hm hB hsz (fun k w w' hg h => hst _ _ _ (hmem k) hg h) (fun j k v w w' hjk hg h => SF.keep (fun g hb => hnd j k g hjk hb) hg h) ?_ hDs hop hfin
  exact hst (.eq undef) w0 w0.drew (fun g h => by cases h) (grown_drew w0) hR
def mkSF (eqs : List Value) (sts : List (Nat × TypeId × List Value)) : List SF := eqs.map .eq ++ sts.map fun s => .st s.1 s.2.1 s.2.2
theorem mkSF_box {eqs : List Value} {sts : List (Nat × TypeId × List Value)} {k g : Nat} (h : ((mkSF eqs sts).getD k (.eq undef)).box = some g) : ∃ i s, k = eqs.length + i ∧ sts[i]? = some s ∧ s.1 = g := by
  unfold mkSF at h
  rw [List.getD_eq_getElem?_getD] at h
  by_cases hk : k < eqs.length
  · rw [List.getElem?_append_left (by rw [List.length_map]; exact hk), List.getElem?_map, List.getElem?_eq_getElem hk] at h
    cases h
  · rw [List.getElem?_append_right (by rw [List.length_map]; omega), List.length_map, List.getElem?_map] at h
    cases hs : sts[k - eqs.length]? with
    | none => rw [hs] at h; cases h
    | some s =>
      rw [hs] at h
      injection h with h
      exact ⟨k - eqs.length, s, by omega, hs, h⟩
theorem wpIn_region_est {F : Fence} {nF : Nat} {P : Program} {id : Nat} {Q : Exit → Act → World → Prop} {a0 : Act} {w0 : World} {l : List Oper} (D : List Nat) (rs : List Res) (J : World → Prop) (eqs : List Value) (sts : List (Nat × TypeId × List Value))
    (hF : ∀ f, F.fn f) (hm : P.follows .mixedOrders = true) (hB : (backB l l.length && dstA D l && decide (D.Nodup)) = true) (hsz : a0.tmps.size ≤ 1000)
    (hJ : ∀ w w' : World, KeepsOthers w w' → w.heap.size ≤ w'.heap.size → J w → J w') (hR : All w0 rs ∧ J w0 ∧ Boxes (sts.map fun s => (s.1, s.2.1, s.2.2.length)) w0) (hDs : D.all (fun t => decide (t < a0.tmps.size) || decide (1000 ≤ t)) = true)
    (hap : ∀ s ∈ sts, Apart (some s.1) rs) (hnd : (sts.map (·.1)).Nodup)
    (hop : HopsA F nF P Q D a0 (fun W => All W rs ∧ J W ∧ Boxes (sts.map fun s => (s.1, s.2.1, s.2.2.length)) W) (fun k => ((mkSF eqs sts).getD k (.eq undef)).ok) (fun k => ((mkSF eqs sts).getD k (.eq undef)).go) 0 l)
    (hfin : ∀ (vs : Nat → Value) (w : World), All w rs ∧ J w ∧ Boxes (sts.map fun s => (s.1, s.2.1, s.2.2.length)) w → (∀ k, k < l.length → ((mkSF eqs sts).getD k (.eq undef)).ok (vs k) w) → Q .normal (putAll vs D 0 a0) w) : (Code.region id l.toArray true).wpIn F nF P Q a0 w0 := by
  have hinj : ∀ (i j : Nat) (s s' : Nat × TypeId × List Value), sts[i]? = some s → sts[j]? = some s' → s.1 = s'.1 → i = j := fun i j s s' hi hj e => by
    have h1 : (sts.map (·.1))[i]? = some s.1 := by rw [List.getElem?_map, hi]; rfl
    have h2 : (sts.map (·.1))[j]? = some s'.1 := by rw [List.getElem?_map, hj]; rfl
    rw [e] at h1
    exact nodup_at hnd h1 h2
  refine wpIn_region_st D rs J _ (mkSF eqs sts) hF hm hB hsz hJ hR hDs (fun f hf g hg => ?_) (fun f hf => ?_) (fun j k g hjk h1 h2 => ?_) hop hfin
  · unfold mkSF at hf
    rcases List.mem_append.1 hf with h | h
    · obtain ⟨v, _, rfl⟩ := List.mem_map.1 h; cases hg
    · obtain ⟨s, hs, rfl⟩ := List.mem_map.1 h
      injection hg with hg
      rw [← hg]
      exact hap s hs
  · unfold mkSF at hf
    rcases List.mem_append.1 hf with h | h
    · obtain ⟨v, _, rfl⟩ := List.mem_map.1 h; trivial
    · obtain ⟨s, hs, rfl⟩ := List.mem_map.1 h
      intro b hb e
      obtain ⟨s', hs', rfl⟩ := List.mem_map.1 hb
      obtain ⟨i, hi⟩ := List.mem_iff_getElem?.1 hs
      obtain ⟨j, hj⟩ := List.mem_iff_getElem?.1 hs'
      have := hinj i j s s' hi hj e.symm
      subst this
      rw [hi] at hj
      obtain rfl := Option.some.inj hj
      exact ⟨rfl, rfl⟩
  · obtain ⟨i, s, e1, hi, e2⟩ := mkSF_box h1
    obtain ⟨i', s', e3, hi', e4⟩ := mkSF_box h2
    have := hinj i i' s s' hi hi' (e2.trans e4.symm)
    omega
theorem wpIn_store_all {F : Fence} {nF : Nat} {P : Program} {o : Oper} {a : Act} {w : World} {K : Act → World → Prop} {Q : Exit → Act → World → Prop} (hF : ∀ f, F.fn f) (ty : TypeId) (x y : Operand) (ho : o.op = .store ty x y)
    (g : Nat) (t : TypeId) (cs : List Value) (vs : List Value) (hc : Cells w g t cs) (hx : a.eval x = .pointer (some ⟨g, 0, none⟩)) (hy : a.eval y = .agg vs.toArray)
    (hl : vs.length = cs.length) (hi : (P.info? ty).map (·.size) = some vs.length) (h1 : ∀ v ∈ vs, v.oneCell' = true)
    (h : ∀ w', SF.go (.st g t vs) w w' → Cells w' g t vs → K (a.put o.dst undef) w') : o.wpIn F nF P a w K Q := by
  have hht : w.there g 0 vs.toArray.size := by rw [List.size_toArray, hl]; exact hc.there
  have hrun := run_storeVar_mid (P := P) w g 0 ty vs.toArray hht (by rw [List.size_toArray]; exact hi) (all_oneCell_toArray h1)
  have hc2 : Cells (w.setCells g 0 vs) g t vs := hc.storeAll hl
  have hko : KeepsOthers w (w.setCells g 0 vs) := .of_grownBy only_setCells fun j o' e ho' => by
    injection e with e
    subst e
    have h3 : w.heap[g]? = some (.cells cs.toArray t (0, 0)) := hc
    rw [h3] at ho'
    injection ho' with ho'
    rw [← ho']; rfl
  have h2 := h (w.setCells g 0 vs) ⟨only_setCells, hko, hc2⟩ hc2
  refine ⟨fun f _ => hF f, ?_⟩
  rw [Oper.semAt_plain F _ _ (by rw [ho]; intro c hc'; cases hc')]
  have hex : (execOp a.eval o).run P w = .ok .skip (w.setCells g 0 vs) := by
    unfold execOp
    simp only [ho, hx, hy, Instr.storeAt, Instr.sureAddr, Sem.run_bind, Sem.run_pure, Result.andThen_ok, hrun, List.toList_toArray]
  rw [hex]
  exact h2
end Go.Adm

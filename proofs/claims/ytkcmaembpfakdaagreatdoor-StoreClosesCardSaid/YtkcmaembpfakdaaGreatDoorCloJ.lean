/- A drawn region that writes: each operation met once, told which came before, what these left, and which did not come yet. -/
import Derived.Test.YtkcmaembpfakdaaGreatDoorGen2
set_option linter.unusedSimpArgs false
set_option linter.unusedVariables false
namespace Go.Adm
open Go Go.RowKit
def dstA (D : List Nat) (l : List Oper) : Bool := decide (l.map (·.dst) = D.map fun t => if t < 1000 then some t else none)
def mark (L : Nat → Bool) (k : Nat) : Nat → Bool := fun i => if i = k then true else L i
section
variable (P : Program) (Q : Exit → Act → World → Prop) (D : List Nat) (a0 : Act) (ops : List Oper) (J : (Nat → Bool) → (Nat → Value) → World → Prop)
/-- one operation: L tells which have been, vs what they left -/
def HopL (k : Nat) (o : Oper) : Prop :=
  o.guard = none ∧ ∀ (a : Act) (w : World) (L : Nat → Bool) (vs : Nat → Value), J L vs w → L k = false → (∀ j o', ops[j]? = some o' → L j = true → ∀ e ∈ o'.after.toList, Region.binds .any e = true → L e.on = true) →
    (∀ t, D.contains t = false → a.tmps[t]?.getD undef = a0.tmps[t]?.getD undef) →
    (∀ e ∈ o.after.toList, Region.binds .any e = true → L e.on = true ∧ a.tmps[D.getD e.on 0]?.getD undef = vs e.on) →
    ∀ K : Act → World → Prop, (∀ v w', (o.dst = none → v = undef) → J (mark L k) (fun i => if i = k then v else vs i) w' → K (a.put o.dst v) w') → o.wp P a w K Q
def HopsL : Nat → List Oper → Prop
  | _, [] => True
  | k, o :: os => HopL P Q D a0 ops J k o ∧ HopsL (k + 1) os
theorem HopsL.at_ : ∀ {os : List Oper} {k i : Nat} {o : Oper}, HopsL P Q D a0 ops J k os → os[i]? = some o → HopL P Q D a0 ops J (k + i) o
  | [], _, i, _, _, hi => by simp at hi
  | x :: os, k, 0, o, h, hi => by
    obtain rfl : x = o := by simpa using hi
    exact h.1
  | x :: os, k, i + 1, o, h, hi => by
    have := HopsL.at_ (k := k + 1) (i := i) h.2 (by simpa using hi)
    rwa [show k + 1 + i = k + (i + 1) from by omega] at this
end
theorem wp_region_came {P : Program} {id : Nat} {Q : Exit → Act → World → Prop} {a0 : Act} {w0 : World} {l : List Oper} (D : List Nat) (J : (Nat → Bool) → (Nat → Value) → World → Prop)
    (hm : P.follows .mixedOrders = true) (hB : (backB l l.length && dstA D l && decide (D.Nodup)) = true) (hsz : a0.tmps.size ≤ 1000)
    (hI0 : J (fun _ => false) (fun _ => undef) w0.drew) (hDs : D.all (fun t => decide (t < a0.tmps.size) || decide (1000 ≤ t)) = true)
    (hop : HopsL P Q D a0 l J 0 l)
    (hfin : ∀ (vs : Nat → Value) (w : World) (L : Nat → Bool), J L vs w → (∀ k, k < l.length → L k = true) → Q .normal (putAll vs D 0 a0) w) : (Code.region id l.toArray true).wp P Q a0 w0 := by
  simp only [Bool.and_eq_true, decide_eq_true_eq] at hB
  obtain ⟨⟨hback, hdst⟩, hD⟩ := hB
  have hdst' : l.map (·.dst) = D.map fun t => if t < 1000 then some t else none := by simpa [dstA] using hdst
  have hDl : D.length = l.length := by have := congrArg List.length hdst'; simp at this; omega
  have hdsti : ∀ (i : Nat) (o : Oper), l[i]? = some o → ∃ t, D[i]? = some t ∧ o.dst = if t < 1000 then some t else none := fun i o ho => by
    have h1 := congrArg (fun x : List (Option Tmp) => x[i]?) hdst'
    simp only [List.getElem?_map, ho, Option.map_some] at h1
    have hlt : i < D.length := by rw [hDl]; exact (List.getElem?_eq_some_iff.1 ho).1
    rw [List.getElem?_eq_getElem hlt] at h1 ⊢
    exact ⟨_, rfl, by simpa using h1⟩
  have hbacki : ∀ (i : Nat) (o : Oper), l[i]? = some o → ∀ e ∈ o.after, Region.binds .any e = true → e.on < i := fun i o ho e he hb => by
    have hi := (List.getElem?_eq_some_iff.1 ho).1
    have h1 := List.all_eq_true.1 hback (o, i) (by
      rw [List.mem_iff_getElem?]
      refine ⟨i, ?_⟩
      rw [List.getElem?_zipIdx, List.getElem?_take, if_pos hi, ho]
      simp)
    simp only [Bool.and_eq_true] at h1
    have h2 := Array.all_eq_true_iff_forall_mem.1 h1.2 e he
    simpa [hb] using h2
  have key : ∀ (f : Nat) (S : List Nat) (listed : Array Bool) (a : Act) (w : World) (vs : Nat → Value), S.length = f → S.Nodup → (∀ i, i ∈ S ↔ i < l.length ∧ listed.getD i true = false) →
      listed.size = l.length → Mid D a0 a vs listed → J (fun k => listed.getD k false) vs w → (∀ k t, D[k]? = some t → 1000 ≤ t → vs k = undef) → (∀ j o', l[j]? = some o' → listed.getD j false = true → ∀ e ∈ o'.after.toList, Region.binds .any e = true → listed.getD e.on false = true) → wpAny P .any l.toArray Q f listed a w := by
    intro f
    induction f with
    | zero =>
      intro S listed a w vs hS _ hmem hls mid hIw hvu hcl
      obtain rfl := List.eq_nil_of_length_eq_zero hS
      have hall : ∀ k, k < l.length → listed.getD k false = true := fun k hk => by
        cases h : listed.getD k false with
        | true => rfl
        | false => exact absurd ((hmem k).2 ⟨hk, getD_in (by omega) h⟩) (by simp)
      have hd := mid.done hD (fun k hk => hall k (by omega))
      subst hd
      refine ⟨?_, hfin vs w _ hIw fun k hk => hall k hk⟩
      cases hr : Region.ready .any l.toArray listed with
      | nil => rfl
      | cons i r =>
        have hi : i ∈ Region.ready .any l.toArray listed := by rw [hr]; simp
        obtain ⟨hun, o, ho, -⟩ := mem_ready.1 hi
        have hlt : i < l.length := by
          have := (Array.getElem?_eq_some_iff.1 ho).1
          simpa using this
        have h1 := hall i hlt
        rw [getD_both hun] at h1
        cases h1
    | succ f ih =>
      intro S listed a w vs hS hnd hmem hls mid hIw hvu hcl
      have hex : ∃ i, i < l.length ∧ listed.getD i true = false := by
        cases S with
        | nil => simp at hS
        | cons i S => exact ⟨i, (hmem i).1 (List.mem_cons_self ..)⟩
      refine ⟨fun h0 => ?_, fun i hi => ?_⟩
      · exfalso
        have least : ∀ m, (∃ i, i < m ∧ i < l.length ∧ listed.getD i true = false) → ∃ i, i < l.length ∧ listed.getD i true = false ∧ ∀ j, j < i → listed.getD j false = true := by
          intro m
          induction m with
          | zero => rintro ⟨i, h, _⟩; omega
          | succ m ihm =>
            rintro ⟨i, h1, h2, h3⟩
            by_cases hq : ∃ i, i < m ∧ i < l.length ∧ listed.getD i true = false
            · exact ihm hq
            · have : i = m := by
                rcases Nat.lt_succ_iff_lt_or_eq.1 h1 with h4 | h4
                · exact absurd ⟨i, h4, h2, h3⟩ hq
                · exact h4
              subst this
              refine ⟨i, h2, h3, fun j hj => ?_⟩
              cases h : listed.getD j false with
              | true => rfl
              | false => exact absurd ⟨j, hj, by omega, getD_in (by omega) h⟩ hq
        obtain ⟨i0, h1, h2⟩ := hex
        obtain ⟨i, hin, hun, hlow⟩ := least l.length ⟨i0, h1, h1, h2⟩
        have ho : l[i]? = some l[i] := List.getElem?_eq_getElem hin
        have : i ∈ Region.ready .any l.toArray listed := mem_ready.2 ⟨hun, l[i], by simp, fun e he hb => hlow _ (hbacki i _ ho e he hb)⟩
        rw [h0] at this
        cases this
      · obtain ⟨hun, o, ho, hall⟩ := mem_ready.1 hi
        have ho' : l[i]? = some o := by simpa using ho
        have hin : i < l.length := (List.getElem?_eq_some_iff.1 ho').1
        obtain ⟨t, ht, hdt⟩ := hdsti i o ho'
        have hbk := hbacki i o ho'
        obtain ⟨hgd, hh⟩ := HopsL.at_ P Q D a0 l J (k := 0) hop (i := i) (o := o) ho'
        rw [Nat.zero_add] at hh
        have hput : ∀ v, a.put o.dst v = a.put (some t) v := fun v => by
          rw [hdt]
          split
          · rfl
          · have h1 : ¬ t < a.tmps.size := by rw [mid.size]; omega
            cases a with
            | mk tm df => simp only [Act.put]; congr 1; simp only at h1; simp [Array.setIfInBounds, h1]
        unfold wpOp
        simp only [ho]
        rw [if_pos (by simp [Region.wanted, hgd])]
        refine Or.inl (hh a w _ vs hIw ?_ hcl (fun s hs => ?_) (fun e he hb => ?_) _ (fun v w' hdu hI' => ?_))
        · show listed.getD i false = false
          cases h : listed.getD i false with
          | false => rfl
          | true => rw [getD_both hun] at h; cases h
        · have := mid.old s hs
          simp only [this]
        · have he' : e ∈ o.after := by simpa using he
          have h3 := hall e he' hb
          have hlt : e.on < l.length := Nat.lt_trans (hbk e he' hb) hin
          refine ⟨h3, ?_⟩
          obtain ⟨s, hs⟩ : ∃ s, D[e.on]? = some s := ⟨_, List.getElem?_eq_getElem (by omega)⟩
          have h4 := mid.new e.on s hs
          rw [h3, if_pos rfl] at h4
          have h5 : D.getD e.on 0 = s := by simp [List.getD, hs]
          rw [h5, h4]
          by_cases hss : s < a0.tmps.size
          · rw [if_pos hss]; rfl
          · rw [if_neg hss]
            have h8 := List.all_eq_true.1 hDs s (List.mem_of_getElem? hs)
            simp only [Bool.or_eq_true, decide_eq_true_eq] at h8
            exact (hvu _ s hs (by omega)).symm
        · rw [hput]
          have hset : (fun k => (listed.setIfInBounds i true).getD k false) = mark (fun k => listed.getD k false) i := by
            funext k
            unfold mark
            by_cases hki : k = i
            · subst hki
              simp [show k < listed.size from by omega]
            · rw [if_neg hki, getD_set_ne false (fun e => hki e.symm)]
          have hst := mid.step hD ht (by omega) v
          refine ih (S.erase i) _ _ w' _ (by rw [List.length_erase_of_mem ((hmem i).2 ⟨hin, hun⟩)]; omega) (hnd.erase i) (fun j => ?_) (by simp [hls]) hst (by rw [hset]; exact hI') (fun k t' hk h1000 => ?_) (fun j o' hj hl e he hb => ?_)
          · rw [hnd.mem_erase_iff, hmem j]
            constructor
            · rintro ⟨h6, h7, h8⟩
              exact ⟨h7, by rw [getD_set_ne true (fun e => h6 e.symm)]; exact h8⟩
            · rintro ⟨h7, h8⟩
              by_cases hji : j = i
              · subst hji; simp [show j < listed.size from by omega] at h8
              · exact ⟨hji, h7, by rw [getD_set_ne true (fun e => hji e.symm)] at h8; exact h8⟩
          · by_cases hki : k = i
            · subst hki
              rw [ht] at hk
              obtain rfl := Option.some.inj hk
              simp only [if_true]
              exact hdu (by rw [hdt, if_neg (by omega)])
            · simp only [if_neg hki]
              exact hvu k t' hk h1000
          · have hon : listed.getD e.on false = true := by
              by_cases hji : j = i
              · subst hji
                rw [ho'] at hj
                obtain rfl := Option.some.inj hj
                exact hall e (by simpa using he) hb
              · rw [getD_set_ne false (fun e => hji e.symm)] at hl
                exact hcl j o' hj hl e he hb
            by_cases hoi : e.on = i
            · rw [hoi]; simp [show i < listed.size from by omega]
            · rw [getD_set_ne false (fun e => hoi e.symm)]
              exact hon
  refine wp_region_any hm ?_
  have hx := key l.length (List.range l.length) (Array.replicate l.length false) a0 w0.drew (fun _ => undef) (by simp) List.nodup_range (fun i => by
    rw [List.mem_range]
    constructor
    · intro h; exact ⟨h, getD_in (by simp; omega) (getD_replicate_false _ _)⟩
    · exact fun h => h.1) (by simp) (Mid.start _ _ _ _) (by rw [show (fun k => (Array.replicate l.length false).getD k false) = fun _ => false from funext fun k => getD_replicate_false _ _]; exact hI0) (fun _ _ _ _ => rfl) (fun j _ _ hl => by rw [getD_replicate_false] at hl; cases hl)
  simpa using hx
end Go.Adm
namespace Go.Adm
open Go Go.RowKit
/-- append to an empty literal: as to nil, where anything is appended. -/
theorem run_app_zero {P : Program} (w : World) {t e : TypeId} {z : Value} {size bytes : Nat} (E : ElemOf P t e z size bytes) (ty : TypeId) (ad : Addr) (A : Option Addr) (m c : Nat) (hm : 0 < m) (hbytes : m * bytes ≤ 140737488355328) :
    (Builtin.append_ #[t, t] ty #[.slice (some ad) 0 0, .slice A m c]).run P w = (Builtin.append_ #[t, t] ty #[.slice none 0 0, .slice A m c]).run P w := by
  obtain ⟨i, hi, hz, hsize, hby⟩ := E.hi
  have h0 : ¬ (m ≤ 0) := by omega
  have hcap : Builtin.nextslicecap m 0 = m := by
    unfold Builtin.nextslicecap
    simp
    omega
  have h1 : m ≠ 0 := by omega
  have hb : ¬ (281474976710656 < m * bytes) := by omega
  have hb0 : ¬ (bytes = 0) := by have := E.hb; omega
  have hlc : ∀ W : World, (loadCells ad 0).run P W = .ok #[] W := fun W => by simp [loadCells, loadCellsFrom]
  simp [Builtin.append_, run_underlying E.ht, sizeOf, typeInfo, hi, Builtin.lenOf, h0, h1, hb, hb0, hcap, hby, Builtin.firstCells, hlc]
theorem wp_app0 {P : Program} {w : World} {o : Oper} {a : Act} {K : Act → World → Prop} {Q : Exit → Act → World → Prop} {t e : TypeId} {z : Value} {size bytes : Nat} (E : ElemOf P t e z size bytes) (s x : Operand)
    (ho : o.op = .call { callee := .builtin .append, args := #[s, x], argTypes := #[t, t] })
    (base : Nat) (ad : Addr) (hs : a.eval s = .slice (some ad) 0 0) (hown : Own w base e size (some ad) 0 0 [])
    (A : Option Addr) (m c : Nat) (news : List Value) (hx : a.eval x = .slice A m c) (hr : Rd w w.heap.size size A m news) (h1 : ∀ u ∈ news, u.oneCell' = true)
    (hbytes : m * bytes ≤ 140737488355328) (hbase : base ≤ w.heap.size)
    (h : ∀ A' c' w', Own w' base e size A' m c' news → w.grownBy w' none → K (a.put o.dst (.slice A' m c')) w') : o.wp P a w K Q := by
  rcases Nat.eq_zero_or_pos m with h0 | h0
  · subst h0
    have hn : news = [] := List.eq_nil_of_length_eq_zero (by simpa using hr.len)
    subst hn
    obtain ⟨i, hi, hz, hsize, hby⟩ := E.hi
    have hrun : (Builtin.append_ #[t, t] o.type #[.slice (some ad) 0 0, .slice A 0 c]).run P w = .ok (.slice (some ad) 0 0) w := by
      cases A with
      | none => exact run_app_none w base t o.type e i size E.ht hi _ 0 [] hown c
      | some b =>
        have hlc : ∀ W : World, (loadCells b 0).run P W = .ok #[] W := fun W => by simp [loadCells, loadCellsFrom]
        simp [Builtin.append_, run_underlying E.ht, sizeOf, typeInfo, hi, Builtin.lenOf, Builtin.firstCells, hlc, storeCells]
    unfold Oper.wp execOp
    simp only [ho, resolve, invoke, builtin, Sem.run_bind, Sem.run_pure, Result.andThen_ok, List.map_toArray, List.map_cons, List.map_nil, hs, hx, hrun]
    exact h _ _ _ hown (World.grownBy.refl _ _)
  · obtain ⟨A', c', w', hrun, h2, _, h4, _, _⟩ := run_app (P := P) w E base o.type none 0 0 [] (Go.Adm.Own.nil _ _ _ _) w.heap.size A m c news hr h1 (by rw [Nat.zero_add]; exact hbytes) hbase
    rw [← run_app_zero w E o.type ad A m c h0 hbytes] at hrun
    simp only [Nat.zero_add, List.nil_append] at hrun h2
    unfold Oper.wp execOp
    simp only [ho, resolve, invoke, builtin, Sem.run_bind, Sem.run_pure, Result.andThen_ok, List.map_toArray, List.map_cons, List.map_nil, hs, hx, hrun]
    exact h A' c' w' h2 h4
def JC (Φ : Nat → Value → Prop) (I : World → Prop) (R1 R3 R8 R9 : Value → World → Prop) (Rz : Value → Value → World → Prop) (L : Nat → Bool) (vs : Nat → Value) (W : World) : Prop :=
  I W ∧ (L 10 = false → (∀ j, L j = true → Φ j (vs j)) ∧ (L 1 = true → L 3 = false → R1 (vs 1) W) ∧ (L 3 = true → L 9 = false → R3 (vs 3) W) ∧ (L 8 = true → L 9 = false → R8 (vs 8) W) ∧ (L 9 = true → R9 (vs 9) W)) ∧
    (L 10 = true → ∃ s1 s2, vs 10 = .tuple #[s1, s2] ∧ Rz s1 s2 W ∧ (L 11 = true → vs 11 = .tuple #[s1, s2]) ∧ (L 12 = true → vs 12 = s1) ∧ (L 13 = true → vs 13 = s2) ∧ (L 14 = true → vs 14 = s1) ∧ (L 15 = true → vs 15 = s2))
section
variable {Φ : Nat → Value → Prop} {I : World → Prop} {R1 R3 R8 R9 : Value → World → Prop} {Rz : Value → Value → World → Prop} {L : Nat → Bool} {vs : Nat → Value} {W W' : World} {v : Value}
theorem JC.start (hI : I W) : JC Φ I R1 R3 R8 R9 Rz (fun _ => false) (fun _ => undef) W :=
  ⟨hI, fun _ => ⟨fun j h => (Bool.false_ne_true h).elim, fun h => (Bool.false_ne_true h).elim, fun h => (Bool.false_ne_true h).elim, fun h => (Bool.false_ne_true h).elim, fun h => (Bool.false_ne_true h).elim⟩, fun h => (Bool.false_ne_true h).elim⟩
theorem JC.phi (h : ∀ j, L j = true → Φ j (vs j)) (k : Nat) (hv : Φ k v) : ∀ j, Go.Adm.mark L k j = true → Φ j (if j = k then v else vs j) := fun j hj => by
  unfold Go.Adm.mark at hj
  by_cases e : j = k
  · rw [if_pos e, e]; exact hv
  · rw [if_neg e] at hj ⊢; exact h j hj
theorem JC.quiet (h : JC Φ I R1 R3 R8 R9 Rz L vs W) (k : Nat) (hne : k ≠ 1 ∧ k ≠ 3 ∧ k ≠ 8 ∧ k ≠ 9 ∧ k ≠ 10) (h0 : L 10 = false) (hv : Φ k v) : JC Φ I R1 R3 R8 R9 Rz (Go.Adm.mark L k) (fun i => if i = k then v else vs i) W := by
  obtain ⟨a, b, c⟩ := h
  obtain ⟨b0, b1, b3, b8, b9⟩ := b h0
  obtain ⟨k1, k3, k8, k9, k10⟩ := hne
  refine ⟨a, fun _ => ⟨JC.phi b0 k hv, ?_⟩, ?_⟩
  · simp only [Go.Adm.mark, if_neg (Ne.symm k1), if_neg (Ne.symm k3), if_neg (Ne.symm k8), if_neg (Ne.symm k9)]
    exact ⟨b1, b3, b8, b9⟩
  · simp only [Go.Adm.mark, if_neg (Ne.symm k10)]
    intro h; rw [h0] at h; cases h
theorem JC.step1 (h : JC Φ I R1 R3 R8 R9 Rz L vs W) (h0 : L 10 = false) (hI : I W') (h3 : ∀ v, R3 v W → R3 v W') (h8 : ∀ v, R8 v W → R8 v W') (h9 : ∀ v, R9 v W → R9 v W') (hv : Φ 1 v) (hr : R1 v W') : JC Φ I R1 R3 R8 R9 Rz (Go.Adm.mark L 1) (fun i => if i = 1 then v else vs i) W' := by
  obtain ⟨a, b, c⟩ := h
  obtain ⟨b0, b1, b3, b8, b9⟩ := b h0
  refine ⟨hI, fun _ => ⟨JC.phi b0 1 hv, ?_⟩, ?_⟩
  · simp only [Go.Adm.mark, Nat.reduceEqDiff, if_false, if_true]
    exact ⟨fun _ _ => hr, fun x y => h3 _ (b3 x y), fun x y => h8 _ (b8 x y), fun x => h9 _ (b9 x)⟩
  · simp only [Go.Adm.mark, Nat.reduceEqDiff, if_false]
    intro h; rw [h0] at h; cases h
theorem JC.step3 (h : JC Φ I R1 R3 R8 R9 Rz L vs W) (h0 : L 10 = false) (hI : I W') (h8 : ∀ v, R8 v W → R8 v W') (h9 : ∀ v, R9 v W → R9 v W') (hv : Φ 3 v) (hr : R3 v W') : JC Φ I R1 R3 R8 R9 Rz (Go.Adm.mark L 3) (fun i => if i = 3 then v else vs i) W' := by
  obtain ⟨a, b, c⟩ := h
  obtain ⟨b0, b1, b3, b8, b9⟩ := b h0
  refine ⟨hI, fun _ => ⟨JC.phi b0 3 hv, ?_⟩, ?_⟩
  · simp only [Go.Adm.mark, Nat.reduceEqDiff, if_false, if_true]
    exact ⟨fun _ h => (Bool.false_ne_true h.symm).elim, fun _ _ => hr, fun x y => h8 _ (b8 x y), fun x => h9 _ (b9 x)⟩
  · simp only [Go.Adm.mark, Nat.reduceEqDiff, if_false]
    intro h; rw [h0] at h; cases h
theorem JC.step8 (h : JC Φ I R1 R3 R8 R9 Rz L vs W) (h0 : L 10 = false) (hI : I W') (h1 : ∀ v, R1 v W → R1 v W') (h3 : ∀ v, R3 v W → R3 v W') (h9 : ∀ v, R9 v W → R9 v W') (hv : Φ 8 v) (hr : R8 v W') : JC Φ I R1 R3 R8 R9 Rz (Go.Adm.mark L 8) (fun i => if i = 8 then v else vs i) W' := by
  obtain ⟨a, b, c⟩ := h
  obtain ⟨b0, b1, b3, b8, b9⟩ := b h0
  refine ⟨hI, fun _ => ⟨JC.phi b0 8 hv, ?_⟩, ?_⟩
  · simp only [Go.Adm.mark, Nat.reduceEqDiff, if_false, if_true]
    exact ⟨fun x y => h1 _ (b1 x y), fun x y => h3 _ (b3 x y), fun _ _ => hr, fun x => h9 _ (b9 x)⟩
  · simp only [Go.Adm.mark, Nat.reduceEqDiff, if_false]
    intro h; rw [h0] at h; cases h
theorem JC.step9 (h : JC Φ I R1 R3 R8 R9 Rz L vs W) (h0 : L 10 = false) (h3 : L 3 = true) (hI : I W') (hv : Φ 9 v) (hr : R9 v W') : JC Φ I R1 R3 R8 R9 Rz (Go.Adm.mark L 9) (fun i => if i = 9 then v else vs i) W' := by
  obtain ⟨a, b, c⟩ := h
  obtain ⟨b0, b1, b3, b8, b9⟩ := b h0
  refine ⟨hI, fun _ => ⟨JC.phi b0 9 hv, ?_, ?_, ?_, ?_⟩, ?_⟩
  · intro _ h
    change L 3 = false at h
    rw [h3] at h; cases h
  · intro _ h
    exact Bool.noConfusion (show true = false from h)
  · intro _ h
    exact Bool.noConfusion (show true = false from h)
  · intro _
    exact hr
  · intro h
    change L 10 = true at h
    rw [h0] at h; cases h
theorem JC.step10 (h : JC Φ I R1 R3 R8 R9 Rz L vs W) (hl : L 11 = false ∧ L 12 = false ∧ L 13 = false ∧ L 14 = false ∧ L 15 = false) (hI : I W') {s1 s2 : Value} (hr : Rz s1 s2 W') : JC Φ I R1 R3 R8 R9 Rz (Go.Adm.mark L 10) (fun i => if i = 10 then .tuple #[s1, s2] else vs i) W' := by
  obtain ⟨l1, l2, l3, l4, l5⟩ := hl
  refine ⟨hI, ?_, ?_⟩
  · intro h
    exact Bool.noConfusion (show true = false from h)
  · refine fun _ => ⟨s1, s2, rfl, hr, ?_, ?_, ?_, ?_, ?_⟩
    · intro h; change L 11 = true at h; rw [l1] at h; cases h
    · intro h; change L 12 = true at h; rw [l2] at h; cases h
    · intro h; change L 13 = true at h; rw [l3] at h; cases h
    · intro h; change L 14 = true at h; rw [l4] at h; cases h
    · intro h; change L 15 = true at h; rw [l5] at h; cases h
theorem JC.after (h : JC Φ I R1 R3 R8 R9 Rz L vs W) (h10 : L 10 = true) : ∃ s1 s2, vs 10 = .tuple #[s1, s2] ∧ (L 11 = true → vs 11 = .tuple #[s1, s2]) ∧ (L 12 = true → vs 12 = s1) ∧ (L 13 = true → vs 13 = s2) ∧
    ∀ k v, (k = 11 ∧ v = .tuple #[s1, s2]) ∨ (k = 12 ∧ v = s1) ∨ (k = 13 ∧ v = s2) ∨ (k = 14 ∧ v = s1) ∨ (k = 15 ∧ v = s2) → JC Φ I R1 R3 R8 R9 Rz (Go.Adm.mark L k) (fun i => if i = k then v else vs i) W := by
  obtain ⟨a, b, c⟩ := h
  obtain ⟨s1, s2, c0, c1, c2, c3, c4, c5, c6⟩ := c h10
  refine ⟨s1, s2, c0, c2, c3, c4, fun k v hk => ⟨a, ?_, fun _ => ⟨s1, s2, ?_⟩⟩⟩
  · rcases hk with ⟨rfl, rfl⟩ | ⟨rfl, rfl⟩ | ⟨rfl, rfl⟩ | ⟨rfl, rfl⟩ | ⟨rfl, rfl⟩ <;> (simp only [Go.Adm.mark, Nat.reduceEqDiff, if_false]; intro h; rw [h10] at h; cases h)
  · rcases hk with ⟨rfl, rfl⟩ | ⟨rfl, rfl⟩ | ⟨rfl, rfl⟩ | ⟨rfl, rfl⟩ | ⟨rfl, rfl⟩ <;> simp only [Go.Adm.mark, Nat.reduceEqDiff, if_false, if_true]
    · exact ⟨c0, c1, fun _ => trivial, c3, c4, c5, c6⟩
    · exact ⟨c0, c1, c2, fun _ => trivial, c4, c5, c6⟩
    · exact ⟨c0, c1, c2, c3, fun _ => trivial, c5, c6⟩
    · exact ⟨c0, c1, c2, c3, c4, fun _ => trivial, c6⟩
    · exact ⟨c0, c1, c2, c3, c4, c5, fun _ => trivial⟩
end
end Go.Adm

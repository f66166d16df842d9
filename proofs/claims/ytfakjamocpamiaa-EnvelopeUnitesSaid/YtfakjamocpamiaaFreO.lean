/- A drawn region that stores: each operation met once; a store of a whole element into a row of the call's own. -/
import Derived.Test.YtfakjamocpamiaaKyG
set_option linter.unusedSimpArgs false
set_option linter.unusedVariables false
namespace Go.Adm
open Go Go.RowKit
def dstA (D : List Nat) (l : List Oper) : Bool := decide (l.map (·.dst) = D.map fun t => if t < 1000 then some t else none)
def mark (L : Nat → Bool) (k : Nat) : Nat → Bool := fun i => if i = k then true else L i
section
variable (P : Program) (Q : Exit → Act → World → Prop) (D : List Nat) (a0 : Act) (ops : List Oper) (I : (Nat → Bool) → World → Prop) (ev : Nat → Value)
/-- one operation: L tells which have been -/
def HopO (k : Nat) (o : Oper) : Prop :=
 o.guard = none ∧ ∀ (a : Act) (w : World) (L : Nat → Bool), I L w → L k = false → (∀ j o', ops[j]? = some o' → L j = true → ∀ e ∈ o'.after.toList, Region.binds .any e = true → L e.on = true) →
  (∀ t, D.contains t = false → a.tmps[t]?.getD undef = a0.tmps[t]?.getD undef) →
  (∀ e ∈ o.after.toList, Region.binds .any e = true → L e.on = true ∧ a.tmps[D.getD e.on 0]?.getD undef = ev e.on) →
  ∀ K : Act → World → Prop, (∀ w', I (mark L k) w' → K (a.put o.dst (ev k)) w') → o.wp P a w K Q
def HopsO : Nat → List Oper → Prop
 | _, [] => True
 | k, o :: os => HopO P Q D a0 ops I ev k o ∧ HopsO (k + 1) os
theorem HopsO.at_ : ∀ {os : List Oper} {k i : Nat} {o : Oper}, HopsO P Q D a0 ops I ev k os → os[i]? = some o → HopO P Q D a0 ops I ev (k + i) o
 | [], _, i, _, _, hi => by simp at hi
 | x :: os, k, 0, o, h, hi => by
  obtain rfl : x = o := by simpa using hi
  exact h.1
 | x :: os, k, i + 1, o, h, hi => by
  have := HopsO.at_ (k := k + 1) (i := i) h.2 (by simpa using hi)
  rwa [show k + 1 + i = k + (i + 1) from by omega] at this
end
theorem wp_region_order {P : Program} {id : Nat} {Q : Exit → Act → World → Prop} {a0 : Act} {w0 : World} {l : List Oper} (D : List Nat) (I : (Nat → Bool) → World → Prop) (ev : Nat → Value)
  (hm : P.follows .mixedOrders = true) (hB : (backB l l.length && dstA D l && decide (D.Nodup)) = true) (hsz : a0.tmps.size ≤ 1000)
  (hev : ∀ k t, D[k]? = some t → 1000 ≤ t → ev k = undef) (hI0 : I (fun _ => false) w0.drew) (hDs : D.all (fun t => decide (t < a0.tmps.size) || decide (1000 ≤ t)) = true)
  (hop : HopsO P Q D a0 l I ev 0 l)
  (hfin : ∀ (w : World) (L : Nat → Bool), I L w → (∀ k, k < l.length → L k = true) → Q .normal (putAll ev D 0 a0) w) : (Code.region id l.toArray true).wp P Q a0 w0 := by
 simp only [Bool.and_eq_true, decide_eq_true_eq] at hB
 obtain ⟨⟨hback, hdst⟩, hD⟩ := hB
 have hdst' : l.map (·.dst) = D.map fun t => if t < 1000 then some t else none := by simpa [dstA] using hdst
 have hDl : D.length = l.length := by have := congrArg List.length hdst'; simp at this; omega
 have hdsti : ∀ (i : Nat) (o : Oper), l[i]? = some o → ∃ t, D[i]? = some t ∧ o.dst = if t < 1000 then some t else none := fun i o ho => by
  have h1 := congrArg (fun x : List (Option Tmp) => x[i]?) hdst'
  simp only [List.getElem?_map, ho, Option.map_some] at h1
  have hlt : i < D.length := by rw [hDl]; exact (List.getElem?_eq_some_iff.1 ho).1
  rw [List.getElem?_eq_getElem hlt] at h1 ⊢
  exact ⟨_, rfl, by simpa using h1⟩
 have hbacki : ∀ (i : Nat) (o : Oper), l[i]? = some o → ∀ e ∈ o.after, Region.binds .any e = true → e.on < i := fun i o ho e he hb => by
  have hi := (List.getElem?_eq_some_iff.1 ho).1
  have h1 := List.all_eq_true.1 hback (o, i) (by
   rw [List.mem_iff_getElem?]
   refine ⟨i, ?_⟩
   rw [List.getElem?_zipIdx, List.getElem?_take, if_pos hi, ho]
   simp)
  simp only [Bool.and_eq_true] at h1
  have h2 := Array.all_eq_true_iff_forall_mem.1 h1.2 e he
  simpa [hb] using h2
 have key : ∀ (f : Nat) (S : List Nat) (listed : Array Bool) (a : Act) (w : World), S.length = f → S.Nodup → (∀ i, i ∈ S ↔ i < l.length ∧ listed.getD i true = false) →
   listed.size = l.length → Mid D a0 a ev listed → I (fun k => listed.getD k false) w → (∀ j o', l[j]? = some o' → listed.getD j false = true → ∀ e ∈ o'.after.toList, Region.binds .any e = true → listed.getD e.on false = true) → wpAny P .any l.toArray Q f listed a w := by
  intro f
  induction f with
  | zero =>
   intro S listed a w hS _ hmem hls mid hIw hcl
   obtain rfl := List.eq_nil_of_length_eq_zero hS
   have hall : ∀ k, k < l.length → listed.getD k false = true := fun k hk => by
    cases h : listed.getD k false with
    | true => rfl
    | false => exact absurd ((hmem k).2 ⟨hk, getD_in (by omega) h⟩) (by simp)
   have hd := mid.done hD (fun k hk => hall k (by omega))
   subst hd
   refine ⟨?_, hfin w _ hIw fun k hk => hall k hk⟩
   cases hr : Region.ready .any l.toArray listed with
   | nil => rfl
   | cons i r =>
    have hi : i ∈ Region.ready .any l.toArray listed := by rw [hr]; simp
    obtain ⟨hun, o, ho, -⟩ := mem_ready.1 hi
    have hlt : i < l.length := by
     have := (Array.getElem?_eq_some_iff.1 ho).1
     simpa using this
    have h1 := hall i hlt
    rw [getD_both hun] at h1
    cases h1
  | succ f ih =>
   intro S listed a w hS hnd hmem hls mid hIw hcl
   have hex : ∃ i, i < l.length ∧ listed.getD i true = false := by
    cases S with
    | nil => simp at hS
    | cons i S => exact ⟨i, (hmem i).1 (List.mem_cons_self ..)⟩
   refine ⟨fun h0 => ?_, fun i hi => ?_⟩
   ·exfalso
    have least : ∀ m, (∃ i, i < m ∧ i < l.length ∧ listed.getD i true = false) → ∃ i, i < l.length ∧ listed.getD i true = false ∧ ∀ j, j < i → listed.getD j false = true := by
     intro m
     induction m with
     | zero => rintro ⟨i, h, _⟩; omega
     | succ m ihm =>
      rintro ⟨i, h1, h2, h3⟩
      by_cases hq : ∃ i, i < m ∧ i < l.length ∧ listed.getD i true = false
      ·exact ihm hq
      ·have : i = m := by
        rcases Nat.lt_succ_iff_lt_or_eq.1 h1 with h4 | h4
        ·exact absurd ⟨i, h4, h2, h3⟩ hq
        ·exact h4
       subst this
       refine ⟨i, h2, h3, fun j hj => ?_⟩
       cases h : listed.getD j false with
       | true => rfl
       | false => exact absurd ⟨j, hj, by omega, getD_in (by omega) h⟩ hq
    obtain ⟨i0, h1, h2⟩ := hex
    obtain ⟨i, hin, hun, hlow⟩ := least l.length ⟨i0, h1, h1, h2⟩
    have ho : l[i]? = some l[i] := List.getElem?_eq_getElem hin
    have : i ∈ Region.ready .any l.toArray listed := mem_ready.2 ⟨hun, l[i], by simp, fun e he hb => hlow _ (hbacki i _ ho e he hb)⟩
    rw [h0] at this
    cases this
   ·obtain ⟨hun, o, ho, hall⟩ := mem_ready.1 hi
    have ho' : l[i]? = some o := by simpa using ho
    have hin : i < l.length := (List.getElem?_eq_some_iff.1 ho').1
    obtain ⟨t, ht, hdt⟩ := hdsti i o ho'
    have hbk := hbacki i o ho'
    obtain ⟨hgd, hh⟩ := HopsO.at_ P Q D a0 l I ev (k := 0) hop (i := i) (o := o) ho'
    rw [Nat.zero_add] at hh
    have hput : ∀ v, a.put o.dst v = a.put (some t) v := fun v => by
     rw [hdt]
     split
     ·rfl
     ·have h1 : ¬ t < a.tmps.size := by rw [mid.size]; omega
      cases a with
      | mk tm df => simp only [Act.put]; congr 1; simp only at h1; simp [Array.setIfInBounds, h1]
    unfold wpOp
    simp only [ho]
    rw [if_pos (by simp [Region.wanted, hgd])]
    refine Or.inl (hh a w _ hIw ?_ hcl (fun s hs => ?_) (fun e he hb => ?_) _ (fun w' hI' => ?_))
    ·show listed.getD i false = false
     cases h : listed.getD i false with
     | false => rfl
     | true => rw [getD_both hun] at h; cases h
    ·have := mid.old s hs
     simp only [this]
    ·have he' : e ∈ o.after := by simpa using he
     have h3 := hall e he' hb
     have hlt : e.on < l.length := Nat.lt_trans (hbk e he' hb) hin
     refine ⟨h3, ?_⟩
     obtain ⟨s, hs⟩ : ∃ s, D[e.on]? = some s := ⟨_, List.getElem?_eq_getElem (by omega)⟩
     have h4 := mid.new e.on s hs
     rw [h3, if_pos rfl] at h4
     have h5 : D.getD e.on 0 = s := by simp [List.getD, hs]
     rw [h5, h4]
     by_cases hss : s < a0.tmps.size
     ·rw [if_pos hss]; rfl
     ·rw [if_neg hss]
      have h8 := List.all_eq_true.1 hDs s (List.mem_of_getElem? hs)
      simp only [Bool.or_eq_true, decide_eq_true_eq] at h8
      exact (hev _ s hs (by omega)).symm
    ·rw [hput]
     have hset : (fun k => (listed.setIfInBounds i true).getD k false) = mark (fun k => listed.getD k false) i := by
      funext k
      unfold mark
      by_cases hki : k = i
      ·subst hki
       simp [show k < listed.size from by omega]
      ·rw [if_neg hki, getD_set_ne false (fun e => hki e.symm)]
     have hst := mid.step hD ht (by omega) (ev i)
     have hev' : (fun k => if k = i then ev i else ev k) = ev := by
      funext k
      split
      ·rename_i h; rw [h]
      ·rfl
     rw [hev'] at hst
     refine ih (S.erase i) _ _ w' (by rw [List.length_erase_of_mem ((hmem i).2 ⟨hin, hun⟩)]; omega) (hnd.erase i) (fun j => ?_) (by simp [hls]) hst (by rw [hset]; exact hI') (fun j o' hj hl e he hb => ?_)
     ·rw [hnd.mem_erase_iff, hmem j]
      constructor
      ·rintro ⟨h6, h7, h8⟩
       exact ⟨h7, by rw [getD_set_ne true (fun e => h6 e.symm)]; exact h8⟩
      ·rintro ⟨h7, h8⟩
       by_cases hji : j = i
       ·subst hji; simp [show j < listed.size from by omega] at h8
       ·exact ⟨hji, h7, by rw [getD_set_ne true (fun e => hji e.symm)] at h8; exact h8⟩
     ·have hon : listed.getD e.on false = true := by
       by_cases hji : j = i
       ·subst hji
        rw [ho'] at hj
        obtain rfl := Option.some.inj hj
        exact hall e (by simpa using he) hb
       ·rw [getD_set_ne false (fun e => hji e.symm)] at hl
        exact hcl j o' hj hl e he hb
      by_cases hoi : e.on = i
      ·rw [hoi]; simp [show i < listed.size from by omega]
      ·rw [getD_set_ne false (fun e => hoi e.symm)]
       exact hon
 refine wp_region_any hm ?_
 have hx := key l.length (List.range l.length) (Array.replicate l.length false) a0 w0.drew (by simp) List.nodup_range (fun i => by
  rw [List.mem_range]
  constructor
  ·intro h; exact ⟨h, getD_in (by simp; omega) (getD_replicate_false _ _)⟩
  ·exact fun h => h.1) (by simp) (Mid.start _ _ _ _) (by rw [show (fun k => (Array.replicate l.length false).getD k false) = fun _ => false from funext fun k => getD_replicate_false _ _]; exact hI0) (fun j _ _ hl => by rw [getD_replicate_false] at hl; cases hl)
 simpa using hx
end Go.Adm
namespace Go.Adm
open Go Go.RowKit
theorem take_mid {α : Type} (L vs : List α) (o m N : Nat) (hm : vs.length = m) (h1 : o + m ≤ N) (h2 : N ≤ L.length) : (L.take o ++ vs ++ L.drop (o + m)).take N = (L.take N).take o ++ vs ++ (L.take N).drop (o + m) := by
 have hl : (L.take o ++ vs).length = o + m := by rw [List.length_append, List.length_take, hm]; omega
 rw [List.take_append, List.take_of_length_le (by rw [hl]; omega), hl, List.drop_take, List.take_take, Nat.min_eq_left (by omega)]
theorem own_el_store {w : World} {base size g n c j : Nat} {e : TypeId} {xs vs : List Value} (h : Own w base e size (some ⟨g, 0, none⟩) n c xs) (hj : j < n) (hv : vs.length = size) :
  w.there g (j * size) size ∧ Own (w.setCells g (j * size) vs) base e size (some ⟨g, 0, none⟩) n c (xs.take (j * size) ++ vs ++ xs.drop (j * size + size)) := by
 obtain ⟨hlen, hr⟩ := h
 rcases hr with ⟨h1, _⟩ | ⟨g', cap, cur, hv', hg, hh, h1, h2, h3, h4⟩
 ·injection h1 with h1
  cases h1
 ·injection hv' with e1 e2 e3
  injection e1 with e1
  injection e1 with e1
  subst e1 e3
  have hC : Cells w g e cur.toList := by simpa [Cells] using hh
  have ho : j * size + size ≤ n * size := by rw [← Nat.succ_mul]; exact Nat.mul_le_mul_right _ hj
  have hn : n * size ≤ c * size := Nat.mul_le_mul_right _ h1
  have hcl : cur.toList.length = c * size := by simpa using h3
  refine ⟨fun i hi => ?_, ?_⟩
  ·have := hC.there (j * size + i) (by omega)
   rwa [Nat.zero_add] at this
  ·have hS := hC.storeN (vs := vs) (o := j * size) (by omega)
   rw [hv] at hS
   refine ⟨?_, .inr ⟨g, c, (cur.toList.take (j * size) ++ vs ++ cur.toList.drop (j * size + size)).toArray, rfl, hg, hS, h1, h2, ?_, ?_⟩⟩
   ·simp only [List.length_append, List.length_take, List.length_drop, hlen, hv]
    omega
   ·simp only [List.size_toArray, List.length_append, List.length_take, List.length_drop, hcl, hv]
    omega
   ·show List.take (n * size) (cur.toList.take (j * size) ++ vs ++ cur.toList.drop (j * size + size)) = _
    rw [take_mid _ _ _ _ _ hv ho (by omega), h4]
theorem flat_set {α β : Type} {f : α → List β} {size : Nat} {l : List α} (h : ∀ x ∈ l, (f x).length = size) {j : Nat} (hj : j < l.length) (x : α) :
  (l.map f).flatten.take (j * size) ++ f x ++ (l.map f).flatten.drop (j * size + size) = ((l.set j x).map f).flatten := by
 have h' : ∀ e ∈ l.map f, e.length = size := fun e he => by obtain ⟨x, hx, rfl⟩ := List.mem_map.1 he; exact h x hx
 rw [← Nat.succ_mul, flat_take j h', flat_drop (j + 1) h', List.set_eq_take_append_cons_drop, if_pos hj]
 simp
/-- a store of a whole element into a row of the call's own -/
theorem wp_store_el {P : Program} {o : Oper} {a : Act} {w : World} {K : Act → World → Prop} {Q : Exit → Act → World → Prop} {α : Type} {f : α → List Value} {base size g n c j : Nat} {e ty : TypeId} {l : List α}
  (x y : Operand) (ho : o.op = .store ty x y) (hown : Own w base e size (some ⟨g, 0, none⟩) n c (l.map f).flatten) (hj : j < n) (hl : l.length = n) (hf : ∀ x ∈ l, (f x).length = size) (v : α) (hv : (f v).length = size)
  (hx : a.eval x = .pointer (some ⟨g, j * size, none⟩)) (hy : a.eval y = .agg (f v).toArray) (hi : (P.info? ty).map (·.size) = some size) (h1 : ∀ u ∈ f v, u.oneCell' = true)
  (h : ∀ w', Own w' base e size (some ⟨g, 0, none⟩) n c ((l.set j v).map f).flatten → w.grownBy w' (some g) → w'.heap.size = w.heap.size → K (a.put o.dst undef) w') : o.wp P a w K Q := by
 obtain ⟨ht, hS⟩ := own_el_store hown hj hv
 rw [flat_set hf (by omega)] at hS
 have hrun := run_storeVar_mid (P := P) w g (j * size) ty (f v).toArray (by rw [List.size_toArray, hv]; exact ht) (by rw [List.size_toArray, hv]; exact hi) (all_oneCell_toArray h1)
 have h2 := h _ hS only_setCells (size_setCells _ _ _ _)
 have hex : (execOp a.eval o).run P w = .ok .skip (w.setCells g (j * size) (f v)) := by
  unfold execOp
  simp only [ho, hx, hy, Instr.storeAt, Instr.sureAddr, Sem.run_bind, Sem.run_pure, Result.andThen_ok, hrun, List.toList_toArray]
 unfold Oper.wp
 rw [hex]
 exact h2
end Go.Adm

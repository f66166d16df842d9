/- A drawn region that writes: each operation met once, told which came before, what these left, and which did not come yet; and a drawn region all operations of which leave what was there alone. -/
import Derived.Test.YtfakjamocpamiaaFreO
import Derived.Test.YtfakjamocpamiaaFreB
set_option linter.unusedSimpArgs false
set_option linter.unusedVariables false
namespace Go.Adm
open Go Go.RowKit
section
variable (P : Program) (Q : Exit → Act → World → Prop) (D : List Nat) (a0 : Act) (ops : List Oper) (J : (Nat → Bool) → (Nat → Value) → World → Prop)
/-- one operation: L tells which have been, vs what they left -/
def HopL (k : Nat) (o : Oper) : Prop :=
 o.guard = none ∧ ∀ (a : Act) (w : World) (L : Nat → Bool) (vs : Nat → Value), J L vs w → L k = false → (∀ j o', ops[j]? = some o' → L j = true → ∀ e ∈ o'.after.toList, Region.binds .any e = true → L e.on = true) →
  (∀ t, D.contains t = false → a.tmps[t]?.getD undef = a0.tmps[t]?.getD undef) →
  (∀ e ∈ o.after.toList, Region.binds .any e = true → L e.on = true ∧ a.tmps[D.getD e.on 0]?.getD undef = vs e.on) →
  ∀ K : Act → World → Prop, (∀ v w', (o.dst = none → v = undef) → J (mark L k) (fun i => if i = k then v else vs i) w' → K (a.put o.dst v) w') → o.wp P a w K Q
def HopsL : Nat → List Oper → Prop
 | _, [] => True
 | k, o :: os => HopL P Q D a0 ops J k o ∧ HopsL (k + 1) os
theorem HopsL.at_ : ∀ {os : List Oper} {k i : Nat} {o : Oper}, HopsL P Q D a0 ops J k os → os[i]? = some o → HopL P Q D a0 ops J (k + i) o
 | [], _, i, _, _, hi => by simp at hi
 | x :: os, k, 0, o, h, hi => by
  obtain rfl : x = o := by simpa using hi
  exact h.1
 | x :: os, k, i + 1, o, h, hi => by
  have := HopsL.at_ (k := k + 1) (i := i) h.2 (by simpa using hi)
  rwa [show k + 1 + i = k + (i + 1) from by omega] at this
end
theorem wp_region_came {P : Program} {id : Nat} {Q : Exit → Act → World → Prop} {a0 : Act} {w0 : World} {l : List Oper} (D : List Nat) (J : (Nat → Bool) → (Nat → Value) → World → Prop)
  (hm : P.follows .mixedOrders = true) (hB : (backB l l.length && dstA D l && decide (D.Nodup)) = true) (hsz : a0.tmps.size ≤ 1000)
  (hI0 : J (fun _ => false) (fun _ => undef) w0.drew) (hDs : D.all (fun t => decide (t < a0.tmps.size) || decide (1000 ≤ t)) = true)
  (hop : HopsL P Q D a0 l J 0 l)
  (hfin : ∀ (vs : Nat → Value) (w : World) (L : Nat → Bool), J L vs w → (∀ k, k < l.length → L k = true) → Q .normal (putAll vs D 0 a0) w) : (Code.region id l.toArray true).wp P Q a0 w0 := by
 simp only [Bool.and_eq_true, decide_eq_true_eq] at hB
 obtain ⟨⟨hback, hdst⟩, hD⟩ := hB
 have hdst' : l.map (·.dst) = D.map fun t => if t < 1000 then some t else none := by simpa [dstA] using hdst
 have hDl : D.length = l.length := by have := congrArg List.length hdst'; simp at this; omega
 have hdsti : ∀ (i : Nat) (o : Oper), l[i]? = some o → ∃ t, D[i]? = some t ∧ o.dst = if t < 1000 then some t else none := fun i o ho => by
  have h1 := congrArg (fun x : List (Option Tmp) => x[i]?) hdst'
  simp only [List.getElem?_map, ho, Option.map_some] at h1
  have hlt : i < D.length := by rw [hDl]; exact (List.getElem?_eq_some_iff.1 ho).1
  rw [List.getElem?_eq_getElem hlt] at h1 ⊢
  exact ⟨_, rfl, by simpa using h1⟩
 have hbacki : ∀ (i : Nat) (o : Oper), l[i]? = some o → ∀ e ∈ o.after, Region.binds .any e = true → e.on < i := fun i o ho e he hb => by
  have hi := (List.getElem?_eq_some_iff.1 ho).1
  have h1 := List.all_eq_true.1 hback (o, i) (by
   rw [List.mem_iff_getElem?]
   refine ⟨i, ?_⟩
   rw [List.getElem?_zipIdx, List.getElem?_take, if_pos hi, ho]
   simp)
  simp only [Bool.and_eq_true] at h1
  have h2 := Array.all_eq_true_iff_forall_mem.1 h1.2 e he
  simpa [hb] using h2
 have key : ∀ (f : Nat) (S : List Nat) (listed : Array Bool) (a : Act) (w : World) (vs : Nat → Value), S.length = f → S.Nodup → (∀ i, i ∈ S ↔ i < l.length ∧ listed.getD i true = false) →
   listed.size = l.length → Mid D a0 a vs listed → J (fun k => listed.getD k false) vs w → (∀ k t, D[k]? = some t → 1000 ≤ t → vs k = undef) → (∀ j o', l[j]? = some o' → listed.getD j false = true → ∀ e ∈ o'.after.toList, Region.binds .any e = true → listed.getD e.on false = true) → wpAny P .any l.toArray Q f listed a w := by
  intro f
  induction f with
  | zero =>
   intro S listed a w vs hS _ hmem hls mid hIw hvu hcl
   obtain rfl := List.eq_nil_of_length_eq_zero hS
   have hall : ∀ k, k < l.length → listed.getD k false = true := fun k hk => by
    cases h : listed.getD k false with
    | true => rfl
    | false => exact absurd ((hmem k).2 ⟨hk, getD_in (by omega) h⟩) (by simp)
   have hd := mid.done hD (fun k hk => hall k (by omega))
   subst hd
   refine ⟨?_, hfin vs w _ hIw fun k hk => hall k hk⟩
   cases hr : Region.ready .any l.toArray listed with
   | nil => rfl
   | cons i r =>
    have hi : i ∈ Region.ready .any l.toArray listed := by rw [hr]; simp
    obtain ⟨hun, o, ho, -⟩ := mem_ready.1 hi
    have hlt : i < l.length := by
     have := (Array.getElem?_eq_some_iff.1 ho).1
     simpa using this
    have h1 := hall i hlt
    rw [getD_both hun] at h1
    cases h1
  | succ f ih =>
   intro S listed a w vs hS hnd hmem hls mid hIw hvu hcl
   have hex : ∃ i, i < l.length ∧ listed.getD i true = false := by
    cases S with
    | nil => simp at hS
    | cons i S => exact ⟨i, (hmem i).1 (List.mem_cons_self ..)⟩
   refine ⟨fun h0 => ?_, fun i hi => ?_⟩
   ·exfalso
    have least : ∀ m, (∃ i, i < m ∧ i < l.length ∧ listed.getD i true = false) → ∃ i, i < l.length ∧ listed.getD i true = false ∧ ∀ j, j < i → listed.getD j false = true := by
     intro m
     induction m with
     | zero => rintro ⟨i, h, _⟩; omega
     | succ m ihm =>
      rintro ⟨i, h1, h2, h3⟩
      by_cases hq : ∃ i, i < m ∧ i < l.length ∧ listed.getD i true = false
      ·exact ihm hq
      ·have : i = m := by
        rcases Nat.lt_succ_iff_lt_or_eq.1 h1 with h4 | h4
        ·exact absurd ⟨i, h4, h2, h3⟩ hq
        ·exact h4
       subst this
       refine ⟨i, h2, h3, fun j hj => ?_⟩
       cases h : listed.getD j false with
       | true => rfl
       | false => exact absurd ⟨j, hj, by omega, getD_in (by omega) h⟩ hq
    obtain ⟨i0, h1, h2⟩ := hex
    obtain ⟨i, hin, hun, hlow⟩ := least l.length ⟨i0, h1, h1, h2⟩
    have ho : l[i]? = some l[i] := List.getElem?_eq_getElem hin
    have : i ∈ Region.ready .any l.toArray listed := mem_ready.2 ⟨hun, l[i], by simp, fun e he hb => hlow _ (hbacki i _ ho e he hb)⟩
    rw [h0] at this
    cases this
   ·obtain ⟨hun, o, ho, hall⟩ := mem_ready.1 hi
    have ho' : l[i]? = some o := by simpa using ho
    have hin : i < l.length := (List.getElem?_eq_some_iff.1 ho').1
    obtain ⟨t, ht, hdt⟩ := hdsti i o ho'
    have hbk := hbacki i o ho'
    obtain ⟨hgd, hh⟩ := HopsL.at_ P Q D a0 l J (k := 0) hop (i := i) (o := o) ho'
    rw [Nat.zero_add] at hh
    have hput : ∀ v, a.put o.dst v = a.put (some t) v := fun v => by
     rw [hdt]
     split
     ·rfl
     ·have h1 : ¬ t < a.tmps.size := by rw [mid.size]; omega
      cases a with
      | mk tm df => simp only [Act.put]; congr 1; simp only at h1; simp [Array.setIfInBounds, h1]
    unfold wpOp
    simp only [ho]
    rw [if_pos (by simp [Region.wanted, hgd])]
    refine Or.inl (hh a w _ vs hIw ?_ hcl (fun s hs => ?_) (fun e he hb => ?_) _ (fun v w' hdu hI' => ?_))
    ·show listed.getD i false = false
     cases h : listed.getD i false with
     | false => rfl
     | true => rw [getD_both hun] at h; cases h
    ·have := mid.old s hs
     simp only [this]
    ·have he' : e ∈ o.after := by simpa using he
     have h3 := hall e he' hb
     have hlt : e.on < l.length := Nat.lt_trans (hbk e he' hb) hin
     refine ⟨h3, ?_⟩
     obtain ⟨s, hs⟩ : ∃ s, D[e.on]? = some s := ⟨_, List.getElem?_eq_getElem (by omega)⟩
     have h4 := mid.new e.on s hs
     rw [h3, if_pos rfl] at h4
     have h5 : D.getD e.on 0 = s := by simp [List.getD, hs]
     rw [h5, h4]
     by_cases hss : s < a0.tmps.size
     ·rw [if_pos hss]; rfl
     ·rw [if_neg hss]
      have h8 := List.all_eq_true.1 hDs s (List.mem_of_getElem? hs)
      simp only [Bool.or_eq_true, decide_eq_true_eq] at h8
      exact (hvu _ s hs (by omega)).symm
    ·rw [hput]
     have hset : (fun k => (listed.setIfInBounds i true).getD k false) = mark (fun k => listed.getD k false) i := by
      funext k
      unfold mark
      by_cases hki : k = i
      ·subst hki
       simp [show k < listed.size from by omega]
      ·rw [if_neg hki, getD_set_ne false (fun e => hki e.symm)]
     have hst := mid.step hD ht (by omega) v
     refine ih (S.erase i) _ _ w' _ (by rw [List.length_erase_of_mem ((hmem i).2 ⟨hin, hun⟩)]; omega) (hnd.erase i) (fun j => ?_) (by simp [hls]) hst (by rw [hset]; exact hI') (fun k t' hk h1000 => ?_) (fun j o' hj hl e he hb => ?_)
     ·rw [hnd.mem_erase_iff, hmem j]
      constructor
      ·rintro ⟨h6, h7, h8⟩
       exact ⟨h7, by rw [getD_set_ne true (fun e => h6 e.symm)]; exact h8⟩
      ·rintro ⟨h7, h8⟩
       by_cases hji : j = i
       ·subst hji; simp [show j < listed.size from by omega] at h8
       ·exact ⟨hji, h7, by rw [getD_set_ne true (fun e => hji e.symm)] at h8; exact h8⟩
     ·by_cases hki : k = i
      ·subst hki
       rw [ht] at hk
       obtain rfl := Option.some.inj hk
       simp only [if_true]
       exact hdu (by rw [hdt, if_neg (by omega)])
      ·simp only [if_neg hki]
       exact hvu k t' hk h1000
     ·have hon : listed.getD e.on false = true := by
       by_cases hji : j = i
       ·subst hji
        rw [ho'] at hj
        obtain rfl := Option.some.inj hj
        exact hall e (by simpa using he) hb
       ·rw [getD_set_ne false (fun e => hji e.symm)] at hl
        exact hcl j o' hj hl e he hb
      by_cases hoi : e.on = i
      ·rw [hoi]; simp [show i < listed.size from by omega]
      ·rw [getD_set_ne false (fun e => hoi e.symm)]
       exact hon
 refine wp_region_any hm ?_
 have hx := key l.length (List.range l.length) (Array.replicate l.length false) a0 w0.drew (fun _ => undef) (by simp) List.nodup_range (fun i => by
  rw [List.mem_range]
  constructor
  ·intro h; exact ⟨h, getD_in (by simp; omega) (getD_replicate_false _ _)⟩
  ·exact fun h => h.1) (by simp) (Mid.start _ _ _ _) (by rw [show (fun k => (Array.replicate l.length false).getD k false) = fun _ => false from funext fun k => getD_replicate_false _ _]; exact hI0) (fun _ _ _ _ => rfl) (fun j _ _ hl => by rw [getD_replicate_false] at hl; cases hl)
 simpa using hx
/-- all operations of a drawn region are met once, none hangs on another's outcome, and each leaves alone what was there -/
theorem wp_region_all {P : Program} {id : Nat} {Q : Exit → Act → World → Prop} {a0 : Act} {w0 : World} {l : List Oper} (D : List Nat) (rs : List Res) (fs : List VF)
  (hm : P.follows .mixedOrders = true) (hB : (backB l l.length && dstA D l && decide (D.Nodup)) = true) (hsz : a0.tmps.size ≤ 1000) (hg : l.all (fun o => o.guard.isNone && o.dst.isSome) = true)
  (hR : All w0 rs) (hDs : D.all (fun t => decide (t < a0.tmps.size) || decide (1000 ≤ t)) = true)
  (hop : Hops P Q D a0 (fun W => All W rs) (VF.at fs) 0 l)
  (hfin : ∀ (vs : Nat → Value) (w : World), All w rs → (∀ k, k < l.length → VF.at fs k (vs k) w) → Q .normal (putAll vs D 0 a0) w) : (Code.region id l.toArray true).wp P Q a0 w0 := by
 refine wp_region_came D (fun L vs w => All w rs ∧ ∀ k, L k = true → VF.at fs k (vs k) w) hm hB hsz ⟨hR.drew, fun k h => (by cases h)⟩ hDs ?_ (fun vs w L h hL => hfin vs w h.1 (fun k hk => h.2 k (hL k hk)))
 have key : ∀ (l' : List Oper) (k : Nat), (l'.all (fun o => o.guard.isNone && o.dst.isSome) = true) → Hops P Q D a0 (fun W => All W rs) (VF.at fs) k l' → HopsL P Q D a0 l (fun L vs w => All w rs ∧ ∀ k, L k = true → VF.at fs k (vs k) w) k l' := by
  intro l'
  induction l' with
  | nil => intro k _ _; exact trivial
  | cons o os ih =>
   intro k hall h
   rw [List.all_cons, Bool.and_eq_true, Bool.and_eq_true] at hall
   refine ⟨⟨Option.isNone_iff_eq_none.1 hall.1.1, ?_⟩, ih (k + 1) hall.2 h.2⟩
   have h1 : Hop P Q D a0 (fun W => All W rs) (VF.at fs) k o := by
    have h2 := h.1
    unfold HopG at h2
    rwa [Option.isNone_iff_eq_none.1 hall.1.1] at h2
   intro a w L vs hJ hL _ ht he K hK
   refine h1 a w hJ.1 ht (fun e he' hb => ?_) K (fun v w' hgr hv => ?_)
   ·obtain ⟨h3, h4⟩ := he e he' hb
    rw [h4]
    exact hJ.2 _ h3
   ·refine hK v w' (fun hn => by rw [hn] at hall; simp at hall) ⟨hJ.1.quiet hgr, fun j hj => ?_⟩
    show VF.at fs j (if j = k then v else vs j) w'
    by_cases hjk : j = k
    ·subst hjk; rw [if_pos rfl]; exact hv
    ·rw [if_neg hjk]
     have h5 : L j = true := by simpa [mark, hjk] using hj
     exact VF.keep hgr _ (hJ.2 j h5)
 exact key l 0 hg hop
/-- a judgement (for wp_region_cut) in which what operations i and j leave differ -/
def JTwo (i j : Nat) (rs : List Res) (fs : List VF) (L : Nat → Bool) (vs : Nat → Value) (w : World) : Prop :=
 All w rs ∧ (∀ k, L k = true → VF.at fs k (vs k) w) ∧ (L i = true → L j = true → vs i ≠ vs j)
section
variable {i j : Nat} {rs : List Res} {fs : List VF} {L : Nat → Bool} {vs : Nat → Value} {w w' : World}
theorem JTwo.start (h : All w rs) : JTwo i j rs fs (fun _ => false) (fun _ => undef) w := ⟨h, fun k hk => (by cases hk), fun hi _ => (by cases hi)⟩
theorem JTwo.facts {k : Nat} {v : Value} (h : JTwo i j rs fs L vs w) (hg : w.grownBy w' none) (hv : VF.at fs k v w') : ∀ x, markC L k x = true → VF.at fs x (if x = k then v else vs x) w' := fun x hx => by
 by_cases hxk : x = k
 ·subst hxk; rw [if_pos rfl]; exact hv
 ·rw [if_neg hxk]
  refine VF.keep hg _ (h.2.1 x ?_)
  simpa [markC, hxk] using hx
theorem JTwo.quiet {k : Nat} {v : Value} (h : JTwo i j rs fs L vs w) (hg : w.grownBy w' none) (hi : k ≠ i) (hj : k ≠ j) (hv : VF.at fs k v w') : JTwo i j rs fs (markC L k) (fun x => if x = k then v else vs x) w' := by
 refine ⟨h.1.quiet hg, h.facts hg hv, fun h1 h2 => ?_⟩
 have h3 : L i = true := by simpa [markC, Ne.symm hi] using h1
 have h4 : L j = true := by simpa [markC, Ne.symm hj] using h2
 show (if i = k then v else vs i) ≠ (if j = k then v else vs j)
 rw [if_neg (Ne.symm hi), if_neg (Ne.symm hj)]
 exact h.2.2 h3 h4
end
end Go.Adm

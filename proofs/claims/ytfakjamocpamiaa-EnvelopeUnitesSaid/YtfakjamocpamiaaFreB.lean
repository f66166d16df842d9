/- A drawn region of which each operation of the head is met once, whatever its order; guards may hang on operations that were passed over. A drawn region with a head whose operations may write: each is told which came before and what they left; the rest comes in order. -/
import Derived.Test.YtfakjamocpamiaaGen2
set_option linter.unusedSimpArgs false
set_option linter.unusedVariables false
namespace Go.Adm
open Go Go.RowKit

section
variable (P : Program) (Q : Exit → Act → World → Prop) (D : List Nat) (a0 : Act) (I : World → Prop) (Φ : Nat → Value → World → Prop)
/-- The same, where it may hang on the outcome of another: it is met, or passed over. -/
def HopH (k : Nat) (o : Oper) : Prop :=
 match o.guard with
 | none => Hop P Q D a0 I Φ k o
 | some (g, b) => ((∀ v w, Φ g v w → v = .bool b) ∧ Hop P Q D a0 I Φ k o) ∨ ((∀ v w, Φ g v w → v ≠ .bool b) ∧ ∀ w, Φ k undef w)
def HopsH : Nat → List Oper → Prop
 | _, [] => True
 | k, o :: os => HopH P Q D a0 I Φ k o ∧ HopsH (k + 1) os
theorem HopsH.at_ : ∀ {os : List Oper} {k i : Nat} {o : Oper}, HopsH P Q D a0 I Φ k os → os[i]? = some o → HopH P Q D a0 I Φ (k + i) o
 | [], _, i, _, _, hi => by simp at hi
 | x :: os, k, 0, o, h, hi => by
  obtain rfl : x = o := by simpa using hi
  exact h.1
 | x :: os, k, i + 1, o, h, hi => by
  have := HopsH.at_ (k := k + 1) (i := i) h.2 (by simpa using hi)
  rwa [show k + 1 + i = k + (i + 1) from by omega] at this
end

theorem wp_region_freeH {P : Program} {id : Nat} {Q : Exit → Act → World → Prop} {a0 : Act} {w0 : World} {l : List Oper} (n : Nat) (D : List Nat) (I : World → Prop) (Φ : Nat → Value → World → Prop)
  (hm : P.follows .mixedOrders = true)
  (hB : (Region.noSelect l.toArray && decide (n < l.length) && Region.sinkB .any l.toArray n && Region.chainB .any l.toArray n && backB l n && dstB D l n && decide (D.Nodup) && Region.seqB .any l.toArray (l.length - n) n (Array.replicate n true ++ Array.replicate (l.length - n) false)) = true)
  (hI : ∀ w w' : World, w.grownBy w' none → I w → I w') (hΦ : ∀ (k : Nat) (v : Value) (w w' : World), w.grownBy w' none → Φ k v w → Φ k v w') (hI0 : I w0.drew) (hDs : D.all (fun t => decide (t < a0.tmps.size)) = true)
  (hop : HopsH P Q D a0 I Φ 0 (l.take n))
  (hfin : ∀ (vs : Nat → Value) (w : World), I w → (∀ k, k < n → Φ k (vs k) w) → wpList P l.toArray Q (l.drop n) (putAll vs D 0 a0) w) : (Code.region id l.toArray true).wp P Q a0 w0 := by
 simp only [Bool.and_eq_true, decide_eq_true_eq] at hB
 obtain ⟨⟨⟨⟨⟨⟨⟨_, hn⟩, hs⟩, hc⟩, hback⟩, hdst⟩, hD⟩, hseq⟩ := hB
 have hdst' : (l.take n).map (·.dst) = D.map some := by simpa [dstB] using hdst
 have hDl : D.length = n := by have := congrArg List.length hdst'; simp at this; omega
 have hdsti : ∀ i o, i < n → l[i]? = some o → ∃ t, D[i]? = some t ∧ o.dst = some t := fun i o hi ho => by
  have h1 := congrArg (fun x : List (Option Tmp) => x[i]?) hdst'
  simp only [List.getElem?_map, List.getElem?_take, if_pos hi, ho, Option.map_some] at h1
  have hlt : i < D.length := by omega
  rw [List.getElem?_eq_getElem hlt] at h1 ⊢
  exact ⟨_, rfl, by simpa using h1⟩
 have hbacki : ∀ i o, i < n → l[i]? = some o → (∀ g b, o.guard = some (g, b) → g < i ∧ ∃ e ∈ o.after, Region.binds .any e = true ∧ e.on = g) ∧ ∀ e ∈ o.after, Region.binds .any e = true → e.on < i := fun i o hi ho => by
  have h1 := List.all_eq_true.1 hback (o, i) (by
   rw [List.mem_iff_getElem?]
   refine ⟨i, ?_⟩
   rw [List.getElem?_zipIdx, List.getElem?_take, if_pos hi, ho]
   simp)
  simp only [Bool.and_eq_true] at h1
  refine ⟨fun g b hg => ?_, fun e he hb => ?_⟩
  ·have h2 := h1.1
   rw [hg] at h2
   simp only [Bool.and_eq_true, decide_eq_true_eq] at h2
   obtain ⟨e, he, hb⟩ := Array.any_eq_true'.1 h2.2
   simp only [Bool.and_eq_true, beq_iff_eq] at hb
   exact ⟨h2.1, e, he, hb.1, hb.2⟩
  have h2 := Array.all_eq_true_iff_forall_mem.1 h1.2 e he
  simpa [hb] using h2
 have key : ∀ (f : Nat) (S : List Nat) (listed : Array Bool) (a : Act) (w : World) (vs : Nat → Value), S.length = f → S.Nodup → (∀ i, i ∈ S ↔ i < n ∧ listed.getD i true = false) →
   HeadInv .any l.toArray n listed → Mid D a0 a vs listed → I w → (∀ k, k < n → listed.getD k false = true → Φ k (vs k) w) → wpAny P .any l.toArray Q (f + (l.length - n)) listed a w := by
  intro f
  induction f with
  | zero =>
   intro S listed a w vs hS _ hmem inv mid hIw hP
   obtain rfl := List.eq_nil_of_length_eq_zero hS
   have hsz : listed.size = l.length := by rw [inv.size]; simp
   have hall : ∀ k, k < n → listed.getD k false = true := fun k hk => by
    cases h : listed.getD k false with
    | true => rfl
    | false => exact absurd ((hmem k).2 ⟨hk, getD_in (by omega) h⟩) (by simp)
   have hlist : listed = Array.replicate n true ++ Array.replicate (l.length - n) false := by
    apply Array.ext
    ·simp; omega
    ·intro k h1 h2
     by_cases hk : k < n
     ·have := hall k hk
      rw [Array.getElem_append_left (by simpa using hk)]
      simp [h1] at this
      simp [this]
     ·have := inv.tail k (by omega) (by simpa using (by omega : k < l.length))
      rw [Array.getElem_append_right (by simpa using hk)]
      simp [h1] at this
      simp [this]
   rw [Nat.zero_add]
   have hd := mid.done hD (fun k hk => hall k (by omega))
   subst hd
   have hx := hfin vs w hIw (fun k hk => hP k hk (hall k hk))
   have := wpAny_of_seq (md := .any) (Q' := Q) (l.drop n) n listed _ w (fun j => by simp [List.getElem?_drop]) (by rw [List.length_drop, hlist]; exact hseq) hx
   rwa [List.length_drop] at this
  | succ f ih =>
   intro S listed a w vs hS hnd hmem inv mid hIw hP
   have hsz : listed.size = l.length := by rw [inv.size]; simp
   rw [show f + 1 + (l.length - n) = f + (l.length - n) + 1 from by omega]
   have hex : ∃ i, i < n ∧ listed.getD i true = false := by
    cases S with
    | nil => simp at hS
    | cons i S => exact ⟨i, (hmem i).1 (List.mem_cons_self ..)⟩
   refine ⟨fun h0 => ?_, fun i hi => ?_⟩
   ·exfalso
    -- the least one that is not yet over is ready
    have least : ∀ m, (∃ i, i < m ∧ i < n ∧ listed.getD i true = false) → ∃ i, i < n ∧ listed.getD i true = false ∧ ∀ j, j < i → listed.getD j false = true := by
     intro m
     induction m with
     | zero => rintro ⟨i, h, _⟩; omega
     | succ m ihm =>
      rintro ⟨i, h1, h2, h3⟩
      by_cases hq : ∃ i, i < m ∧ i < n ∧ listed.getD i true = false
      ·exact ihm hq
      ·have : i = m := by
        rcases Nat.lt_succ_iff_lt_or_eq.1 h1 with h4 | h4
        ·exact absurd ⟨i, h4, h2, h3⟩ hq
        ·exact h4
       subst this
       refine ⟨i, h2, h3, fun j hj => ?_⟩
       cases h : listed.getD j false with
       | true => rfl
       | false => exact absurd ⟨j, hj, by omega, getD_in (by omega) h⟩ hq
    obtain ⟨i0, h1, h2⟩ := hex
    obtain ⟨i, hin, hun, hlow⟩ := least n ⟨i0, h1, h1, h2⟩
    have hlt : i < l.length := by omega
    have ho : l[i]? = some l[i] := List.getElem?_eq_getElem hlt
    have : i ∈ Region.ready .any l.toArray listed := mem_ready.2 ⟨hun, l[i], by simp, fun e he hb => hlow _ ((hbacki i _ hin ho).2 e he hb)⟩
    rw [h0] at this
    cases this
   ·obtain ⟨i0, h1, h2⟩ := hex
    have hin : i < n := by
     rcases Nat.lt_or_ge i n with h | h
     ·exact h
     ·exact absurd hi (tail_waits hs hc (by simpa using hn) inv _ i0 rfl h1 h2 i h)
    obtain ⟨hun, o, ho, hall⟩ := mem_ready.1 hi
    have ho' : l[i]? = some o := by simpa using ho
    obtain ⟨t, ht, hdt⟩ := hdsti i o hin ho'
    obtain ⟨hg, hbk⟩ := hbacki i o hin ho'
    have cont : ∀ v w', w.grownBy w' none → Φ i v w' → wpAny P .any l.toArray Q (f + (l.length - n)) (listed.setIfInBounds i true) (a.put (some t) v) w' := fun v w' hgr hv => by
     refine ih (S.erase i) _ _ w' (fun k => if k = i then v else vs k) (by rw [List.length_erase_of_mem ((hmem i).2 ⟨hin, hun⟩)]; omega) (hnd.erase i) (fun j => ?_) (inv.set hi hin) (mid.step hD ht (by omega) v) (hI _ _ hgr hIw) (fun k hk hl => ?_)
     ·rw [hnd.mem_erase_iff, hmem j]
      constructor
      ·rintro ⟨h6, h7, h8⟩
       exact ⟨h7, by rw [getD_set_ne true (fun e => h6 e.symm)]; exact h8⟩
      ·rintro ⟨h7, h8⟩
       by_cases hji : j = i
       ·subst hji; simp [show j < listed.size from by omega] at h8
       ·exact ⟨hji, h7, by rw [getD_set_ne true (fun e => hji e.symm)] at h8; exact h8⟩
     ·by_cases hki : k = i
      ·subst hki; rw [if_pos rfl]; exact hv
      ·rw [if_neg hki]
       rw [getD_set_ne false (fun e => hki e.symm)] at hl
       exact hΦ _ _ _ _ hgr (hP k hk hl)
    have slot : ∀ e ∈ o.after, Region.binds .any e = true → ∃ s v, D[e.on]? = some s ∧ a.tmps[s]? = some v ∧ Φ e.on v w := fun e he hb => by
     have h3 := hall e he hb
     have hlt : e.on < n := Nat.lt_trans (hbk e he hb) hin
     obtain ⟨s, hs⟩ : ∃ s, D[e.on]? = some s := ⟨_, List.getElem?_eq_getElem (by omega)⟩
     have h4 := mid.new e.on s hs
     rw [h3, if_pos rfl, if_pos (of_decide_eq_true (List.all_eq_true.1 hDs s (List.mem_of_getElem? hs)))] at h4
     exact ⟨s, _, hs, h4, hP _ hlt h3⟩
    have met : Hop P Q D a0 I Φ i o → o.wp P a w (wpAny P .any l.toArray Q (f + (l.length - n)) (listed.setIfInBounds i true)) Q := fun hh => by
     refine hh a w hIw (fun s hs => ?_) (fun e he hb => ?_) _ (fun v w' hgr hv => ?_)
     ·have := mid.old s hs
      simp only [this]
     ·obtain ⟨s, v, hs, hv, hp⟩ := slot e (by simpa using he) hb
      have h5 : D.getD e.on 0 = s := by simp [List.getD, hs]
      rw [h5, hv]
      exact hp
     ·rw [hdt]; exact cont v w' hgr hv
    have hh := HopsH.at_ P Q D a0 I Φ (k := 0) hop (i := i) (o := o) (by rw [List.getElem?_take, if_pos hin, ho'])
    rw [Nat.zero_add] at hh
    unfold wpOp
    simp only [ho]
    cases hgd : o.guard with
    | none =>
     rw [if_pos (by simp [Region.wanted, hgd])]
     unfold HopH at hh
     rw [hgd] at hh
     exact .inl (met hh)
    | some gb =>
     obtain ⟨g, b⟩ := gb
     obtain ⟨hgi, e, he, hb, heg⟩ := hg g b hgd
     obtain ⟨s, v, hs, hv, hp⟩ := slot e he hb
     rw [heg] at hs hp
     have hgl : g < l.length := by omega
     obtain ⟨s', hs', hds'⟩ := hdsti g l[g] (by omega) (List.getElem?_eq_getElem hgl)
     rw [hs] at hs'
     obtain rfl := Option.some.inj hs'
     have hy : ∀ c, v = .bool c → yielded l.toArray a.tmps g = some c := fun c hc => by
      unfold yielded
      have h6 : l.toArray[g]? = some l[g] := by simp [hgl]
      rw [h6]
      simp only [Option.bind_some, hds', hv, hc]
     unfold HopH at hh
     rw [hgd] at hh
     rcases hh with ⟨h7, h8⟩ | ⟨h7, h8⟩
     ·rw [if_pos (by simp [Region.wanted, hgd, hy b (h7 v w hp)])]
      exact .inl (met h8)
     ·have hyn : (yielded l.toArray a.tmps g == some b) = false := by
       have h6 : l.toArray[g]? = some l[g] := by simp [hgl]
       have h9 := h7 v w hp
       unfold yielded
       rw [h6]
       simp only [Option.bind_some, hds', hv]
       cases v with
       | bool c =>
        simp only [ne_eq, Value.bool.injEq] at h9
        simp [h9]
       | _ => rfl
      rw [if_neg (by simp only [Region.wanted, hgd, hyn]; decide)]
      rw [hdt]
      exact cont undef w (World.grownBy.refl w none) (h8 w)
 refine wp_region_any hm ?_
 have hx := key n (List.range n) (Array.replicate l.length false) a0 w0.drew (fun _ => undef) (by simp) List.nodup_range (fun i => by
  rw [List.mem_range]
  constructor
  ·intro h; exact ⟨h, getD_in (by simp; omega) (getD_replicate_false _ _)⟩
  ·exact fun h => h.1) ⟨by simp, fun j oj _ hl => (by rw [getD_replicate_false] at hl; cases hl), fun t _ ht => getD_in (by simp only [Array.size_replicate, List.size_toArray] at ht ⊢; exact ht) (getD_replicate_false _ _)⟩ (Mid.start _ _ _ _) hI0 (fun k _ hl => by rw [getD_replicate_false] at hl; cases hl)
 rw [show n + (l.length - n) = l.length from by omega] at hx
 simpa using hx

theorem wp_region_hopsH {P : Program} {id : Nat} {Q : Exit → Act → World → Prop} {a0 : Act} {w0 : World} {l : List Oper} (n : Nat) (D : List Nat) (rs : List Res) (fs : List VF)
  (hm : P.follows .mixedOrders = true)
  (hB : (Region.noSelect l.toArray && decide (n < l.length) && Region.sinkB .any l.toArray n && Region.chainB .any l.toArray n && backB l n && dstB D l n && decide (D.Nodup) && Region.seqB .any l.toArray (l.length - n) n (Array.replicate n true ++ Array.replicate (l.length - n) false)) = true)
  (hR : All w0 rs) (hDs : D.all (fun t => decide (t < a0.tmps.size)) = true)
  (hop : HopsH P Q D a0 (fun W => All W rs) (VF.at fs) 0 (l.take n))
  (hfin : ∀ (vs : Nat → Value) (w : World), All w rs → (∀ k, k < n → VF.at fs k (vs k) w) → wpList P l.toArray Q (l.drop n) (putAll vs D 0 a0) w) : (Code.region id l.toArray true).wp P Q a0 w0 :=
 wp_region_freeH n D (fun W => All W rs) (VF.at fs) hm hB (fun _ _ hg h => h.quiet hg) (fun _ _ _ _ hg h => VF.keep hg _ h) hR.drew hDs hop hfin
end Go.Adm
set_option linter.unusedSimpArgs false
set_option linter.unusedVariables false
set_option maxRecDepth 100000
namespace Go.Adm
open Go Go.RowKit
def markC (L : Nat → Bool) (k : Nat) : Nat → Bool := fun i => if i = k then true else L i
section
variable (P : Program) (Q : Exit → Act → World → Prop) (D : List Nat) (a0 : Act) (J : (Nat → Bool) → (Nat → Value) → World → Prop)
/-- one operation: L tells which have been, vs what they left -/
def HopC (k : Nat) (o : Oper) : Prop :=
 o.guard = none ∧ ∀ (a : Act) (w : World) (L : Nat → Bool) (vs : Nat → Value), J L vs w → L k = false →
  (∀ t, D.contains t = false → a.tmps[t]?.getD undef = a0.tmps[t]?.getD undef) →
  (∀ e ∈ o.after.toList, Region.binds .any e = true → L e.on = true ∧ a.tmps[D.getD e.on 0]?.getD undef = vs e.on) →
  ∀ K : Act → World → Prop, (∀ v w', J (markC L k) (fun i => if i = k then v else vs i) w' → K (a.put o.dst v) w') → o.wp P a w K Q
def HopsC : Nat → List Oper → Prop
 | _, [] => True
 | k, o :: os => HopC P Q D a0 J k o ∧ HopsC (k + 1) os
theorem HopsC.at_ : ∀ {os : List Oper} {k i : Nat} {o : Oper}, HopsC P Q D a0 J k os → os[i]? = some o → HopC P Q D a0 J (k + i) o
 | [], _, i, _, _, hi => by simp at hi
 | x :: os, k, 0, o, h, hi => by
  obtain rfl : x = o := by simpa using hi
  exact h.1
 | x :: os, k, i + 1, o, h, hi => by
  have := HopsC.at_ (k := k + 1) (i := i) h.2 (by simpa using hi)
  rwa [show k + 1 + i = k + (i + 1) from by omega] at this
end
theorem wp_region_cut {P : Program} {id : Nat} {Q : Exit → Act → World → Prop} {a0 : Act} {w0 : World} {l : List Oper} (n : Nat) (D : List Nat) (J : (Nat → Bool) → (Nat → Value) → World → Prop)
  (hm : P.follows .mixedOrders = true)
  (hB : (Region.noSelect l.toArray && decide (n < l.length) && Region.sinkB .any l.toArray n && Region.chainB .any l.toArray n && backB l n && dstB D l n && decide (D.Nodup) && Region.seqB .any l.toArray (l.length - n) n (Array.replicate n true ++ Array.replicate (l.length - n) false)) = true)
  (hI0 : J (fun _ => false) (fun _ => undef) w0.drew) (hDs : D.all (fun t => decide (t < a0.tmps.size)) = true)
  (hop : HopsC P Q D a0 J 0 (l.take n))
  (hfin : ∀ (vs : Nat → Value) (w : World) (L : Nat → Bool), J L vs w → (∀ k, k < n → L k = true) → wpList P l.toArray Q (l.drop n) (putAll vs D 0 a0) w) : (Code.region id l.toArray true).wp P Q a0 w0 := by
 simp only [Bool.and_eq_true, decide_eq_true_eq] at hB
 obtain ⟨⟨⟨⟨⟨⟨⟨_, hn⟩, hs⟩, hc⟩, hback⟩, hdst⟩, hD⟩, hseq⟩ := hB
 have hdst' : (l.take n).map (·.dst) = D.map some := by simpa [dstB] using hdst
 have hDl : D.length = n := by have := congrArg List.length hdst'; simp at this; omega
 have hdsti : ∀ i o, i < n → l[i]? = some o → ∃ t, D[i]? = some t ∧ o.dst = some t := fun i o hi ho => by
  have h1 := congrArg (fun x : List (Option Tmp) => x[i]?) hdst'
  simp only [List.getElem?_map, List.getElem?_take, if_pos hi, ho, Option.map_some] at h1
  have hlt : i < D.length := by omega
  rw [List.getElem?_eq_getElem hlt] at h1 ⊢
  exact ⟨_, rfl, by simpa using h1⟩
 have hbacki : ∀ i o, i < n → l[i]? = some o → (∀ g b, o.guard = some (g, b) → g < i ∧ ∃ e ∈ o.after, Region.binds .any e = true ∧ e.on = g) ∧ ∀ e ∈ o.after, Region.binds .any e = true → e.on < i := fun i o hi ho => by
  have h1 := List.all_eq_true.1 hback (o, i) (by
   rw [List.mem_iff_getElem?]
   refine ⟨i, ?_⟩
   rw [List.getElem?_zipIdx, List.getElem?_take, if_pos hi, ho]
   simp)
  simp only [Bool.and_eq_true] at h1
  refine ⟨fun g b hg => ?_, fun e he hb => ?_⟩
  ·have h2 := h1.1
   rw [hg] at h2
   simp only [Bool.and_eq_true, decide_eq_true_eq] at h2
   obtain ⟨e, he, hb⟩ := Array.any_eq_true'.1 h2.2
   simp only [Bool.and_eq_true, beq_iff_eq] at hb
   exact ⟨h2.1, e, he, hb.1, hb.2⟩
  have h2 := Array.all_eq_true_iff_forall_mem.1 h1.2 e he
  simpa [hb] using h2
 have key : ∀ (f : Nat) (S : List Nat) (listed : Array Bool) (a : Act) (w : World) (vs : Nat → Value), S.length = f → S.Nodup → (∀ i, i ∈ S ↔ i < n ∧ listed.getD i true = false) →
   HeadInv .any l.toArray n listed → Mid D a0 a vs listed → J (fun k => listed.getD k false) vs w → wpAny P .any l.toArray Q (f + (l.length - n)) listed a w := by
  intro f
  induction f with
  | zero =>
   intro S listed a w vs hS _ hmem inv mid hIw
   obtain rfl := List.eq_nil_of_length_eq_zero hS
   have hsz : listed.size = l.length := by rw [inv.size]; simp
   have hall : ∀ k, k < n → listed.getD k false = true := fun k hk => by
    cases h : listed.getD k false with
    | true => rfl
    | false => exact absurd ((hmem k).2 ⟨hk, getD_in (by omega) h⟩) (by simp)
   have hlist : listed = Array.replicate n true ++ Array.replicate (l.length - n) false := by
    apply Array.ext
    ·simp; omega
    ·intro k h1 h2
     by_cases hk : k < n
     ·have := hall k hk
      rw [Array.getElem_append_left (by simpa using hk)]
      simp [h1] at this
      simp [this]
     ·have := inv.tail k (by omega) (by simpa using (by omega : k < l.length))
      rw [Array.getElem_append_right (by simpa using hk)]
      simp [h1] at this
      simp [this]
   rw [Nat.zero_add]
   have hd := mid.done hD (fun k hk => hall k (by omega))
   subst hd
   have hx := hfin vs w _ hIw hall
   have := wpAny_of_seq (md := .any) (Q' := Q) (l.drop n) n listed _ w (fun j => by simp [List.getElem?_drop]) (by rw [List.length_drop, hlist]; exact hseq) hx
   rwa [List.length_drop] at this
  | succ f ih =>
   intro S listed a w vs hS hnd hmem inv mid hIw
   have hsz : listed.size = l.length := by rw [inv.size]; simp
   rw [show f + 1 + (l.length - n) = f + (l.length - n) + 1 from by omega]
   have hex : ∃ i, i < n ∧ listed.getD i true = false := by
    cases S with
    | nil => simp at hS
    | cons i S => exact ⟨i, (hmem i).1 (List.mem_cons_self ..)⟩
   refine ⟨fun h0 => ?_, fun i hi => ?_⟩
   ·exfalso
    -- the least one that is not yet over is ready
    have least : ∀ m, (∃ i, i < m ∧ i < n ∧ listed.getD i true = false) → ∃ i, i < n ∧ listed.getD i true = false ∧ ∀ j, j < i → listed.getD j false = true := by
     intro m
     induction m with
     | zero => rintro ⟨i, h, _⟩; omega
     | succ m ihm =>
      rintro ⟨i, h1, h2, h3⟩
      by_cases hq : ∃ i, i < m ∧ i < n ∧ listed.getD i true = false
      ·exact ihm hq
      ·have : i = m := by
        rcases Nat.lt_succ_iff_lt_or_eq.1 h1 with h4 | h4
        ·exact absurd ⟨i, h4, h2, h3⟩ hq
        ·exact h4
       subst this
       refine ⟨i, h2, h3, fun j hj => ?_⟩
       cases h : listed.getD j false with
       | true => rfl
       | false => exact absurd ⟨j, hj, by omega, getD_in (by omega) h⟩ hq
    obtain ⟨i0, h1, h2⟩ := hex
    obtain ⟨i, hin, hun, hlow⟩ := least n ⟨i0, h1, h1, h2⟩
    have hlt : i < l.length := by omega
    have ho : l[i]? = some l[i] := List.getElem?_eq_getElem hlt
    have : i ∈ Region.ready .any l.toArray listed := mem_ready.2 ⟨hun, l[i], by simp, fun e he hb => hlow _ ((hbacki i _ hin ho).2 e he hb)⟩
    rw [h0] at this
    cases this
   ·obtain ⟨i0, h1, h2⟩ := hex
    have hin : i < n := by
     rcases Nat.lt_or_ge i n with h | h
     ·exact h
     ·exact absurd hi (tail_waits hs hc (by simpa using hn) inv _ i0 rfl h1 h2 i h)
    obtain ⟨hun, o, ho, hall⟩ := mem_ready.1 hi
    have ho' : l[i]? = some o := by simpa using ho
    obtain ⟨t, ht, hdt⟩ := hdsti i o hin ho'
    obtain ⟨hg, hbk⟩ := hbacki i o hin ho'
    have hmk : (fun k => (listed.setIfInBounds i true).getD k false) = markC (fun k => listed.getD k false) i := by
     funext k
     unfold markC
     by_cases hki : k = i
     ·subst hki; rw [if_pos rfl]; simp [show k < listed.size from by omega]
     ·rw [if_neg hki, getD_set_ne false (fun e => hki e.symm)]
    have cont : ∀ v w', J (markC (fun k => listed.getD k false) i) (fun k => if k = i then v else vs k) w' → wpAny P .any l.toArray Q (f + (l.length - n)) (listed.setIfInBounds i true) (a.put (some t) v) w' := fun v w' hJ' => by
     refine ih (S.erase i) _ _ w' (fun k => if k = i then v else vs k) (by rw [List.length_erase_of_mem ((hmem i).2 ⟨hin, hun⟩)]; omega) (hnd.erase i) (fun j => ?_) (inv.set hi hin) (mid.step hD ht (by omega) v) (by rw [hmk]; exact hJ')
     rw [hnd.mem_erase_iff, hmem j]
     constructor
     ·rintro ⟨h6, h7, h8⟩
      exact ⟨h7, by rw [getD_set_ne true (fun e => h6 e.symm)]; exact h8⟩
     ·rintro ⟨h7, h8⟩
      by_cases hji : j = i
      ·subst hji; simp [show j < listed.size from by omega] at h8
      ·exact ⟨hji, h7, by rw [getD_set_ne true (fun e => hji e.symm)] at h8; exact h8⟩
    obtain ⟨hgd, hh⟩ := HopsC.at_ P Q D a0 J (k := 0) hop (i := i) (o := o) (by rw [List.getElem?_take, if_pos hin, ho'])
    rw [Nat.zero_add] at hh
    unfold wpOp
    simp only [ho]
    rw [if_pos (by simp [Region.wanted, hgd])]
    refine Or.inl (hh a w _ vs hIw ?_ (fun s hs => ?_) (fun e he hb => ?_) _ (fun v w' hI' => ?_))
    ·show listed.getD i false = false
     cases h : listed.getD i false with
     | false => rfl
     | true =>
      have h9 : i < listed.size := by omega
      rw [show listed.getD i false = listed[i] from by simp [h9]] at h
      rw [show listed.getD i true = listed[i] from by simp [h9], h] at hun
      cases hun
    ·have := mid.old s hs
     simp only [this]
    ·have he' : e ∈ o.after := by simpa using he
     have h3 := hall e he' hb
     have hlt : e.on < n := Nat.lt_trans (hbk e he' hb) hin
     refine ⟨h3, ?_⟩
     obtain ⟨s, hs⟩ : ∃ s, D[e.on]? = some s := ⟨_, List.getElem?_eq_getElem (by omega)⟩
     have h4 := mid.new e.on s hs
     rw [h3, if_pos rfl, if_pos (of_decide_eq_true (List.all_eq_true.1 hDs s (List.mem_of_getElem? hs)))] at h4
     have h5 : D.getD e.on 0 = s := by simp [List.getD, hs]
     rw [h5, h4]; rfl
    ·rw [hdt]; exact cont v w' hI'
 refine wp_region_any hm ?_
 have hx := key n (List.range n) (Array.replicate l.length false) a0 w0.drew (fun _ => undef) (by simp) List.nodup_range (fun i => by
  rw [List.mem_range]
  constructor
  ·intro h; exact ⟨h, getD_in (by simp; omega) (getD_replicate_false _ _)⟩
  ·exact fun h => h.1) ⟨by simp, fun j oj _ hl => (by rw [getD_replicate_false] at hl; cases hl), fun t _ ht => getD_in (by simp only [Array.size_replicate, List.size_toArray] at ht ⊢; exact ht) (getD_replicate_false _ _)⟩ (Mid.start _ _ _ _) (by rw [show (fun k => (Array.replicate l.length false).getD k false) = fun _ => false from by funext k; exact getD_replicate_false _ _]; exact hI0)
 rw [show n + (l.length - n) = l.length from by omega] at hx
 simpa using hx
/-- a judgement with one writer q: what it makes stale is no longer claimed after it -/
def JW (q : Nat) (bad : List Nat) (rs : List Res) (fs : List VF) (L : Nat → Bool) (vs : Nat → Value) (w : World) : Prop :=
 All w rs ∧ ∀ k, L k = true → (L q = true → bad.contains k = false) → VF.at fs k (vs k) w
theorem JW.start {q : Nat} {bad : List Nat} {rs : List Res} {fs : List VF} {w : World} (h : All w rs) : JW q bad rs fs (fun _ => false) (fun _ => undef) w := ⟨h, fun k hk => by cases hk⟩
theorem JW.get {q : Nat} {bad : List Nat} {rs : List Res} {fs : List VF} {L : Nat → Bool} {vs : Nat → Value} {w : World} (h : JW q bad rs fs L vs w) {k : Nat} (hk : L k = true) (hb : L q = true → bad.contains k = false) : VF.at fs k (vs k) w := h.2 k hk hb
theorem JW.quiet {q : Nat} {bad : List Nat} {rs : List Res} {fs : List VF} {L : Nat → Bool} {vs : Nat → Value} {w w' : World} {k : Nat} {v : Value} (h : JW q bad rs fs L vs w) (hg : w.grownBy w' none) (hq : k ≠ q) (hv : VF.at fs k v w') :
  JW q bad rs fs (markC L k) (fun i => if i = k then v else vs i) w' := by
 refine ⟨h.1.quiet hg, fun j hj hb => ?_⟩
 have hLq : markC L k q = L q := by unfold markC; rw [if_neg (fun e => hq e.symm)]
 rw [hLq] at hb
 by_cases hjk : j = k
 ·subst hjk; simp only [if_pos rfl]; exact hv
 ·simp only [if_neg hjk]
  have hLj : markC L k j = L j := by unfold markC; rw [if_neg hjk]
  rw [hLj] at hj
  exact VF.keep hg _ (h.2 j hj hb)
theorem JW.write {q : Nat} {bad : List Nat} {rs : List Res} {fs : List VF} {L : Nat → Bool} {vs : Nat → Value} {w w' : World} {v : Value} (h : JW q bad rs fs L vs w) (hw : All w' rs) (hLq : L q = false)
  (hs : ∀ j u, bad.contains j = false → j ≠ q → VF.at fs j u w → VF.at fs j u w') (hv : VF.at fs q v w') :
  JW q bad rs fs (markC L q) (fun i => if i = q then v else vs i) w' := by
 refine ⟨hw, fun j hj hb => ?_⟩
 by_cases hjk : j = q
 ·subst hjk; simp only [if_pos rfl]; exact hv
 ·simp only [if_neg hjk]
  have hLj : markC L q j = L j := by unfold markC; rw [if_neg hjk]
  rw [hLj] at hj
  exact hs j _ (hb (by unfold markC; rw [if_pos rfl])) hjk (h.2 j hj (fun e => by rw [hLq] at e; cases e))
def JIns (rs : List Res) (fs : List VF) (O0 : World → Prop) (s0 : Nat) (L : Nat → Bool) (vs : Nat → Value) (w : World) : Prop :=
 JW 3 [2] rs fs L vs w ∧ s0 ≤ w.heap.size ∧ (L 3 = false → O0 w)
section
variable {s0 : Nat} {rs : List Res} {fs : List VF} {O0 : World → Prop} {L : Nat → Bool} {vs : Nat → Value} {w w' : World}
theorem JIns.quiet {k : Nat} {v : Value} (h : JIns rs fs O0 s0 L vs w) (hg : w.grownBy w' none) (h3 : k ≠ 3) (hO : O0 w → O0 w') (hv : VF.at fs k v w') :
  JIns rs fs O0 s0 (markC L k) (fun i => if i = k then v else vs i) w' := by
 refine ⟨h.1.quiet hg h3 hv, Nat.le_trans h.2.1 hg.size, fun h1 => hO (h.2.2 (by simpa [markC, Ne.symm h3] using h1))⟩
theorem JIns.write {v : Value} {row : Option Nat} (h : JIns rs fs O0 s0 L vs w) (hg : w.grownBy w' row) (ha : Apart row rs) (hL : L 3 = false)
  (hs : ∀ j u, [2].contains j = false → j ≠ 3 → VF.at fs j u w → VF.at fs j u w') (hv : VF.at fs 3 v w') :
  JIns rs fs O0 s0 (markC L 3) (fun i => if i = 3 then v else vs i) w' :=
 ⟨h.1.write (h.1.1.step hg ha) hL hs hv, Nat.le_trans h.2.1 hg.size, fun h1 => by simp [markC] at h1⟩
end
end Go.Adm

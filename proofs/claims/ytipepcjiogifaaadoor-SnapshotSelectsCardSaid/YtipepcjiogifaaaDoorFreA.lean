/- A drawn region of which each operation of the head is met once, whatever its order; guards may hang on operations that were passed over. A drawn region in a round of a range over a function: each operation of the head is met once, whatever its order. Operations of a round, one after the other: loads, literals, stores of several cells. A drawn region in a round, all operations of which are met once, whatever the order; some may store. A drawn region that stores: each operation met once, told which came before and which did not yet; all slots' values are known. A store of a whole element into a row of the call's own. A drawn region with a head whose operations may write: each is told which came before and what they left; the rest comes in order. A drawn region with a head whose operations may turn the tape: each is told what it reads; the rest comes in order. -/
import Derived.Test.YtipepcjiogifaaaDoorGen2
set_option linter.unusedSimpArgs false
set_option linter.unusedVariables false
namespace Go.Adm
open Go Go.RowKit

section
variable (P : Program) (Q : Exit → Act → World → Prop) (D : List Nat) (a0 : Act) (I : World → Prop) (Φ : Nat → Value → World → Prop)
/-- The same, where it may hang on the outcome of another: it is met, or passed over. -/
def HopH (k : Nat) (o : Oper) : Prop :=
  match o.guard with
  | none => Hop P Q D a0 I Φ k o
  | some (g, b) => ((∀ v w, Φ g v w → v = .bool b) ∧ Hop P Q D a0 I Φ k o) ∨ ((∀ v w, Φ g v w → v ≠ .bool b) ∧ ∀ w, Φ k undef w)
def HopsH : Nat → List Oper → Prop
  | _, [] => True
  | k, o :: os => HopH P Q D a0 I Φ k o ∧ HopsH (k + 1) os
theorem HopsH.at_ : ∀ {os : List Oper} {k i : Nat} {o : Oper}, HopsH P Q D a0 I Φ k os → os[i]? = some o → HopH P Q D a0 I Φ (k + i) o
  | [], _, i, _, _, hi => by simp at hi
  | x :: os, k, 0, o, h, hi => by
    obtain rfl : x = o := by simpa using hi
    exact h.1
  | x :: os, k, i + 1, o, h, hi => by
    have := HopsH.at_ (k := k + 1) (i := i) h.2 (by simpa using hi)
    rwa [show k + 1 + i = k + (i + 1) from by omega] at this
end

theorem wp_region_freeH {P : Program} {id : Nat} {Q : Exit → Act → World → Prop} {a0 : Act} {w0 : World} {l : List Oper} (n : Nat) (D : List Nat) (I : World → Prop) (Φ : Nat → Value → World → Prop)
    (hm : P.follows .mixedOrders = true)
    (hB : (Region.noSelect l.toArray && decide (n < l.length) && Region.sinkB .any l.toArray n && Region.chainB .any l.toArray n && backB l n && dstB D l n && decide (D.Nodup) && Region.seqB .any l.toArray (l.length - n) n (Array.replicate n true ++ Array.replicate (l.length - n) false)) = true)
    (hI : ∀ w w' : World, w.grownBy w' none → I w → I w') (hΦ : ∀ (k : Nat) (v : Value) (w w' : World), w.grownBy w' none → Φ k v w → Φ k v w') (hI0 : I w0.drew) (hDs : D.all (fun t => decide (t < a0.tmps.size)) = true)
    (hop : HopsH P Q D a0 I Φ 0 (l.take n))
    (hfin : ∀ (vs : Nat → Value) (w : World), I w → (∀ k, k < n → Φ k (vs k) w) → wpList P l.toArray Q (l.drop n) (putAll vs D 0 a0) w) : (Code.region id l.toArray true).wp P Q a0 w0 := by
  simp only [Bool.and_eq_true, decide_eq_true_eq] at hB
  obtain ⟨⟨⟨⟨⟨⟨⟨_, hn⟩, hs⟩, hc⟩, hback⟩, hdst⟩, hD⟩, hseq⟩ := hB
  have hdst' : (l.take n).map (·.dst) = D.map some := by simpa [dstB] using hdst
  have hDl : D.length = n := by have := congrArg List.length hdst'; simp at this; omega
  have hdsti : ∀ i o, i < n → l[i]? = some o → ∃ t, D[i]? = some t ∧ o.dst = some t := fun i o hi ho => by
    have h1 := congrArg (fun x : List (Option Tmp) => x[i]?) hdst'
    simp only [List.getElem?_map, List.getElem?_take, if_pos hi, ho, Option.map_some] at h1
    have hlt : i < D.length := by omega
    rw [List.getElem?_eq_getElem hlt] at h1 ⊢
    exact ⟨_, rfl, by simpa using h1⟩
  have hbacki : ∀ i o, i < n → l[i]? = some o → (∀ g b, o.guard = some (g, b) → g < i ∧ ∃ e ∈ o.after, Region.binds .any e = true ∧ e.on = g) ∧ ∀ e ∈ o.after, Region.binds .any e = true → e.on < i := fun i o hi ho => by
    have h1 := List.all_eq_true.1 hback (o, i) (by
      rw [List.mem_iff_getElem?]
      refine ⟨i, ?_⟩
      rw [List.getElem?_zipIdx, List.getElem?_take, if_pos hi, ho]
      simp)
    simp only [Bool.and_eq_true] at h1
    refine ⟨fun g b hg => ?_, fun e he hb => ?_⟩
    · have h2 := h1.1
      rw [hg] at h2
      simp only [Bool.and_eq_true, decide_eq_true_eq] at h2
      obtain ⟨e, he, hb⟩ := Array.any_eq_true'.1 h2.2
      simp only [Bool.and_eq_true, beq_iff_eq] at hb
      exact ⟨h2.1, e, he, hb.1, hb.2⟩
    have h2 := Array.all_eq_true_iff_forall_mem.1 h1.2 e he
    simpa [hb] using h2
  have key : ∀ (f : Nat) (S : List Nat) (listed : Array Bool) (a : Act) (w : World) (vs : Nat → Value), S.length = f → S.Nodup → (∀ i, i ∈ S ↔ i < n ∧ listed.getD i true = false) →
      HeadInv .any l.toArray n listed → Mid D a0 a vs listed → I w → (∀ k, k < n → listed.getD k false = true → Φ k (vs k) w) → wpAny P .any l.toArray Q (f + (l.length - n)) listed a w := by
    intro f
    induction f with
    | zero =>
      intro S listed a w vs hS _ hmem inv mid hIw hP
      obtain rfl := List.eq_nil_of_length_eq_zero hS
      have hsz : listed.size = l.length := by rw [inv.size]; simp
      have hall : ∀ k, k < n → listed.getD k false = true := fun k hk => by
        cases h : listed.getD k false with
        | true => rfl
        | false => exact absurd ((hmem k).2 ⟨hk, getD_in (by omega) h⟩) (by simp)
      have hlist : listed = Array.replicate n true ++ Array.replicate (l.length - n) false := by
        apply Array.ext
        · simp; omega
        · intro k h1 h2
          by_cases hk : k < n
          · have := hall k hk
            rw [Array.getElem_append_left (by simpa using hk)]
            simp [h1] at this
            simp [this]
          · have := inv.tail k (by omega) (by simpa using (by omega : k < l.length))
            rw [Array.getElem_append_right (by simpa using hk)]
            simp [h1] at this
            simp [this]
      rw [Nat.zero_add]
      have hd := mid.done hD (fun k hk => hall k (by omega))
      subst hd
      have hx := hfin vs w hIw (fun k hk => hP k hk (hall k hk))
      have := wpAny_of_seq (md := .any) (Q' := Q) (l.drop n) n listed _ w (fun j => by simp [List.getElem?_drop]) (by rw [List.length_drop, hlist]; exact hseq) hx
      rwa [List.length_drop] at this
    | succ f ih =>
      intro S listed a w vs hS hnd hmem inv mid hIw hP
      have hsz : listed.size = l.length := by rw [inv.size]; simp
      rw [show f + 1 + (l.length - n) = f + (l.length - n) + 1 from by omega]
      have hex : ∃ i, i < n ∧ listed.getD i true = false := by
        cases S with
        | nil => simp at hS
        | cons i S => exact ⟨i, (hmem i).1 (List.mem_cons_self ..)⟩
      refine ⟨fun h0 => ?_, fun i hi => ?_⟩
      · exfalso
        -- the least one that is not yet over is ready
        have least : ∀ m, (∃ i, i < m ∧ i < n ∧ listed.getD i true = false) → ∃ i, i < n ∧ listed.getD i true = false ∧ ∀ j, j < i → listed.getD j false = true := by
          intro m
          induction m with
          | zero => rintro ⟨i, h, _⟩; omega
          | succ m ihm =>
            rintro ⟨i, h1, h2, h3⟩
            by_cases hq : ∃ i, i < m ∧ i < n ∧ listed.getD i true = false
            · exact ihm hq
            · have : i = m := by
                rcases Nat.lt_succ_iff_lt_or_eq.1 h1 with h4 | h4
                · exact absurd ⟨i, h4, h2, h3⟩ hq
                · exact h4
              subst this
              refine ⟨i, h2, h3, fun j hj => ?_⟩
              cases h : listed.getD j false with
              | true => rfl
              | false => exact absurd ⟨j, hj, by omega, getD_in (by omega) h⟩ hq
        obtain ⟨i0, h1, h2⟩ := hex
        obtain ⟨i, hin, hun, hlow⟩ := least n ⟨i0, h1, h1, h2⟩
        have hlt : i < l.length := by omega
        have ho : l[i]? = some l[i] := List.getElem?_eq_getElem hlt
        have : i ∈ Region.ready .any l.toArray listed := mem_ready.2 ⟨hun, l[i], by simp, fun e he hb => hlow _ ((hbacki i _ hin ho).2 e he hb)⟩
        rw [h0] at this
        cases this
      · obtain ⟨i0, h1, h2⟩ := hex
        have hin : i < n := by
          rcases Nat.lt_or_ge i n with h | h
          · exact h
          · exact absurd hi (tail_waits hs hc (by simpa using hn) inv _ i0 rfl h1 h2 i h)
        obtain ⟨hun, o, ho, hall⟩ := mem_ready.1 hi
        have ho' : l[i]? = some o := by simpa using ho
        obtain ⟨t, ht, hdt⟩ := hdsti i o hin ho'
        obtain ⟨hg, hbk⟩ := hbacki i o hin ho'
        have cont : ∀ v w', w.grownBy w' none → Φ i v w' → wpAny P .any l.toArray Q (f + (l.length - n)) (listed.setIfInBounds i true) (a.put (some t) v) w' := fun v w' hgr hv => by
          refine ih (S.erase i) _ _ w' (fun k => if k = i then v else vs k) (by rw [List.length_erase_of_mem ((hmem i).2 ⟨hin, hun⟩)]; omega) (hnd.erase i) (fun j => ?_) (inv.set hi hin) (mid.step hD ht (by omega) v) (hI _ _ hgr hIw) (fun k hk hl => ?_)
          · rw [hnd.mem_erase_iff, hmem j]
            constructor
            · rintro ⟨h6, h7, h8⟩
              exact ⟨h7, by rw [getD_set_ne true (fun e => h6 e.symm)]; exact h8⟩
            · rintro ⟨h7, h8⟩
              by_cases hji : j = i
              · subst hji; simp [show j < listed.size from by omega] at h8
              · exact ⟨hji, h7, by rw [getD_set_ne true (fun e => hji e.symm)] at h8; exact h8⟩
          · by_cases hki : k = i
            · subst hki; rw [if_pos rfl]; exact hv
            · rw [if_neg hki]
              rw [getD_set_ne false (fun e => hki e.symm)] at hl
              exact hΦ _ _ _ _ hgr (hP k hk hl)
        have slot : ∀ e ∈ o.after, Region.binds .any e = true → ∃ s v, D[e.on]? = some s ∧ a.tmps[s]? = some v ∧ Φ e.on v w := fun e he hb => by
          have h3 := hall e he hb
          have hlt : e.on < n := Nat.lt_trans (hbk e he hb) hin
          obtain ⟨s, hs⟩ : ∃ s, D[e.on]? = some s := ⟨_, List.getElem?_eq_getElem (by omega)⟩
          have h4 := mid.new e.on s hs
          rw [h3, if_pos rfl, if_pos (of_decide_eq_true (List.all_eq_true.1 hDs s (List.mem_of_getElem? hs)))] at h4
          exact ⟨s, _, hs, h4, hP _ hlt h3⟩
        have met : Hop P Q D a0 I Φ i o → o.wp P a w (wpAny P .any l.toArray Q (f + (l.length - n)) (listed.setIfInBounds i true)) Q := fun hh => by
          refine hh a w hIw (fun s hs => ?_) (fun e he hb => ?_) _ (fun v w' hgr hv => ?_)
          · have := mid.old s hs
            simp only [this]
          · obtain ⟨s, v, hs, hv, hp⟩ := slot e (by simpa using he) hb
            have h5 : D.getD e.on 0 = s := by simp [List.getD, hs]
            rw [h5, hv]
            exact hp
          · rw [hdt]; exact cont v w' hgr hv
        have hh := HopsH.at_ P Q D a0 I Φ (k := 0) hop (i := i) (o := o) (by rw [List.getElem?_take, if_pos hin, ho'])
        rw [Nat.zero_add] at hh
        unfold wpOp
        simp only [ho]
        cases hgd : o.guard with
        | none =>
          rw [if_pos (by simp [Region.wanted, hgd])]
          unfold HopH at hh
          rw [hgd] at hh
          exact .inl (met hh)
        | some gb =>
          obtain ⟨g, b⟩ := gb
          obtain ⟨hgi, e, he, hb, heg⟩ := hg g b hgd
          obtain ⟨s, v, hs, hv, hp⟩ := slot e he hb
          rw [heg] at hs hp
          have hgl : g < l.length := by omega
          obtain ⟨s', hs', hds'⟩ := hdsti g l[g] (by omega) (List.getElem?_eq_getElem hgl)
          rw [hs] at hs'
          obtain rfl := Option.some.inj hs'
          have hy : ∀ c, v = .bool c → yielded l.toArray a.tmps g = some c := fun c hc => by
            unfold yielded
            have h6 : l.toArray[g]? = some l[g] := by simp [hgl]
            rw [h6]
            simp only [Option.bind_some, hds', hv, hc]
          unfold HopH at hh
          rw [hgd] at hh
          rcases hh with ⟨h7, h8⟩ | ⟨h7, h8⟩
          · rw [if_pos (by simp [Region.wanted, hgd, hy b (h7 v w hp)])]
            exact .inl (met h8)
          · have hyn : (yielded l.toArray a.tmps g == some b) = false := by
              have h6 : l.toArray[g]? = some l[g] := by simp [hgl]
              have h9 := h7 v w hp
              unfold yielded
              rw [h6]
              simp only [Option.bind_some, hds', hv]
              cases v with
              | bool c =>
                simp only [ne_eq, Value.bool.injEq] at h9
                simp [h9]
              | _ => rfl
            rw [if_neg (by simp only [Region.wanted, hgd, hyn]; decide)]
            rw [hdt]
            exact cont undef w (World.grownBy.refl w none) (h8 w)
  refine wp_region_any hm ?_
  have hx := key n (List.range n) (Array.replicate l.length false) a0 w0.drew (fun _ => undef) (by simp) List.nodup_range (fun i => by
    rw [List.mem_range]
    constructor
    · intro h; exact ⟨h, getD_in (by simp; omega) (getD_replicate_false _ _)⟩
    · exact fun h => h.1) ⟨by simp, fun j oj _ hl => (by rw [getD_replicate_false] at hl; cases hl), fun t _ ht => getD_in (by simp only [Array.size_replicate, List.size_toArray] at ht ⊢; exact ht) (getD_replicate_false _ _)⟩ (Mid.start _ _ _ _) hI0 (fun k _ hl => by rw [getD_replicate_false] at hl; cases hl)
  rw [show n + (l.length - n) = l.length from by omega] at hx
  simpa using hx

theorem wp_region_hopsH {P : Program} {id : Nat} {Q : Exit → Act → World → Prop} {a0 : Act} {w0 : World} {l : List Oper} (n : Nat) (D : List Nat) (rs : List Res) (fs : List VF)
    (hm : P.follows .mixedOrders = true)
    (hB : (Region.noSelect l.toArray && decide (n < l.length) && Region.sinkB .any l.toArray n && Region.chainB .any l.toArray n && backB l n && dstB D l n && decide (D.Nodup) && Region.seqB .any l.toArray (l.length - n) n (Array.replicate n true ++ Array.replicate (l.length - n) false)) = true)
    (hR : All w0 rs) (hDs : D.all (fun t => decide (t < a0.tmps.size)) = true)
    (hop : HopsH P Q D a0 (fun W => All W rs) (VF.at fs) 0 (l.take n))
    (hfin : ∀ (vs : Nat → Value) (w : World), All w rs → (∀ k, k < n → VF.at fs k (vs k) w) → wpList P l.toArray Q (l.drop n) (putAll vs D 0 a0) w) : (Code.region id l.toArray true).wp P Q a0 w0 :=
  wp_region_freeH n D (fun W => All W rs) (VF.at fs) hm hB (fun _ _ hg h => h.quiet hg) (fun _ _ _ _ hg h => VF.keep hg _ h) hR.drew hDs hop hfin
end Go.Adm
set_option linter.unusedSimpArgs false
set_option linter.unusedVariables false
namespace Go.Adm
open Go Go.RowKit

theorem wpAnyIn_of_seq {F : Fence} {nF : Nat} {P : Program} {ops : Array Oper} {md : Region.Mode} {Q' : Exit → Act → World → Prop} : ∀ (l : List Oper) (k : Nat) (listed : Array Bool) (a : Act) (w : World), (∀ j, l[j]? = ops[k + j]?) →
    Region.seqB md ops l.length k listed = true → wpListIn F nF P ops Q' l a w → wpAnyIn F nF P md ops Q' l.length listed a w
  | [], _, _, _, _, _, hB, h => ⟨by simpa [Region.seqB] using hB, h⟩
  | o :: l, k, listed, a, w, hl, hB, h => by
    have h0 : ops[k]? = some o := by simpa using (hl 0).symm
    simp only [List.length_cons, Region.seqB, Bool.and_eq_true, decide_eq_true_eq] at hB
    refine ⟨fun h1 => (by rw [hB.1] at h1; cases h1), fun i hi => ?_⟩
    rw [hB.1] at hi
    have hik : i = k := by simpa using hi
    subst hik
    have hw : wpOpIn F nF P ops Q' i (wpListIn F nF P ops Q' l) a w := by unfold wpOpIn; simp only [h0]; exact h
    exact wpOpIn_mono (fun a' w' h' => wpAnyIn_of_seq l (i + 1) _ a' w' (fun j => by have := hl (j + 1); simpa [Nat.add_assoc, Nat.add_comm 1 j] using this) hB.2 h') hw

section
variable (F : Fence) (nF : Nat) (P : Program) (Q : Exit → Act → World → Prop) (D : List Nat) (a0 : Act) (I : World → Prop) (Φ : Nat → Value → World → Prop)
/-- One operation of the head: number k, at whatever frame and world the drawn order has made. -/
def HopI (k : Nat) (o : Oper) : Prop :=
  ∀ (a : Act) (w : World), I w → (∀ t, D.contains t = false → a.tmps[t]?.getD undef = a0.tmps[t]?.getD undef) →
    (∀ e ∈ o.after.toList, Region.binds .any e = true → Φ e.on (a.tmps[D.getD e.on 0]?.getD undef) w) →
    ∀ K : Act → World → Prop, (∀ v w', w.grownBy w' none → Φ k v w' → K (a.put o.dst v) w') → o.wpIn F nF P a w K Q
def HopHI (k : Nat) (o : Oper) : Prop :=
  match o.guard with
  | none => HopI F nF P Q D a0 I Φ k o
  | some (g, b) => ((∀ v w, Φ g v w → v = .bool b) ∧ HopI F nF P Q D a0 I Φ k o) ∨ ((∀ v w, Φ g v w → v ≠ .bool b) ∧ ∀ w, Φ k undef w)
def HopsHI : Nat → List Oper → Prop
  | _, [] => True
  | k, o :: os => HopHI F nF P Q D a0 I Φ k o ∧ HopsHI (k + 1) os
theorem HopsHI.at_ : ∀ {os : List Oper} {k i : Nat} {o : Oper}, HopsHI F nF P Q D a0 I Φ k os → os[i]? = some o → HopHI F nF P Q D a0 I Φ (k + i) o
  | [], _, i, _, _, hi => by simp at hi
  | x :: os, k, 0, o, h, hi => by
    obtain rfl : x = o := by simpa using hi
    exact h.1
  | x :: os, k, i + 1, o, h, hi => by
    have := HopsHI.at_ (k := k + 1) (i := i) h.2 (by simpa using hi)
    rwa [show k + 1 + i = k + (i + 1) from by omega] at this
end

theorem wpIn_region_freeH {F : Fence} {nF : Nat} {P : Program} {id : Nat} {Q : Exit → Act → World → Prop} {a0 : Act} {w0 : World} {l : List Oper} (n : Nat) (D : List Nat) (I : World → Prop) (Φ : Nat → Value → World → Prop)
    (hF : ∀ f, F.fn f) (hm : P.follows .mixedOrders = true)
    (hB : (Region.noSelect l.toArray && decide (n < l.length) && Region.sinkB .any l.toArray n && Region.chainB .any l.toArray n && backB l n && dstB D l n && decide (D.Nodup) && Region.seqB .any l.toArray (l.length - n) n (Array.replicate n true ++ Array.replicate (l.length - n) false)) = true)
    (hI : ∀ w w' : World, w.grownBy w' none → I w → I w') (hΦ : ∀ (k : Nat) (v : Value) (w w' : World), w.grownBy w' none → Φ k v w → Φ k v w') (hI0 : I w0.drew) (hDs : D.all (fun t => decide (t < a0.tmps.size)) = true)
    (hop : HopsHI F nF P Q D a0 I Φ 0 (l.take n))
    (hfin : ∀ (vs : Nat → Value) (w : World), I w → (∀ k, k < n → Φ k (vs k) w) → wpListIn F nF P l.toArray Q (l.drop n) (putAll vs D 0 a0) w) : (Code.region id l.toArray true).wpIn F nF P Q a0 w0 := by
  simp only [Bool.and_eq_true, decide_eq_true_eq] at hB
  obtain ⟨⟨⟨⟨⟨⟨⟨_, hn⟩, hs⟩, hc⟩, hback⟩, hdst⟩, hD⟩, hseq⟩ := hB
  have hdst' : (l.take n).map (·.dst) = D.map some := by simpa [dstB] using hdst
  have hDl : D.length = n := by have := congrArg List.length hdst'; simp at this; omega
  have hdsti : ∀ i o, i < n → l[i]? = some o → ∃ t, D[i]? = some t ∧ o.dst = some t := fun i o hi ho => by
    have h1 := congrArg (fun x : List (Option Tmp) => x[i]?) hdst'
    simp only [List.getElem?_map, List.getElem?_take, if_pos hi, ho, Option.map_some] at h1
    have hlt : i < D.length := by omega
    rw [List.getElem?_eq_getElem hlt] at h1 ⊢
    exact ⟨_, rfl, by simpa using h1⟩
  have hbacki : ∀ i o, i < n → l[i]? = some o → (∀ g b, o.guard = some (g, b) → g < i ∧ ∃ e ∈ o.after, Region.binds .any e = true ∧ e.on = g) ∧ ∀ e ∈ o.after, Region.binds .any e = true → e.on < i := fun i o hi ho => by
    have h1 := List.all_eq_true.1 hback (o, i) (by
      rw [List.mem_iff_getElem?]
      refine ⟨i, ?_⟩
      rw [List.getElem?_zipIdx, List.getElem?_take, if_pos hi, ho]
      simp)
    simp only [Bool.and_eq_true] at h1
    refine ⟨fun g b hg => ?_, fun e he hb => ?_⟩
    · have h2 := h1.1
      rw [hg] at h2
      simp only [Bool.and_eq_true, decide_eq_true_eq] at h2
      obtain ⟨e, he, hb⟩ := Array.any_eq_true'.1 h2.2
      simp only [Bool.and_eq_true, beq_iff_eq] at hb
      exact ⟨h2.1, e, he, hb.1, hb.2⟩
    have h2 := Array.all_eq_true_iff_forall_mem.1 h1.2 e he
    simpa [hb] using h2
  have key : ∀ (f : Nat) (S : List Nat) (listed : Array Bool) (a : Act) (w : World) (vs : Nat → Value), S.length = f → S.Nodup → (∀ i, i ∈ S ↔ i < n ∧ listed.getD i true = false) →
      HeadInv .any l.toArray n listed → Mid D a0 a vs listed → I w → (∀ k, k < n → listed.getD k false = true → Φ k (vs k) w) → wpAnyIn F nF P .any l.toArray Q (f + (l.length - n)) listed a w := by
    intro f
    induction f with
    | zero =>
      intro S listed a w vs hS _ hmem inv mid hIw hP
      obtain rfl := List.eq_nil_of_length_eq_zero hS
      have hsz : listed.size = l.length := by rw [inv.size]; simp
      have hall : ∀ k, k < n → listed.getD k false = true := fun k hk => by
        cases h : listed.getD k false with
        | true => rfl
        | false => exact absurd ((hmem k).2 ⟨hk, getD_in (by omega) h⟩) (by simp)
      have hlist : listed = Array.replicate n true ++ Array.replicate (l.length - n) false := by
        apply Array.ext
        · simp; omega
        · intro k h1 h2
          by_cases hk : k < n
          · have := hall k hk
            rw [Array.getElem_append_left (by simpa using hk)]
            simp [h1] at this
            simp [this]
          · have := inv.tail k (by omega) (by simpa using (by omega : k < l.length))
            rw [Array.getElem_append_right (by simpa using hk)]
            simp [h1] at this
            simp [this]
      rw [Nat.zero_add]
      have hd := mid.done hD (fun k hk => hall k (by omega))
      subst hd
      have hx := hfin vs w hIw (fun k hk => hP k hk (hall k hk))
      have := wpAnyIn_of_seq (md := .any) (Q' := Q) (l.drop n) n listed _ w (fun j => by simp [List.getElem?_drop]) (by rw [List.length_drop, hlist]; exact hseq) hx
      rwa [List.length_drop] at this
    | succ f ih =>
      intro S listed a w vs hS hnd hmem inv mid hIw hP
      have hsz : listed.size = l.length := by rw [inv.size]; simp
      rw [show f + 1 + (l.length - n) = f + (l.length - n) + 1 from by omega]
      have hex : ∃ i, i < n ∧ listed.getD i true = false := by
        cases S with
        | nil => simp at hS
        | cons i S => exact ⟨i, (hmem i).1 (List.mem_cons_self ..)⟩
      refine ⟨fun h0 => ?_, fun i hi => ?_⟩
      · exfalso
        -- the least one that is not yet over is ready
        have least : ∀ m, (∃ i, i < m ∧ i < n ∧ listed.getD i true = false) → ∃ i, i < n ∧ listed.getD i true = false ∧ ∀ j, j < i → listed.getD j false = true := by
          intro m
          induction m with
          | zero => rintro ⟨i, h, _⟩; omega
          | succ m ihm =>
            rintro ⟨i, h1, h2, h3⟩
            by_cases hq : ∃ i, i < m ∧ i < n ∧ listed.getD i true = false
            · exact ihm hq
            · have : i = m := by
                rcases Nat.lt_succ_iff_lt_or_eq.1 h1 with h4 | h4
                · exact absurd ⟨i, h4, h2, h3⟩ hq
                · exact h4
              subst this
              refine ⟨i, h2, h3, fun j hj => ?_⟩
              cases h : listed.getD j false with
              | true => rfl
              | false => exact absurd ⟨j, hj, by omega, getD_in (by omega) h⟩ hq
        obtain ⟨i0, h1, h2⟩ := hex
        obtain ⟨i, hin, hun, hlow⟩ := least n ⟨i0, h1, h1, h2⟩
        have hlt : i < l.length := by omega
        have ho : l[i]? = some l[i] := List.getElem?_eq_getElem hlt
        have : i ∈ Region.ready .any l.toArray listed := mem_ready.2 ⟨hun, l[i], by simp, fun e he hb => hlow _ ((hbacki i _ hin ho).2 e he hb)⟩
        rw [h0] at this
        cases this
      · obtain ⟨i0, h1, h2⟩ := hex
        have hin : i < n := by
          rcases Nat.lt_or_ge i n with h | h
          · exact h
          · exact absurd hi (tail_waits hs hc (by simpa using hn) inv _ i0 rfl h1 h2 i h)
        obtain ⟨hun, o, ho, hall⟩ := mem_ready.1 hi
        have ho' : l[i]? = some o := by simpa using ho
        obtain ⟨t, ht, hdt⟩ := hdsti i o hin ho'
        obtain ⟨hg, hbk⟩ := hbacki i o hin ho'
        have cont : ∀ v w', w.grownBy w' none → Φ i v w' → wpAnyIn F nF P .any l.toArray Q (f + (l.length - n)) (listed.setIfInBounds i true) (a.put (some t) v) w' := fun v w' hgr hv => by
          refine ih (S.erase i) _ _ w' (fun k => if k = i then v else vs k) (by rw [List.length_erase_of_mem ((hmem i).2 ⟨hin, hun⟩)]; omega) (hnd.erase i) (fun j => ?_) (inv.set hi hin) (mid.step hD ht (by omega) v) (hI _ _ hgr hIw) (fun k hk hl => ?_)
          · rw [hnd.mem_erase_iff, hmem j]
            constructor
            · rintro ⟨h6, h7, h8⟩
              exact ⟨h7, by rw [getD_set_ne true (fun e => h6 e.symm)]; exact h8⟩
            · rintro ⟨h7, h8⟩
              by_cases hji : j = i
              · subst hji; simp [show j < listed.size from by omega] at h8
              · exact ⟨hji, h7, by rw [getD_set_ne true (fun e => hji e.symm)] at h8; exact h8⟩
          · by_cases hki : k = i
            · subst hki; rw [if_pos rfl]; exact hv
            · rw [if_neg hki]
              rw [getD_set_ne false (fun e => hki e.symm)] at hl
              exact hΦ _ _ _ _ hgr (hP k hk hl)
        have slot : ∀ e ∈ o.after, Region.binds .any e = true → ∃ s v, D[e.on]? = some s ∧ a.tmps[s]? = some v ∧ Φ e.on v w := fun e he hb => by
          have h3 := hall e he hb
          have hlt : e.on < n := Nat.lt_trans (hbk e he hb) hin
          obtain ⟨s, hs⟩ : ∃ s, D[e.on]? = some s := ⟨_, List.getElem?_eq_getElem (by omega)⟩
          have h4 := mid.new e.on s hs
          rw [h3, if_pos rfl, if_pos (of_decide_eq_true (List.all_eq_true.1 hDs s (List.mem_of_getElem? hs)))] at h4
          exact ⟨s, _, hs, h4, hP _ hlt h3⟩
        have met : HopI F nF P Q D a0 I Φ i o → o.wpIn F nF P a w (wpAnyIn F nF P .any l.toArray Q (f + (l.length - n)) (listed.setIfInBounds i true)) Q := fun hh => by
          refine hh a w hIw (fun s hs => ?_) (fun e he hb => ?_) _ (fun v w' hgr hv => ?_)
          · have := mid.old s hs
            simp only [this]
          · obtain ⟨s, v, hs, hv, hp⟩ := slot e (by simpa using he) hb
            have h5 : D.getD e.on 0 = s := by simp [List.getD, hs]
            rw [h5, hv]
            exact hp
          · rw [hdt]; exact cont v w' hgr hv
        have hh := HopsHI.at_ F nF P Q D a0 I Φ (k := 0) hop (i := i) (o := o) (by rw [List.getElem?_take, if_pos hin, ho'])
        rw [Nat.zero_add] at hh
        unfold wpOpIn
        simp only [ho]
        cases hgd : o.guard with
        | none =>
          rw [if_pos (by simp [Region.wanted, hgd])]
          unfold HopHI at hh
          rw [hgd] at hh
          exact (met hh)
        | some gb =>
          obtain ⟨g, b⟩ := gb
          obtain ⟨hgi, e, he, hb, heg⟩ := hg g b hgd
          obtain ⟨s, v, hs, hv, hp⟩ := slot e he hb
          rw [heg] at hs hp
          have hgl : g < l.length := by omega
          obtain ⟨s', hs', hds'⟩ := hdsti g l[g] (by omega) (List.getElem?_eq_getElem hgl)
          rw [hs] at hs'
          obtain rfl := Option.some.inj hs'
          have hy : ∀ c, v = .bool c → yielded l.toArray a.tmps g = some c := fun c hc => by
            unfold yielded
            have h6 : l.toArray[g]? = some l[g] := by simp [hgl]
            rw [h6]
            simp only [Option.bind_some, hds', hv, hc]
          unfold HopHI at hh
          rw [hgd] at hh
          rcases hh with ⟨h7, h8⟩ | ⟨h7, h8⟩
          · rw [if_pos (by simp [Region.wanted, hgd, hy b (h7 v w hp)])]
            exact (met h8)
          · have hyn : (yielded l.toArray a.tmps g == some b) = false := by
              have h6 : l.toArray[g]? = some l[g] := by simp [hgl]
              have h9 := h7 v w hp
              unfold yielded
              rw [h6]
              simp only [Option.bind_some, hds', hv]
              cases v with
              | bool c =>
                simp only [ne_eq, Value.bool.injEq] at h9
                simp [h9]
              | _ => rfl
            rw [if_neg (by simp only [Region.wanted, hgd, hyn]; decide)]
            rw [hdt]
            exact ⟨fun f _ => hF f, cont undef w (World.grownBy.refl w none) (h8 w)⟩
  refine wpIn_region_any hm ?_
  have hx := key n (List.range n) (Array.replicate l.length false) a0 w0.drew (fun _ => undef) (by simp) List.nodup_range (fun i => by
    rw [List.mem_range]
    constructor
    · intro h; exact ⟨h, getD_in (by simp; omega) (getD_replicate_false _ _)⟩
    · exact fun h => h.1) ⟨by simp, fun j oj _ hl => (by rw [getD_replicate_false] at hl; cases hl), fun t _ ht => getD_in (by simp only [Array.size_replicate, List.size_toArray] at ht ⊢; exact ht) (getD_replicate_false _ _)⟩ (Mid.start _ _ _ _) hI0 (fun k _ hl => by rw [getD_replicate_false] at hl; cases hl)
  rw [show n + (l.length - n) = l.length from by omega] at hx
  simpa using hx

theorem wpIn_region_hopsJ {F : Fence} {nF : Nat} {P : Program} {id : Nat} {Q : Exit → Act → World → Prop} {a0 : Act} {w0 : World} {l : List Oper} (n : Nat) (D : List Nat) (rs : List Res) (J : World → Prop) (fs : List VF)
    (hF : ∀ f, F.fn f) (hm : P.follows .mixedOrders = true)
    (hB : (Region.noSelect l.toArray && decide (n < l.length) && Region.sinkB .any l.toArray n && Region.chainB .any l.toArray n && backB l n && dstB D l n && decide (D.Nodup) && Region.seqB .any l.toArray (l.length - n) n (Array.replicate n true ++ Array.replicate (l.length - n) false)) = true)
    (hJ : ∀ w w' : World, w.grownBy w' none → J w → J w') (hR : All w0 rs ∧ J w0) (hDs : D.all (fun t => decide (t < a0.tmps.size)) = true)
    (hop : HopsHI F nF P Q D a0 (fun W => All W rs ∧ J W) (VF.at fs) 0 (l.take n))
    (hfin : ∀ (vs : Nat → Value) (w : World), All w rs ∧ J w → (∀ k, k < n → VF.at fs k (vs k) w) → wpListIn F nF P l.toArray Q (l.drop n) (putAll vs D 0 a0) w) : (Code.region id l.toArray true).wpIn F nF P Q a0 w0 :=
  wpIn_region_freeH n D (fun W => All W rs ∧ J W) (VF.at fs) hF hm hB (fun _ _ hg h => ⟨h.1.quiet hg, hJ _ _ hg h.2⟩) (fun _ _ _ _ hg h => VF.keep hg _ h) ⟨hR.1.drew, hJ _ _ (grown_drew w0) hR.2⟩ hDs hop hfin
theorem wpIn_val {F : Fence} {nF : Nat} {P : Program} {o : Oper} {a : Act} {w w' : World} {K : Act → World → Prop} {Q : Exit → Act → World → Prop} {v : Value} (hF : ∀ f, F.fn f) (hnd : ∀ c, o.op ≠ .defer c) (hex : (execOp a.eval o).run P w = .ok (.value v) w') (h : K (a.put o.dst v) w') : o.wpIn F nF P a w K Q :=
  ⟨fun f _ => hF f, by rw [Oper.semAt_plain F _ _ hnd, hex]; exact h⟩
theorem wpIn_load_any {F : Fence} {nF : Nat} {P : Program} {op : Oper} {a : Act} {w : World} {K : Act → World → Prop} {Q : Exit → Act → World → Prop} (hF : ∀ f, F.fn f) (ty : TypeId) (x : Operand) (ho : op.op = .load ty x)
    (ad : Addr) (hx : a.eval x = .pointer (some ad)) (cs : List Value) (d : TypeDesc) (hc : ∀ j u, cs[j]? = some u → w.cell? (ad.add j) = some u)
    (hu : P.underlying ty = some d) (hd : d.isRow = true) (hi : (P.info? ty).map (·.size) = some cs.length) (h : K (a.put op.dst (.agg cs.toArray)) w) : op.wpIn F nF P a w K Q := by
  refine wpIn_val hF (by rw [ho]; intro c hc; cases hc) (v := .agg cs.toArray) (w' := w) ?_ h
  unfold execOp
  simp only [ho, hx, Instr.loadAt, Instr.sureAddr, Sem.run_bind, Sem.run_pure, Result.andThen_ok, run_loadVar_any w ad ty cs d hc hu hd hi]
theorem wpIn_bld {F : Fence} {nF : Nat} {P : Program} {o : Oper} {a : Act} {w : World} {K : Act → World → Prop} {Q : Exit → Act → World → Prop} (hF : ∀ f, F.fn f) (t : TypeId) (parts : List (Nat × Operand)) (ho : o.op = .build t parts.toArray)
    (fields : Array Field) (z : Value) (places : Array (Nat × Nat)) (cells : Array Value)
    (hz : ∀ w, (zeroValue t).run P w = .ok z w) (hu : P.underlying t = some (.struct fields)) (hp : ∀ w, (placesOf fields).run P w = .ok places w)
    (hf : Instr.fill (places[·]?) z.cells (parts.map fun x => (x.1, a.eval x.2)) = some cells)
    (h : K (a.put o.dst (.agg cells)) w) : o.wpIn F nF P a w K Q := by
  have hf' : Instr.fill (places[·]?) z.cells ((parts.toArray.map fun (i, x) => (i, a.eval x)).toList) = some cells := by
    rw [Array.toList_map]; exact hf
  refine wpIn_val hF (by rw [ho]; intro c hc; cases hc) (v := .agg cells) (w' := w) ?_ h
  unfold execOp
  simp only [ho, Sem.run_bind, run_build_struct w t fields z places _ cells (hz w) hu (hp w) hf', Result.andThen_ok, Sem.run_pure]
theorem wpIn_lit1 {F : Fence} {nF : Nat} {P : Program} {K : Act → World → Prop} {o : Oper} {a : Act} {w : World} {Q : Exit → Act → World → Prop} {t e : TypeId} {z : Value} {size bytes : Nat} (hF : ∀ f, F.fn f) (E : ElemOf P t e z size bytes) (x : Operand) (ho : o.op = .buildSlice t 1 #[(0, x)])
    (es : List Value) (hx : a.eval x = .agg es.toArray) (hl : es.length = size) (hs : size ≤ 1000000)
    (h : K (a.put o.dst (.slice (some ⟨w.heap.size, 0, none⟩) 1 1)) (w.alloc (.cells es.toArray e))) : o.wpIn F nF P a w K Q := by
  obtain ⟨i, hi, hz, hsize, _⟩ := E.hi
  have hpos := E.hs
  refine wpIn_val hF (by rw [ho]; intro c hc; cases hc) (v := .slice (some ⟨w.heap.size, 0, none⟩) 1 1) (w' := w.alloc (.cells es.toArray e)) ?_ h
  have hf : Instr.fill (fun j => some (j * i.size, i.size)) ((Array.range (1 * i.size)).map (z.cells[· % z.cells.size]!)) ((#[(0, x)] : Array (Nat × Operand)).map fun (i, x) => (i, a.eval x)).toList = some es.toArray := by
    have h1 : ((#[(0, x)] : Array (Nat × Operand)).map fun (i, x) => (i, a.eval x)).toList = [(0, .agg es.toArray)] := by simp [hx]
    rw [h1, hsize]
    have h2 : (Array.range (1 * size)).map (z.cells[· % z.cells.size]!) = ((Array.range (1 * size)).map (z.cells[· % z.cells.size]!)).toList.toArray := (Array.toArray_toList ..).symm
    rw [h2]
    exact fill_one hl (by simp)
  unfold execOp
  simp only [ho, Sem.run_bind, run_buildSlice w t e 1 _ es.toArray i z E.ht hi hz (by rw [hsize]; omega) (by rw [hsize]; omega) hf, Result.andThen_ok, Sem.run_pure]
end Go.Adm
set_option linter.unusedSimpArgs false
set_option linter.unusedVariables false
namespace Go.Adm
open Go Go.RowKit
section
variable {F : Fence} {nF : Nat} {P : Program} {ops : Array Oper} {rest : List Oper} {o : Oper} {a : Act} {w : World} {Q : Exit → Act → World → Prop}
theorem wpIn_neq {K : Act → World → Prop} {t t2 : TypeId} (hF : ∀ f, F.fn f) (x y : Operand) (ho : o.op = .binOp .neq t x y t2) (v : Value)
    (h : (binOp .neq t (a.eval x) (a.eval y)).run P w = .ok v w) (hg : (eqGuard .neq t x y (a.eval x) (a.eval y)).run P w = .ok () w) (hk : K (a.put o.dst v) w) : o.wpIn F nF P a w K Q :=
  wpIn_val hF (by rw [ho]; intro c hc; cases hc) (v := v) (w' := w) (by
    unfold execOp
    simp only [ho, Sem.run_bind, hg, h, Result.andThen_ok, Sem.run_pure]) hk
theorem wlIn_neq {t t2 : TypeId} (hF : ∀ f, F.fn f) (x y : Operand) (hgd : o.guard = none) (ho : o.op = .binOp .neq t x y t2) (v : Value)
    (h : (binOp .neq t (a.eval x) (a.eval y)).run P w = .ok v w) (hg : (eqGuard .neq t x y (a.eval x) (a.eval y)).run P w = .ok () w) (hk : wpListIn F nF P ops Q rest (a.put o.dst v) w) : wpListIn F nF P ops Q (o :: rest) a w :=
  wpListIn_plain hgd fun _ hK => wpIn_neq hF x y ho v h hg (hK _ _ hk)
theorem wlIn_load_any (hF : ∀ f, F.fn f) (hgd : o.guard = none) (ty : TypeId) (x : Operand) (ho : o.op = .load ty x)
    (ad : Addr) (hx : a.eval x = .pointer (some ad)) (cs : List Value) (d : TypeDesc) (hc : ∀ j u, cs[j]? = some u → w.cell? (ad.add j) = some u)
    (hu : P.underlying ty = some d) (hd : d.isRow = true) (hi : (P.info? ty).map (·.size) = some cs.length) (h : wpListIn F nF P ops Q rest (a.put o.dst (.agg cs.toArray)) w) : wpListIn F nF P ops Q (o :: rest) a w :=
  wpListIn_plain hgd fun _ hK => wpIn_load_any hF ty x ho ad hx cs d hc hu hd hi (hK _ _ h)
theorem wlIn_bld (hF : ∀ f, F.fn f) (hgd : o.guard = none) (t : TypeId) (parts : List (Nat × Operand)) (ho : o.op = .build t parts.toArray)
    (fields : Array Field) (z : Value) (places : Array (Nat × Nat)) (cells : Array Value)
    (hz : ∀ w, (zeroValue t).run P w = .ok z w) (hu : P.underlying t = some (.struct fields)) (hp : ∀ w, (placesOf fields).run P w = .ok places w)
    (hf : Instr.fill (places[·]?) z.cells (parts.map fun x => (x.1, a.eval x.2)) = some cells)
    (h : wpListIn F nF P ops Q rest (a.put o.dst (.agg cells)) w) : wpListIn F nF P ops Q (o :: rest) a w :=
  wpListIn_plain hgd fun _ hK => wpIn_bld hF t parts ho fields z places cells hz hu hp hf (hK _ _ h)
theorem wlIn_lit1 {t e : TypeId} {z : Value} {size bytes : Nat} (hF : ∀ f, F.fn f) (hgd : o.guard = none) (E : ElemOf P t e z size bytes) (x : Operand) (ho : o.op = .buildSlice t 1 #[(0, x)])
    (es : List Value) (hx : a.eval x = .agg es.toArray) (hl : es.length = size) (hs : size ≤ 1000000)
    (h : wpListIn F nF P ops Q rest (a.put o.dst (.slice (some ⟨w.heap.size, 0, none⟩) 1 1)) (w.alloc (.cells es.toArray e))) : wpListIn F nF P ops Q (o :: rest) a w :=
  wpListIn_plain hgd fun _ hK => wpIn_lit1 hF E x ho es hx hl hs (hK _ _ h)
/-- a whole array is stored into a block that is known whole -/
theorem wlIn_store_at {rs : List Res} (hF : ∀ f, F.fn f) (hR : All w rs) (i : Nat) (hgd : o.guard = none) (ty : TypeId) (x y : Operand) (ho : o.op = .store ty x y)
    (g : Nat) (t : TypeId) (cs : List Value) (vs : List Value) (hC : rs[i]? = some (.cells g t cs)) (hx : a.eval x = .pointer (some ⟨g, 0, none⟩)) (hy : a.eval y = .agg vs.toArray)
    (hl : vs.length = cs.length) (hi : (P.info? ty).map (·.size) = some vs.length) (h1 : ∀ v ∈ vs, v.oneCell' = true) (hap : Apart (some g) (rs.eraseIdx i))
    (h : ∀ w', All w' (rs.set i (.cells g t vs)) → KeepsOthers w w' → w'.heap.size = w.heap.size → wpListIn F nF P ops Q rest (a.put o.dst undef) w') : wpListIn F nF P ops Q (o :: rest) a w :=
  wpListIn_plain hgd fun _ hK => by
    have hc : Cells w g t cs := hR.at_ i hC
    have hht : w.there g 0 vs.toArray.size := by rw [List.size_toArray, hl]; exact hc.there
    have hrun := run_storeVar_mid (P := P) w g 0 ty vs.toArray hht (by rw [List.size_toArray]; exact hi) (all_oneCell_toArray h1)
    have h2 := h (w.setCells g 0 vs) (All.upd only_setCells i _ hR (hc.storeAll hl) hap) (.of_grownBy only_setCells fun j o' e ho' => by
      injection e with e
      subst e
      have h3 : w.heap[g]? = some (.cells cs.toArray t (0, 0)) := hc
      rw [h3] at ho'
      injection ho' with ho'
      rw [← ho']; rfl) (size_setCells _ _ _ _)
    refine ⟨fun f _ => hF f, ?_⟩
    rw [Oper.semAt_plain F _ _ (by rw [ho]; intro c hc'; cases hc')]
    have hex : (execOp a.eval o).run P w = .ok .skip (w.setCells g 0 vs) := by
      unfold execOp
      simp only [ho, hx, hy, Instr.storeAt, Instr.sureAddr, Sem.run_bind, Sem.run_pure, Result.andThen_ok, hrun, List.toList_toArray]
    rw [hex]
    exact hK _ _ h2
end
end Go.Adm
set_option linter.unusedSimpArgs false
set_option linter.unusedVariables false
namespace Go.Adm
open Go Go.RowKit
section
variable (F : Fence) (nF : Nat) (P : Program) (Q : Exit → Act → World → Prop) (D : List Nat) (a0 : Act) (I : World → Prop) (Φ : Nat → Value → World → Prop) (G : Nat → World → World → Prop)
/-- one operation: what it leaves holds; it may change the world as G says -/
def HopA (k : Nat) (o : Oper) : Prop :=
  o.guard = none ∧ ∀ (a : Act) (w : World), I w → (∀ t, D.contains t = false → a.tmps[t]?.getD undef = a0.tmps[t]?.getD undef) →
    (∀ e ∈ o.after.toList, Region.binds .any e = true → Φ e.on (a.tmps[D.getD e.on 0]?.getD undef) w) →
    ∀ K : Act → World → Prop, (∀ v w', G k w w' → Φ k v w' → (o.dst = none → v = undef) → K (a.put o.dst v) w') → o.wpIn F nF P a w K Q
def HopsA : Nat → List Oper → Prop
  | _, [] => True
  | k, o :: os => HopA F nF P Q D a0 I Φ G k o ∧ HopsA (k + 1) os
theorem HopsA.at_ : ∀ {os : List Oper} {k i : Nat} {o : Oper}, HopsA F nF P Q D a0 I Φ G k os → os[i]? = some o → HopA F nF P Q D a0 I Φ G (k + i) o
  | [], _, i, _, _, hi => by simp at hi
  | x :: os, k, 0, o, h, hi => by
    obtain rfl : x = o := by simpa using hi
    exact h.1
  | x :: os, k, i + 1, o, h, hi => by
    have := HopsA.at_ (k := k + 1) (i := i) h.2 (by simpa using hi)
    rwa [show k + 1 + i = k + (i + 1) from by omega] at this
end
def dstA (D : List Nat) (l : List Oper) : Bool := decide (l.map (·.dst) = D.map fun t => if t < 1000 then some t else none)
theorem wpIn_region_allA {F : Fence} {nF : Nat} {P : Program} {id : Nat} {Q : Exit → Act → World → Prop} {a0 : Act} {w0 : World} {l : List Oper} (D : List Nat) (I : World → Prop) (Φ : Nat → Value → World → Prop) (G : Nat → World → World → Prop)
    (hF : ∀ f, F.fn f) (hm : P.follows .mixedOrders = true) (hB : (backB l l.length && dstA D l && decide (D.Nodup)) = true) (hsz : a0.tmps.size ≤ 1000)
    (hI : ∀ (k : Nat) (w w' : World), G k w w' → I w → I w') (hΦ : ∀ (j k : Nat) (v : Value) (w w' : World), j ≠ k → G k w w' → Φ j v w → Φ j v w') (hI0 : I w0.drew) (hDs : D.all (fun t => decide (t < a0.tmps.size) || decide (1000 ≤ t)) = true)
    (hop : HopsA F nF P Q D a0 I Φ G 0 l)
    (hfin : ∀ (vs : Nat → Value) (w : World), I w → (∀ k, k < l.length → Φ k (vs k) w) → Q .normal (putAll vs D 0 a0) w) : (Code.region id l.toArray true).wpIn F nF P Q a0 w0 := by
  simp only [Bool.and_eq_true, decide_eq_true_eq] at hB
  obtain ⟨⟨hback, hdst⟩, hD⟩ := hB
  have hdst' : l.map (·.dst) = D.map fun t => if t < 1000 then some t else none := by simpa [dstA] using hdst
  have hDl : D.length = l.length := by have := congrArg List.length hdst'; simp at this; omega
  have hdsti : ∀ (i : Nat) (o : Oper), l[i]? = some o → ∃ t, D[i]? = some t ∧ o.dst = if t < 1000 then some t else none := fun i o ho => by
    have h1 := congrArg (fun x : List (Option Tmp) => x[i]?) hdst'
    simp only [List.getElem?_map, ho, Option.map_some] at h1
    have hlt : i < D.length := by rw [hDl]; exact (List.getElem?_eq_some_iff.1 ho).1
    rw [List.getElem?_eq_getElem hlt] at h1 ⊢
    exact ⟨_, rfl, by simpa using h1⟩
  have hbacki : ∀ (i : Nat) (o : Oper), l[i]? = some o → ∀ e ∈ o.after, Region.binds .any e = true → e.on < i := fun i o ho e he hb => by
    have hi := (List.getElem?_eq_some_iff.1 ho).1
    have h1 := List.all_eq_true.1 hback (o, i) (by
      rw [List.mem_iff_getElem?]
      refine ⟨i, ?_⟩
      rw [List.getElem?_zipIdx, List.getElem?_take, if_pos hi, ho]
      simp)
    simp only [Bool.and_eq_true] at h1
    have h2 := Array.all_eq_true_iff_forall_mem.1 h1.2 e he
    simpa [hb] using h2
  have key : ∀ (f : Nat) (S : List Nat) (listed : Array Bool) (a : Act) (w : World) (vs : Nat → Value), S.length = f → S.Nodup → (∀ i, i ∈ S ↔ i < l.length ∧ listed.getD i true = false) →
      listed.size = l.length → Mid D a0 a vs listed → I w → (∀ k, k < l.length → listed.getD k false = true → Φ k (vs k) w ∧ ∀ t, D[k]? = some t → 1000 ≤ t → vs k = undef) → wpAnyIn F nF P .any l.toArray Q f listed a w := by
    intro f
    induction f with
    | zero =>
      intro S listed a w vs hS _ hmem hls mid hIw hP
      obtain rfl := List.eq_nil_of_length_eq_zero hS
      have hall : ∀ k, k < l.length → listed.getD k false = true := fun k hk => by
        cases h : listed.getD k false with
        | true => rfl
        | false => exact absurd ((hmem k).2 ⟨hk, getD_in (by omega) h⟩) (by simp)
      have hd := mid.done hD (fun k hk => hall k (by omega))
      subst hd
      refine ⟨?_, hfin vs w hIw fun k hk => (hP k hk (hall k hk)).1⟩
      cases hr : Region.ready .any l.toArray listed with
      | nil => rfl
      | cons i r =>
        have hi : i ∈ Region.ready .any l.toArray listed := by rw [hr]; simp
        obtain ⟨hun, o, ho, -⟩ := mem_ready.1 hi
        have hlt : i < l.length := by
          have := (Array.getElem?_eq_some_iff.1 ho).1
          simpa using this
        have h1 := hall i hlt
        rw [getD_both hun] at h1
        cases h1
    | succ f ih =>
      intro S listed a w vs hS hnd hmem hls mid hIw hP
      have hex : ∃ i, i < l.length ∧ listed.getD i true = false := by
        cases S with
        | nil => simp at hS
        | cons i S => exact ⟨i, (hmem i).1 (List.mem_cons_self ..)⟩
      refine ⟨fun h0 => ?_, fun i hi => ?_⟩
      · exfalso
        have least : ∀ m, (∃ i, i < m ∧ i < l.length ∧ listed.getD i true = false) → ∃ i, i < l.length ∧ listed.getD i true = false ∧ ∀ j, j < i → listed.getD j false = true := by
          intro m
          induction m with
          | zero => rintro ⟨i, h, _⟩; omega
          | succ m ihm =>
            rintro ⟨i, h1, h2, h3⟩
            by_cases hq : ∃ i, i < m ∧ i < l.length ∧ listed.getD i true = false
            · exact ihm hq
            · have : i = m := by
                rcases Nat.lt_succ_iff_lt_or_eq.1 h1 with h4 | h4
                · exact absurd ⟨i, h4, h2, h3⟩ hq
                · exact h4
              subst this
              refine ⟨i, h2, h3, fun j hj => ?_⟩
              cases h : listed.getD j false with
              | true => rfl
              | false => exact absurd ⟨j, hj, by omega, getD_in (by omega) h⟩ hq
        obtain ⟨i0, h1, h2⟩ := hex
        obtain ⟨i, hin, hun, hlow⟩ := least l.length ⟨i0, h1, h1, h2⟩
        have ho : l[i]? = some l[i] := List.getElem?_eq_getElem hin
        have : i ∈ Region.ready .any l.toArray listed := mem_ready.2 ⟨hun, l[i], by simp, fun e he hb => hlow _ (hbacki i _ ho e he hb)⟩
        rw [h0] at this
        cases this
      · obtain ⟨hun, o, ho, hall⟩ := mem_ready.1 hi
        have ho' : l[i]? = some o := by simpa using ho
        have hin : i < l.length := (List.getElem?_eq_some_iff.1 ho').1
        obtain ⟨t, ht, hdt⟩ := hdsti i o ho'
        have hbk := hbacki i o ho'
        obtain ⟨hgd, hh⟩ := HopsA.at_ F nF P Q D a0 I Φ G (k := 0) hop (i := i) (o := o) ho'
        rw [Nat.zero_add] at hh
        have hput : ∀ v, (o.dst = none → v = undef) → a.put o.dst v = a.put (some t) v := fun v _ => by
          rw [hdt]
          split
          · rfl
          · have h1 : ¬ t < a.tmps.size := by rw [mid.size]; omega
            cases a with
            | mk tm df => simp only [Act.put]; congr 1; simp only at h1; simp [Array.setIfInBounds, h1]
        unfold wpOpIn
        simp only [ho]
        rw [if_pos (by simp [Region.wanted, hgd])]
        refine hh a w hIw (fun s hs => ?_) (fun e he hb => ?_) _ (fun v w' hgr hv hvu => ?_)
        · have := mid.old s hs
          simp only [this]
        · have he' : e ∈ o.after := by simpa using he
          have h3 := hall e he' hb
          have hlt : e.on < l.length := Nat.lt_trans (hbk e he' hb) hin
          obtain ⟨s, hs⟩ : ∃ s, D[e.on]? = some s := ⟨_, List.getElem?_eq_getElem (by omega)⟩
          have h4 := mid.new e.on s hs
          rw [h3, if_pos rfl] at h4
          have h5 : D.getD e.on 0 = s := by simp [List.getD, hs]
          obtain ⟨h6, h7⟩ := hP _ hlt h3
          rw [h5, h4]
          by_cases hss : s < a0.tmps.size
          · rw [if_pos hss]; exact h6
          · rw [if_neg hss]
            have h8 := List.all_eq_true.1 hDs s (List.mem_of_getElem? hs)
            simp only [Bool.or_eq_true, decide_eq_true_eq] at h8
            have h9 := h7 s hs (by omega)
            rw [h9] at h6
            exact h6
        · rw [hput v hvu]
          refine ih (S.erase i) _ _ w' (fun k => if k = i then v else vs k) (by rw [List.length_erase_of_mem ((hmem i).2 ⟨hin, hun⟩)]; omega) (hnd.erase i) (fun j => ?_) (by simp [hls]) (mid.step hD ht (by omega) v) (hI _ _ _ hgr hIw) (fun k hk hl => ?_)
          · rw [hnd.mem_erase_iff, hmem j]
            constructor
            · rintro ⟨h6, h7, h8⟩
              exact ⟨h7, by rw [getD_set_ne true (fun e => h6 e.symm)]; exact h8⟩
            · rintro ⟨h7, h8⟩
              by_cases hji : j = i
              · subst hji; simp [show j < listed.size from by omega] at h8
              · exact ⟨hji, h7, by rw [getD_set_ne true (fun e => hji e.symm)] at h8; exact h8⟩
          · by_cases hki : k = i
            · subst hki
              simp only [if_pos]
              refine ⟨hv, fun t' ht' h1000 => hvu ?_⟩
              rw [ht] at ht'
              obtain rfl := Option.some.inj ht'
              rw [hdt, if_neg (by omega)]
            · simp only [if_neg hki]
              rw [getD_set_ne false (fun e => hki e.symm)] at hl
              obtain ⟨h1, h2⟩ := hP k hk hl
              exact ⟨hΦ _ _ _ _ _ hki hgr h1, h2⟩
  refine wpIn_region_any hm ?_
  have hx := key l.length (List.range l.length) (Array.replicate l.length false) a0 w0.drew (fun _ => undef) (by simp) List.nodup_range (fun i => by
    rw [List.mem_range]
    constructor
    · intro h; exact ⟨h, getD_in (by simp; omega) (getD_replicate_false _ _)⟩
    · exact fun h => h.1) (by simp) (Mid.start _ _ _ _) hI0 (fun k _ hl => by rw [getD_replicate_false] at hl; cases hl)
  simpa using hx
end Go.Adm
set_option linter.unusedSimpArgs false
set_option linter.unusedVariables false
namespace Go.Adm
open Go Go.RowKit
def mark (L : Nat → Bool) (k : Nat) : Nat → Bool := fun i => if i = k then true else L i
section
variable (P : Program) (Q : Exit → Act → World → Prop) (D : List Nat) (a0 : Act) (ops : List Oper) (I : (Nat → Bool) → World → Prop) (ev : Nat → Value)
/-- one operation: L tells which have been -/
def HopO (k : Nat) (o : Oper) : Prop :=
  o.guard = none ∧ ∀ (a : Act) (w : World) (L : Nat → Bool), I L w → L k = false → (∀ j o', ops[j]? = some o' → L j = true → ∀ e ∈ o'.after.toList, Region.binds .any e = true → L e.on = true) →
    (∀ t, D.contains t = false → a.tmps[t]?.getD undef = a0.tmps[t]?.getD undef) →
    (∀ e ∈ o.after.toList, Region.binds .any e = true → L e.on = true ∧ a.tmps[D.getD e.on 0]?.getD undef = ev e.on) →
    ∀ K : Act → World → Prop, (∀ w', I (mark L k) w' → K (a.put o.dst (ev k)) w') → o.wp P a w K Q
def HopsO : Nat → List Oper → Prop
  | _, [] => True
  | k, o :: os => HopO P Q D a0 ops I ev k o ∧ HopsO (k + 1) os
theorem HopsO.at_ : ∀ {os : List Oper} {k i : Nat} {o : Oper}, HopsO P Q D a0 ops I ev k os → os[i]? = some o → HopO P Q D a0 ops I ev (k + i) o
  | [], _, i, _, _, hi => by simp at hi
  | x :: os, k, 0, o, h, hi => by
    obtain rfl : x = o := by simpa using hi
    exact h.1
  | x :: os, k, i + 1, o, h, hi => by
    have := HopsO.at_ (k := k + 1) (i := i) h.2 (by simpa using hi)
    rwa [show k + 1 + i = k + (i + 1) from by omega] at this
end
theorem wp_region_order {P : Program} {id : Nat} {Q : Exit → Act → World → Prop} {a0 : Act} {w0 : World} {l : List Oper} (D : List Nat) (I : (Nat → Bool) → World → Prop) (ev : Nat → Value)
    (hm : P.follows .mixedOrders = true) (hB : (backB l l.length && dstA D l && decide (D.Nodup)) = true) (hsz : a0.tmps.size ≤ 1000)
    (hev : ∀ k t, D[k]? = some t → 1000 ≤ t → ev k = undef) (hI0 : I (fun _ => false) w0.drew) (hDs : D.all (fun t => decide (t < a0.tmps.size) || decide (1000 ≤ t)) = true)
    (hop : HopsO P Q D a0 l I ev 0 l)
    (hfin : ∀ (w : World) (L : Nat → Bool), I L w → (∀ k, k < l.length → L k = true) → Q .normal (putAll ev D 0 a0) w) : (Code.region id l.toArray true).wp P Q a0 w0 := by
  simp only [Bool.and_eq_true, decide_eq_true_eq] at hB
  obtain ⟨⟨hback, hdst⟩, hD⟩ := hB
  have hdst' : l.map (·.dst) = D.map fun t => if t < 1000 then some t else none := by simpa [dstA] using hdst
  have hDl : D.length = l.length := by have := congrArg List.length hdst'; simp at this; omega
  have hdsti : ∀ (i : Nat) (o : Oper), l[i]? = some o → ∃ t, D[i]? = some t ∧ o.dst = if t < 1000 then some t else none := fun i o ho => by
    have h1 := congrArg (fun x : List (Option Tmp) => x[i]?) hdst'
    simp only [List.getElem?_map, ho, Option.map_some] at h1
    have hlt : i < D.length := by rw [hDl]; exact (List.getElem?_eq_some_iff.1 ho).1
    rw [List.getElem?_eq_getElem hlt] at h1 ⊢
    exact ⟨_, rfl, by simpa using h1⟩
  have hbacki : ∀ (i : Nat) (o : Oper), l[i]? = some o → ∀ e ∈ o.after, Region.binds .any e = true → e.on < i := fun i o ho e he hb => by
    have hi := (List.getElem?_eq_some_iff.1 ho).1
    have h1 := List.all_eq_true.1 hback (o, i) (by
      rw [List.mem_iff_getElem?]
      refine ⟨i, ?_⟩
      rw [List.getElem?_zipIdx, List.getElem?_take, if_pos hi, ho]
      simp)
    simp only [Bool.and_eq_true] at h1
    have h2 := Array.all_eq_true_iff_forall_mem.1 h1.2 e he
    simpa [hb] using h2
  have key : ∀ (f : Nat) (S : List Nat) (listed : Array Bool) (a : Act) (w : World), S.length = f → S.Nodup → (∀ i, i ∈ S ↔ i < l.length ∧ listed.getD i true = false) →
      listed.size = l.length → Mid D a0 a ev listed → I (fun k => listed.getD k false) w → (∀ j o', l[j]? = some o' → listed.getD j false = true → ∀ e ∈ o'.after.toList, Region.binds .any e = true → listed.getD e.on false = true) → wpAny P .any l.toArray Q f listed a w := by
    intro f
    induction f with
    | zero =>
      intro S listed a w hS _ hmem hls mid hIw hcl
      obtain rfl := List.eq_nil_of_length_eq_zero hS
      have hall : ∀ k, k < l.length → listed.getD k false = true := fun k hk => by
        cases h : listed.getD k false with
        | true => rfl
        | false => exact absurd ((hmem k).2 ⟨hk, getD_in (by omega) h⟩) (by simp)
      have hd := mid.done hD (fun k hk => hall k (by omega))
      subst hd
      refine ⟨?_, hfin w _ hIw fun k hk => hall k hk⟩
      cases hr : Region.ready .any l.toArray listed with
      | nil => rfl
      | cons i r =>
        have hi : i ∈ Region.ready .any l.toArray listed := by rw [hr]; simp
        obtain ⟨hun, o, ho, -⟩ := mem_ready.1 hi
        have hlt : i < l.length := by
          have := (Array.getElem?_eq_some_iff.1 ho).1
          simpa using this
        have h1 := hall i hlt
        rw [getD_both hun] at h1
        cases h1
    | succ f ih =>
      intro S listed a w hS hnd hmem hls mid hIw hcl
      have hex : ∃ i, i < l.length ∧ listed.getD i true = false := by
        cases S with
        | nil => simp at hS
        | cons i S => exact ⟨i, (hmem i).1 (List.mem_cons_self ..)⟩
      refine ⟨fun h0 => ?_, fun i hi => ?_⟩
      · exfalso
        have least : ∀ m, (∃ i, i < m ∧ i < l.length ∧ listed.getD i true = false) → ∃ i, i < l.length ∧ listed.getD i true = false ∧ ∀ j, j < i → listed.getD j false = true := by
          intro m
          induction m with
          | zero => rintro ⟨i, h, _⟩; omega
          | succ m ihm =>
            rintro ⟨i, h1, h2, h3⟩
            by_cases hq : ∃ i, i < m ∧ i < l.length ∧ listed.getD i true = false
            · exact ihm hq
            · have : i = m := by
                rcases Nat.lt_succ_iff_lt_or_eq.1 h1 with h4 | h4
                · exact absurd ⟨i, h4, h2, h3⟩ hq
                · exact h4
              subst this
              refine ⟨i, h2, h3, fun j hj => ?_⟩
              cases h : listed.getD j false with
              | true => rfl
              | false => exact absurd ⟨j, hj, by omega, getD_in (by omega) h⟩ hq
        obtain ⟨i0, h1, h2⟩ := hex
        obtain ⟨i, hin, hun, hlow⟩ := least l.length ⟨i0, h1, h1, h2⟩
        have ho : l[i]? = some l[i] := List.getElem?_eq_getElem hin
        have : i ∈ Region.ready .any l.toArray listed := mem_ready.2 ⟨hun, l[i], by simp, fun e he hb => hlow _ (hbacki i _ ho e he hb)⟩
        rw [h0] at this
        cases this
      · obtain ⟨hun, o, ho, hall⟩ := mem_ready.1 hi
        have ho' : l[i]? = some o := by simpa using ho
        have hin : i < l.length := (List.getElem?_eq_some_iff.1 ho').1
        obtain ⟨t, ht, hdt⟩ := hdsti i o ho'
        have hbk := hbacki i o ho'
        obtain ⟨hgd, hh⟩ := HopsO.at_ P Q D a0 l I ev (k := 0) hop (i := i) (o := o) ho'
        rw [Nat.zero_add] at hh
        have hput : ∀ v, a.put o.dst v = a.put (some t) v := fun v => by
          rw [hdt]
          split
          · rfl
          · have h1 : ¬ t < a.tmps.size := by rw [mid.size]; omega
            cases a with
            | mk tm df => simp only [Act.put]; congr 1; simp only at h1; simp [Array.setIfInBounds, h1]
        unfold wpOp
        simp only [ho]
        rw [if_pos (by simp [Region.wanted, hgd])]
        refine Or.inl (hh a w _ hIw ?_ hcl (fun s hs => ?_) (fun e he hb => ?_) _ (fun w' hI' => ?_))
        · show listed.getD i false = false
          cases h : listed.getD i false with
          | false => rfl
          | true => rw [getD_both hun] at h; cases h
        · have := mid.old s hs
          simp only [this]
        · have he' : e ∈ o.after := by simpa using he
          have h3 := hall e he' hb
          have hlt : e.on < l.length := Nat.lt_trans (hbk e he' hb) hin
          refine ⟨h3, ?_⟩
          obtain ⟨s, hs⟩ : ∃ s, D[e.on]? = some s := ⟨_, List.getElem?_eq_getElem (by omega)⟩
          have h4 := mid.new e.on s hs
          rw [h3, if_pos rfl] at h4
          have h5 : D.getD e.on 0 = s := by simp [List.getD, hs]
          rw [h5, h4]
          by_cases hss : s < a0.tmps.size
          · rw [if_pos hss]; rfl
          · rw [if_neg hss]
            have h8 := List.all_eq_true.1 hDs s (List.mem_of_getElem? hs)
            simp only [Bool.or_eq_true, decide_eq_true_eq] at h8
            exact (hev _ s hs (by omega)).symm
        · rw [hput]
          have hset : (fun k => (listed.setIfInBounds i true).getD k false) = mark (fun k => listed.getD k false) i := by
            funext k
            unfold mark
            by_cases hki : k = i
            · subst hki
              simp [show k < listed.size from by omega]
            · rw [if_neg hki, getD_set_ne false (fun e => hki e.symm)]
          have hst := mid.step hD ht (by omega) (ev i)
          have hev' : (fun k => if k = i then ev i else ev k) = ev := by
            funext k
            split
            · rename_i h; rw [h]
            · rfl
          rw [hev'] at hst
          refine ih (S.erase i) _ _ w' (by rw [List.length_erase_of_mem ((hmem i).2 ⟨hin, hun⟩)]; omega) (hnd.erase i) (fun j => ?_) (by simp [hls]) hst (by rw [hset]; exact hI') (fun j o' hj hl e he hb => ?_)
          · rw [hnd.mem_erase_iff, hmem j]
            constructor
            · rintro ⟨h6, h7, h8⟩
              exact ⟨h7, by rw [getD_set_ne true (fun e => h6 e.symm)]; exact h8⟩
            · rintro ⟨h7, h8⟩
              by_cases hji : j = i
              · subst hji; simp [show j < listed.size from by omega] at h8
              · exact ⟨hji, h7, by rw [getD_set_ne true (fun e => hji e.symm)] at h8; exact h8⟩
          · have hon : listed.getD e.on false = true := by
              by_cases hji : j = i
              · subst hji
                rw [ho'] at hj
                obtain rfl := Option.some.inj hj
                exact hall e (by simpa using he) hb
              · rw [getD_set_ne false (fun e => hji e.symm)] at hl
                exact hcl j o' hj hl e he hb
            by_cases hoi : e.on = i
            · rw [hoi]; simp [show i < listed.size from by omega]
            · rw [getD_set_ne false (fun e => hoi e.symm)]
              exact hon
  refine wp_region_any hm ?_
  have hx := key l.length (List.range l.length) (Array.replicate l.length false) a0 w0.drew (by simp) List.nodup_range (fun i => by
    rw [List.mem_range]
    constructor
    · intro h; exact ⟨h, getD_in (by simp; omega) (getD_replicate_false _ _)⟩
    · exact fun h => h.1) (by simp) (Mid.start _ _ _ _) (by rw [show (fun k => (Array.replicate l.length false).getD k false) = fun _ => false from funext fun k => getD_replicate_false _ _]; exact hI0) (fun j _ _ hl => by rw [getD_replicate_false] at hl; cases hl)
  simpa using hx
end Go.Adm
set_option linter.unusedSimpArgs false
set_option linter.unusedVariables false
namespace Go.Adm
open Go Go.RowKit
theorem take_mid {α : Type} (L vs : List α) (o m N : Nat) (hm : vs.length = m) (h1 : o + m ≤ N) (h2 : N ≤ L.length) : (L.take o ++ vs ++ L.drop (o + m)).take N = (L.take N).take o ++ vs ++ (L.take N).drop (o + m) := by
  have hl : (L.take o ++ vs).length = o + m := by rw [List.length_append, List.length_take, hm]; omega
  rw [List.take_append, List.take_of_length_le (by rw [hl]; omega), hl, List.drop_take, List.take_take, Nat.min_eq_left (by omega)]
theorem own_el_store {w : World} {base size g n c j : Nat} {e : TypeId} {xs vs : List Value} (h : Own w base e size (some ⟨g, 0, none⟩) n c xs) (hj : j < n) (hv : vs.length = size) :
    w.there g (j * size) size ∧ Own (w.setCells g (j * size) vs) base e size (some ⟨g, 0, none⟩) n c (xs.take (j * size) ++ vs ++ xs.drop (j * size + size)) := by
  obtain ⟨hlen, hr⟩ := h
  rcases hr with ⟨h1, _⟩ | ⟨g', cap, cur, hv', hg, hh, h1, h2, h3, h4⟩
  · injection h1 with h1
    cases h1
  · injection hv' with e1 e2 e3
    injection e1 with e1
    injection e1 with e1
    subst e1 e3
    have hC : Cells w g e cur.toList := by simpa [Cells] using hh
    have ho : j * size + size ≤ n * size := by rw [← Nat.succ_mul]; exact Nat.mul_le_mul_right _ hj
    have hn : n * size ≤ c * size := Nat.mul_le_mul_right _ h1
    have hcl : cur.toList.length = c * size := by simpa using h3
    refine ⟨fun i hi => ?_, ?_⟩
    · have := hC.there (j * size + i) (by omega)
      rwa [Nat.zero_add] at this
    · have hS := hC.storeN (vs := vs) (o := j * size) (by omega)
      rw [hv] at hS
      refine ⟨?_, .inr ⟨g, c, (cur.toList.take (j * size) ++ vs ++ cur.toList.drop (j * size + size)).toArray, rfl, hg, hS, h1, h2, ?_, ?_⟩⟩
      · simp only [List.length_append, List.length_take, List.length_drop, hlen, hv]
        omega
      · simp only [List.size_toArray, List.length_append, List.length_take, List.length_drop, hcl, hv]
        omega
      · show List.take (n * size) (cur.toList.take (j * size) ++ vs ++ cur.toList.drop (j * size + size)) = _
        rw [take_mid _ _ _ _ _ hv ho (by omega), h4]
theorem flat_set {α β : Type} {f : α → List β} {size : Nat} {l : List α} (h : ∀ x ∈ l, (f x).length = size) {j : Nat} (hj : j < l.length) (x : α) :
    (l.map f).flatten.take (j * size) ++ f x ++ (l.map f).flatten.drop (j * size + size) = ((l.set j x).map f).flatten := by
  have h' : ∀ e ∈ l.map f, e.length = size := fun e he => by obtain ⟨x, hx, rfl⟩ := List.mem_map.1 he; exact h x hx
  rw [← Nat.succ_mul, flat_take j h', flat_drop (j + 1) h', List.set_eq_take_append_cons_drop, if_pos hj]
  simp
/-- a store of a whole element into a row of the call's own -/
theorem wp_store_el {P : Program} {o : Oper} {a : Act} {w : World} {K : Act → World → Prop} {Q : Exit → Act → World → Prop} {α : Type} {f : α → List Value} {base size g n c j : Nat} {e ty : TypeId} {l : List α}
    (x y : Operand) (ho : o.op = .store ty x y) (hown : Own w base e size (some ⟨g, 0, none⟩) n c (l.map f).flatten) (hj : j < n) (hl : l.length = n) (hf : ∀ x ∈ l, (f x).length = size) (v : α) (hv : (f v).length = size)
    (hx : a.eval x = .pointer (some ⟨g, j * size, none⟩)) (hy : a.eval y = .agg (f v).toArray) (hi : (P.info? ty).map (·.size) = some size) (h1 : ∀ u ∈ f v, u.oneCell' = true)
    (h : ∀ w', Own w' base e size (some ⟨g, 0, none⟩) n c ((l.set j v).map f).flatten → w.grownBy w' (some g) → w'.heap.size = w.heap.size → K (a.put o.dst undef) w') : o.wp P a w K Q := by
  obtain ⟨ht, hS⟩ := own_el_store hown hj hv
  rw [flat_set hf (by omega)] at hS
  have hrun := run_storeVar_mid (P := P) w g (j * size) ty (f v).toArray (by rw [List.size_toArray, hv]; exact ht) (by rw [List.size_toArray, hv]; exact hi) (all_oneCell_toArray h1)
  have h2 := h _ hS only_setCells (size_setCells _ _ _ _)
  have hex : (execOp a.eval o).run P w = .ok .skip (w.setCells g (j * size) (f v)) := by
    unfold execOp
    simp only [ho, hx, hy, Instr.storeAt, Instr.sureAddr, Sem.run_bind, Sem.run_pure, Result.andThen_ok, hrun, List.toList_toArray]
  unfold Oper.wp
  rw [hex]
  exact h2
end Go.Adm
set_option linter.unusedSimpArgs false
set_option linter.unusedVariables false
set_option maxRecDepth 100000
namespace Go.Adm
open Go Go.RowKit
def markC (L : Nat → Bool) (k : Nat) : Nat → Bool := fun i => if i = k then true else L i
section
variable (P : Program) (Q : Exit → Act → World → Prop) (D : List Nat) (a0 : Act) (J : (Nat → Bool) → (Nat → Value) → World → Prop)
/-- one operation: L tells which have been, vs what they left -/
def HopC (k : Nat) (o : Oper) : Prop :=
  o.guard = none ∧ ∀ (a : Act) (w : World) (L : Nat → Bool) (vs : Nat → Value), J L vs w → L k = false →
    (∀ t, D.contains t = false → a.tmps[t]?.getD undef = a0.tmps[t]?.getD undef) →
    (∀ e ∈ o.after.toList, Region.binds .any e = true → L e.on = true ∧ a.tmps[D.getD e.on 0]?.getD undef = vs e.on) →
    ∀ K : Act → World → Prop, (∀ v w', J (markC L k) (fun i => if i = k then v else vs i) w' → K (a.put o.dst v) w') → o.wp P a w K Q
def HopsC : Nat → List Oper → Prop
  | _, [] => True
  | k, o :: os => HopC P Q D a0 J k o ∧ HopsC (k + 1) os
theorem HopsC.at_ : ∀ {os : List Oper} {k i : Nat} {o : Oper}, HopsC P Q D a0 J k os → os[i]? = some o → HopC P Q D a0 J (k + i) o
  | [], _, i, _, _, hi => by simp at hi
  | x :: os, k, 0, o, h, hi => by
    obtain rfl : x = o := by simpa using hi
    exact h.1
  | x :: os, k, i + 1, o, h, hi => by
    have := HopsC.at_ (k := k + 1) (i := i) h.2 (by simpa using hi)
    rwa [show k + 1 + i = k + (i + 1) from by omega] at this
end
theorem wp_region_cut {P : Program} {id : Nat} {Q : Exit → Act → World → Prop} {a0 : Act} {w0 : World} {l : List Oper} (n : Nat) (D : List Nat) (J : (Nat → Bool) → (Nat → Value) → World → Prop)
    (hm : P.follows .mixedOrders = true)
    (hB : (Region.noSelect l.toArray && decide (n < l.length) && Region.sinkB .any l.toArray n && Region.chainB .any l.toArray n && backB l n && dstB D l n && decide (D.Nodup) && Region.seqB .any l.toArray (l.length - n) n (Array.replicate n true ++ Array.replicate (l.length - n) false)) = true)
    (hI0 : J (fun _ => false) (fun _ => undef) w0.drew) (hDs : D.all (fun t => decide (t < a0.tmps.size)) = true)
    (hop : HopsC P Q D a0 J 0 (l.take n))
    (hfin : ∀ (vs : Nat → Value) (w : World) (L : Nat → Bool), J L vs w → (∀ k, k < n → L k = true) → wpList P l.toArray Q (l.drop n) (putAll vs D 0 a0) w) : (Code.region id l.toArray true).wp P Q a0 w0 := by
  simp only [Bool.and_eq_true, decide_eq_true_eq] at hB
  obtain ⟨⟨⟨⟨⟨⟨⟨_, hn⟩, hs⟩, hc⟩, hback⟩, hdst⟩, hD⟩, hseq⟩ := hB
  have hdst' : (l.take n).map (·.dst) = D.map some := by simpa [dstB] using hdst
  have hDl : D.length = n := by have := congrArg List.length hdst'; simp at this; omega
  have hdsti : ∀ i o, i < n → l[i]? = some o → ∃ t, D[i]? = some t ∧ o.dst = some t := fun i o hi ho => by
    have h1 := congrArg (fun x : List (Option Tmp) => x[i]?) hdst'
    simp only [List.getElem?_map, List.getElem?_take, if_pos hi, ho, Option.map_some] at h1
    have hlt : i < D.length := by omega
    rw [List.getElem?_eq_getElem hlt] at h1 ⊢
    exact ⟨_, rfl, by simpa using h1⟩
  have hbacki : ∀ i o, i < n → l[i]? = some o → (∀ g b, o.guard = some (g, b) → g < i ∧ ∃ e ∈ o.after, Region.binds .any e = true ∧ e.on = g) ∧ ∀ e ∈ o.after, Region.binds .any e = true → e.on < i := fun i o hi ho => by
    have h1 := List.all_eq_true.1 hback (o, i) (by
      rw [List.mem_iff_getElem?]
      refine ⟨i, ?_⟩
      rw [List.getElem?_zipIdx, List.getElem?_take, if_pos hi, ho]
      simp)
    simp only [Bool.and_eq_true] at h1
    refine ⟨fun g b hg => ?_, fun e he hb => ?_⟩
    · have h2 := h1.1
      rw [hg] at h2
      simp only [Bool.and_eq_true, decide_eq_true_eq] at h2
      obtain ⟨e, he, hb⟩ := Array.any_eq_true'.1 h2.2
      simp only [Bool.and_eq_true, beq_iff_eq] at hb
      exact ⟨h2.1, e, he, hb.1, hb.2⟩
    have h2 := Array.all_eq_true_iff_forall_mem.1 h1.2 e he
    simpa [hb] using h2
  have key : ∀ (f : Nat) (S : List Nat) (listed : Array Bool) (a : Act) (w : World) (vs : Nat → Value), S.length = f → S.Nodup → (∀ i, i ∈ S ↔ i < n ∧ listed.getD i true = false) →
      HeadInv .any l.toArray n listed → Mid D a0 a vs listed → J (fun k => listed.getD k false) vs w → wpAny P .any l.toArray Q (f + (l.length - n)) listed a w := by
    intro f
    induction f with
    | zero =>
      intro S listed a w vs hS _ hmem inv mid hIw
      obtain rfl := List.eq_nil_of_length_eq_zero hS
      have hsz : listed.size = l.length := by rw [inv.size]; simp
      have hall : ∀ k, k < n → listed.getD k false = true := fun k hk => by
        cases h : listed.getD k false with
        | true => rfl
        | false => exact absurd ((hmem k).2 ⟨hk, getD_in (by omega) h⟩) (by simp)
      have hlist : listed = Array.replicate n true ++ Array.replicate (l.length - n) false := by
        apply Array.ext
        · simp; omega
        · intro k h1 h2
          by_cases hk : k < n
          · have := hall k hk
            rw [Array.getElem_append_left (by simpa using hk)]
            simp [h1] at this
            simp [this]
          · have := inv.tail k (by omega) (by simpa using (by omega : k < l.length))
            rw [Array.getElem_append_right (by simpa using hk)]
            simp [h1] at this
            simp [this]
      rw [Nat.zero_add]
      have hd := mid.done hD (fun k hk => hall k (by omega))
      subst hd
      have hx := hfin vs w _ hIw hall
      have := wpAny_of_seq (md := .any) (Q' := Q) (l.drop n) n listed _ w (fun j => by simp [List.getElem?_drop]) (by rw [List.length_drop, hlist]; exact hseq) hx
      rwa [List.length_drop] at this
    | succ f ih =>
      intro S listed a w vs hS hnd hmem inv mid hIw
      have hsz : listed.size = l.length := by rw [inv.size]; simp
      rw [show f + 1 + (l.length - n) = f + (l.length - n) + 1 from by omega]
      have hex : ∃ i, i < n ∧ listed.getD i true = false := by
        cases S with
        | nil => simp at hS
        | cons i S => exact ⟨i, (hmem i).1 (List.mem_cons_self ..)⟩
      refine ⟨fun h0 => ?_, fun i hi => ?_⟩
      · exfalso
        -- the least one that is not yet over is ready
        have least : ∀ m, (∃ i, i < m ∧ i < n ∧ listed.getD i true = false) → ∃ i, i < n ∧ listed.getD i true = false ∧ ∀ j, j < i → listed.getD j false = true := by
          intro m
          induction m with
          | zero => rintro ⟨i, h, _⟩; omega
          | succ m ihm =>
            rintro ⟨i, h1, h2, h3⟩
            by_cases hq : ∃ i, i < m ∧ i < n ∧ listed.getD i true = false
            · exact ihm hq
            · have : i = m := by
                rcases Nat.lt_succ_iff_lt_or_eq.1 h1 with h4 | h4
                · exact absurd ⟨i, h4, h2, h3⟩ hq
                · exact h4
              subst this
              refine ⟨i, h2, h3, fun j hj => ?_⟩
              cases h : listed.getD j false with
              | true => rfl
              | false => exact absurd ⟨j, hj, by omega, getD_in (by omega) h⟩ hq
        obtain ⟨i0, h1, h2⟩ := hex
        obtain ⟨i, hin, hun, hlow⟩ := least n ⟨i0, h1, h1, h2⟩
        have hlt : i < l.length := by omega
        have ho : l[i]? = some l[i] := List.getElem?_eq_getElem hlt
        have : i ∈ Region.ready .any l.toArray listed := mem_ready.2 ⟨hun, l[i], by simp, fun e he hb => hlow _ ((hbacki i _ hin ho).2 e he hb)⟩
        rw [h0] at this
        cases this
      · obtain ⟨i0, h1, h2⟩ := hex
        have hin : i < n := by
          rcases Nat.lt_or_ge i n with h | h
          · exact h
          · exact absurd hi (tail_waits hs hc (by simpa using hn) inv _ i0 rfl h1 h2 i h)
        obtain ⟨hun, o, ho, hall⟩ := mem_ready.1 hi
        have ho' : l[i]? = some o := by simpa using ho
        obtain ⟨t, ht, hdt⟩ := hdsti i o hin ho'
        obtain ⟨hg, hbk⟩ := hbacki i o hin ho'
        have hmk : (fun k => (listed.setIfInBounds i true).getD k false) = markC (fun k => listed.getD k false) i := by
          funext k
          unfold markC
          by_cases hki : k = i
          · subst hki; rw [if_pos rfl]; simp [show k < listed.size from by omega]
          · rw [if_neg hki, getD_set_ne false (fun e => hki e.symm)]
        have cont : ∀ v w', J (markC (fun k => listed.getD k false) i) (fun k => if k = i then v else vs k) w' → wpAny P .any l.toArray Q (f + (l.length - n)) (listed.setIfInBounds i true) (a.put (some t) v) w' := fun v w' hJ' => by
          refine ih (S.erase i) _ _ w' (fun k => if k = i then v else vs k) (by rw [List.length_erase_of_mem ((hmem i).2 ⟨hin, hun⟩)]; omega) (hnd.erase i) (fun j => ?_) (inv.set hi hin) (mid.step hD ht (by omega) v) (by rw [hmk]; exact hJ')
          rw [hnd.mem_erase_iff, hmem j]
          constructor
          · rintro ⟨h6, h7, h8⟩
            exact ⟨h7, by rw [getD_set_ne true (fun e => h6 e.symm)]; exact h8⟩
          · rintro ⟨h7, h8⟩
            by_cases hji : j = i
            · subst hji; simp [show j < listed.size from by omega] at h8
            · exact ⟨hji, h7, by rw [getD_set_ne true (fun e => hji e.symm)] at h8; exact h8⟩
        obtain ⟨hgd, hh⟩ := HopsC.at_ P Q D a0 J (k := 0) hop (i := i) (o := o) (by rw [List.getElem?_take, if_pos hin, ho'])
        rw [Nat.zero_add] at hh
        unfold wpOp
        simp only [ho]
        rw [if_pos (by simp [Region.wanted, hgd])]
        refine Or.inl (hh a w _ vs hIw ?_ (fun s hs => ?_) (fun e he hb => ?_) _ (fun v w' hI' => ?_))
        · show listed.getD i false = false
          cases h : listed.getD i false with
          | false => rfl
          | true =>
            have h9 : i < listed.size := by omega
            rw [show listed.getD i false = listed[i] from by simp [h9]] at h
            rw [show listed.getD i true = listed[i] from by simp [h9], h] at hun
            cases hun
        · have := mid.old s hs
          simp only [this]
        · have he' : e ∈ o.after := by simpa using he
          have h3 := hall e he' hb
          have hlt : e.on < n := Nat.lt_trans (hbk e he' hb) hin
          refine ⟨h3, ?_⟩
          obtain ⟨s, hs⟩ : ∃ s, D[e.on]? = some s := ⟨_, List.getElem?_eq_getElem (by omega)⟩
          have h4 := mid.new e.on s hs
          rw [h3, if_pos rfl, if_pos (of_decide_eq_true (List.all_eq_true.1 hDs s (List.mem_of_getElem? hs)))] at h4
          have h5 : D.getD e.on 0 = s := by simp [List.getD, hs]
          rw [h5, h4]; rfl
        · rw [hdt]; exact cont v w' hI'
  refine wp_region_any hm ?_
  have hx := key n (List.range n) (Array.replicate l.length false) a0 w0.drew (fun _ => undef) (by simp) List.nodup_range (fun i => by
    rw [List.mem_range]
    constructor
    · intro h; exact ⟨h, getD_in (by simp; omega) (getD_replicate_false _ _)⟩
    · exact fun h => h.1) ⟨by simp, fun j oj _ hl => (by rw [getD_replicate_false] at hl; cases hl), fun t _ ht => getD_in (by simp only [Array.size_replicate, List.size_toArray] at ht ⊢; exact ht) (getD_replicate_false _ _)⟩ (Mid.start _ _ _ _) (by rw [show (fun k => (Array.replicate l.length false).getD k false) = fun _ => false from by funext k; exact getD_replicate_false _ _]; exact hI0)
  rw [show n + (l.length - n) = l.length from by omega] at hx
  simpa using hx
/-- a judgement with one writer q: what it makes stale is no longer claimed after it -/
def JW (q : Nat) (bad : List Nat) (rs : List Res) (fs : List VF) (L : Nat → Bool) (vs : Nat → Value) (w : World) : Prop :=
  All w rs ∧ ∀ k, L k = true → (L q = true → bad.contains k = false) → VF.at fs k (vs k) w
theorem JW.start {q : Nat} {bad : List Nat} {rs : List Res} {fs : List VF} {w : World} (h : All w rs) : JW q bad rs fs (fun _ => false) (fun _ => undef) w := ⟨h, fun k hk => by cases hk⟩
theorem JW.get {q : Nat} {bad : List Nat} {rs : List Res} {fs : List VF} {L : Nat → Bool} {vs : Nat → Value} {w : World} (h : JW q bad rs fs L vs w) {k : Nat} (hk : L k = true) (hb : L q = true → bad.contains k = false) : VF.at fs k (vs k) w := h.2 k hk hb
theorem JW.quiet {q : Nat} {bad : List Nat} {rs : List Res} {fs : List VF} {L : Nat → Bool} {vs : Nat → Value} {w w' : World} {k : Nat} {v : Value} (h : JW q bad rs fs L vs w) (hg : w.grownBy w' none) (hq : k ≠ q) (hv : VF.at fs k v w') :
    JW q bad rs fs (markC L k) (fun i => if i = k then v else vs i) w' := by
  refine ⟨h.1.quiet hg, fun j hj hb => ?_⟩
  have hLq : markC L k q = L q := by unfold markC; rw [if_neg (fun e => hq e.symm)]
  rw [hLq] at hb
  by_cases hjk : j = k
  · subst hjk; simp only [if_pos rfl]; exact hv
  · simp only [if_neg hjk]
    have hLj : markC L k j = L j := by unfold markC; rw [if_neg hjk]
    rw [hLj] at hj
    exact VF.keep hg _ (h.2 j hj hb)
theorem JW.write {q : Nat} {bad : List Nat} {rs : List Res} {fs : List VF} {L : Nat → Bool} {vs : Nat → Value} {w w' : World} {v : Value} (h : JW q bad rs fs L vs w) (hw : All w' rs) (hLq : L q = false)
    (hs : ∀ j u, bad.contains j = false → j ≠ q → VF.at fs j u w → VF.at fs j u w') (hv : VF.at fs q v w') :
    JW q bad rs fs (markC L q) (fun i => if i = q then v else vs i) w' := by
  refine ⟨hw, fun j hj hb => ?_⟩
  by_cases hjk : j = q
  · subst hjk; simp only [if_pos rfl]; exact hv
  · simp only [if_neg hjk]
    have hLj : markC L q j = L j := by unfold markC; rw [if_neg hjk]
    rw [hLj] at hj
    exact hs j _ (hb (by unfold markC; rw [if_pos rfl])) hjk (h.2 j hj (fun e => by rw [hLq] at e; cases e))
end Go.Adm
set_option linter.unusedSimpArgs false
set_option linter.unusedVariables false
set_option maxRecDepth 100000
namespace Go.Adm
open Go Go.RowKit
theorem count_out (L : Nat → Bool) (k : Nat) : ∀ l : List Nat, k ∉ l → l.countP (markC L k) = l.countP L
  | [], _ => rfl
  | x :: l, h => by
    have h1 : x ≠ k := fun e => h (by simp [e])
    have h2 := count_out L k l (fun e => h (by simp [e]))
    rw [List.countP_cons, List.countP_cons, h2, markC, if_neg h1]
theorem count_in (L : Nat → Bool) (k : Nat) (hk : L k = false) : ∀ l : List Nat, l.Nodup → k ∈ l → l.countP (markC L k) = l.countP L + 1
  | [], _, h => by cases h
  | x :: l, hn, h => by
    have hn' := List.nodup_cons.1 hn
    rw [List.countP_cons, List.countP_cons]
    by_cases e : x = k
    · subst e
      rw [count_out L x l hn'.1, markC, if_pos rfl, hk]
      simp
    · have h2 : k ∈ l := by
        rcases List.mem_cons.1 h with h | h
        · exact absurd h.symm e
        · exact h
      rw [count_in L k hk l hn'.2 h2, markC, if_neg e]
      omega
section
variable (P : Program) (Q : Exit → Act → World → Prop) (D : List Nat) (a0 : Act) (gt n : Nat) (T : Nat → World → Prop) (Φ : Nat → Value → World → Prop)
/-- one operation -/
def HopT (k : Nat) (o : Oper) : Prop :=
  o.guard = none ∧ ∀ (a : Act) (w : World) (c : Nat), T c w → c ≤ n →
    (∀ t, D.contains t = false → a.tmps[t]?.getD undef = a0.tmps[t]?.getD undef) →
    (∀ e ∈ o.after.toList, Region.binds .any e = true → Φ e.on (a.tmps[D.getD e.on 0]?.getD undef) w) →
    ∀ K : Act → World → Prop, (∀ v w' c', c' ≤ c + 1 → T c' w' → w.grownBy w' (some gt) → Φ k v w' → K (a.put o.dst v) w') → o.wp P a w K Q
def HopsT : Nat → List Oper → Prop
  | _, [] => True
  | k, o :: os => HopT P Q D a0 gt n T Φ k o ∧ HopsT (k + 1) os
end
def JT (n : Nat) (T : Nat → World → Prop) (Φ : Nat → Value → World → Prop) (L : Nat → Bool) (vs : Nat → Value) (w : World) : Prop := ∃ c, c ≤ (List.range n).countP L ∧ T c w ∧ ∀ j, L j = true → Φ j (vs j) w
theorem HopsT.cut {P : Program} {Q : Exit → Act → World → Prop} {D : List Nat} {a0 : Act} {gt n : Nat} {T : Nat → World → Prop} {Φ : Nat → Value → World → Prop}
    (hΦ : ∀ k v w w', World.grownBy w w' (some gt) → Φ k v w → Φ k v w') : ∀ (os : List Oper) (k : Nat), k + os.length ≤ n → HopsT P Q D a0 gt n T Φ k os → HopsC P Q D a0 (JT n T Φ) k os
  | [], _, _, _ => trivial
  | o :: os, k, hl, h => by
    rw [List.length_cons] at hl
    refine ⟨⟨h.1.1, ?_⟩, HopsT.cut hΦ os (k + 1) (by omega) h.2⟩
    intro a w L vs ⟨c, hc, hT, hF⟩ hk hcl hb K hK
    refine h.1.2 a w c hT ?_ hcl (fun e he hbd => ?_) K ?_
    · have := List.countP_le_length (p := L) (l := List.range n)
      rw [List.length_range] at this
      omega
    · obtain ⟨h1, h2⟩ := hb e he hbd
      rw [h2]
      exact hF _ h1
    · intro v w' c' hc' hT' hg hv
      refine hK v w' ⟨c', ?_, hT', fun j hj => ?_⟩
      · rw [count_in L k hk _ List.nodup_range (List.mem_range.2 (by omega))]
        omega
      · show Φ j (if j = k then v else vs j) w'
        by_cases e : j = k
        · rw [if_pos e, e]; exact hv
        · rw [if_neg e]
          rw [markC, if_neg e] at hj
          exact hΦ _ _ _ _ hg (hF j hj)
theorem wp_region_tape {P : Program} {id : Nat} {Q : Exit → Act → World → Prop} {a0 : Act} {w0 : World} {l : List Oper} (n : Nat) (D : List Nat) (gt : Nat) (T : Nat → World → Prop) (Φ : Nat → Value → World → Prop)
    (hm : P.follows .mixedOrders = true)
    (hB : (Region.noSelect l.toArray && decide (n < l.length) && Region.sinkB .any l.toArray n && Region.chainB .any l.toArray n && backB l n && dstB D l n && decide (D.Nodup) && Region.seqB .any l.toArray (l.length - n) n (Array.replicate n true ++ Array.replicate (l.length - n) false)) = true)
    (hΦ : ∀ k v w w', World.grownBy w w' (some gt) → Φ k v w → Φ k v w')
    (hI0 : T 0 w0.drew) (hDs : D.all (fun t => decide (t < a0.tmps.size)) = true)
    (hop : HopsT P Q D a0 gt n T Φ 0 (l.take n))
    (hfin : ∀ (vs : Nat → Value) (w : World) (c : Nat), c ≤ n → T c w → (∀ k, k < n → Φ k (vs k) w) → wpList P l.toArray Q (l.drop n) (putAll vs D 0 a0) w) : (Code.region id l.toArray true).wp P Q a0 w0 := by
  refine wp_region_cut n D (JT n T Φ) hm hB ⟨0, Nat.zero_le _, hI0, fun j h => (Bool.false_ne_true h).elim⟩ hDs (HopsT.cut hΦ _ 0 (by rw [List.length_take]; omega) hop) ?_
  intro vs w L ⟨c, hc, hT, hF⟩ hL
  refine hfin vs w c ?_ hT (fun k hk => hF k (hL k hk))
  have := List.countP_le_length (p := L) (l := List.range n)
  rw [List.length_range] at this
  omega
end Go.Adm

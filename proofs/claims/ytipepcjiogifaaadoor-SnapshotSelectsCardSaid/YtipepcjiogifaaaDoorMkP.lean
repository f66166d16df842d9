/- The snapshot of any list: plain Lean. -/
import Derived.Test.YtipepcjiogifaaaDoorRef4
import Derived.Test.YtipepcjiogifaaaDoorTapA
set_option linter.unusedSimpArgs false
set_option linter.unusedVariables false
namespace Go.Adm
open Go Go.RowKit
theorem okAll_factsM {α : Type} (key : α → ByteArray) (good : α → Bool) (m : Nat) (l : List α) (h : okAll key good m l = true) : l.length ≤ m ∧ (∀ x ∈ l, good x = true) ∧ l.Pairwise (fun x y => blt (key x) (key y) = true) := by
  unfold okAll at h
  simp only [Bool.and_eq_true, decide_eq_true_eq, List.all_eq_true, List.mem_range] at h
  obtain ⟨h1, h2⟩ := h
  have h3 : ∀ i (hi : i < l.length), okAt1 key good l i l[i] = true := fun i hi => by rw [← okAt_at key good l i hi]; exact h2 i hi
  have hstep : ∀ i (hi : i + 1 < l.length), blt (key l[i]) (key l[i + 1]) = true := fun i hi => by
    have := h3 (i + 1) hi
    unfold okAt1 at this
    simp only [Bool.and_eq_true] at this
    have h4 := this.2
    rw [List.getElem?_eq_getElem (by omega : i < l.length)] at h4
    exact h4
  refine ⟨h1, fun x hx => ?_, List.pairwise_iff_getElem.2 ?_⟩
  · obtain ⟨i, hi, rfl⟩ := List.getElem_of_mem hx
    have := h3 i hi
    unfold okAt1 at this
    simp only [Bool.and_eq_true] at this
    exact this.1
  · intro i j hi hj hij
    obtain ⟨d, rfl⟩ : ∃ d, j = i + 1 + d := ⟨j - (i + 1), by omega⟩
    induction d with
    | zero => exact hstep i hj
    | succ d ih => exact sto_blt.tr _ _ _ (ih (by omega) (by omega)) (hstep (i + 1 + d) hj)
theorem validB_goodM {l : List E} (h : validB l = true) (he : ∀ x ∈ l, E32 x) : GoodL l ∧ l.length ≤ 64 := by
  obtain ⟨h1, h2, h3⟩ := okAll_factsM _ _ _ l h
  refine ⟨⟨h3, he, fun x hx => ?_, fun x hx => ?_⟩, h1⟩
  · have := h2 x hx
    unfold goodE at this
    simp only [Bool.and_eq_true] at this
    exact this.1
  · have := h2 x hx
    unfold goodE at this
    simp only [Bool.and_eq_true, Bool.not_eq_true', decide_eq_false_iff_not] at this
    exact this.2
theorem putK_perm (l : List E) (x : E) : (putK blt Ent.p l x).Perm (x :: l) := by
  unfold putK
  conv => rhs; rw [← List.takeWhile_append_dropWhile (p := fun y : E => blt y.p x.p) (l := l)]
  exact List.perm_middle
/-- the reference's list, entry by entry; none: a path came twice -/
def refM (out : List E) : List E → Option (List E)
  | [] => some out
  | x :: r => if (lookR out x.p).isSome = true then none else refM (putK blt Ent.p out x) r
def mkR (l : List E) : List E × Int := if 64 < l.length then ([], 3) else if l.all goodE = true then (match refM [] l with | some s => (s, 0) | none => ([], 5)) else ([], 1)
theorem refM_some : ∀ (l out s : List E), Asc blt out → refM out l = some s → Asc blt s ∧ s.Perm (out ++ l)
  | [], out, s, ha, h => by
    unfold refM at h
    obtain rfl := Option.some.inj h
    exact ⟨ha, by simp⟩
  | x :: r, out, s, ha, h => by
    unfold refM at h
    split at h
    · cases h
    · rename_i hn
      have hno : lookR out x.p = none := by
        cases hq : lookR out x.p with
        | none => rfl
        | some _ => rw [hq] at hn; exact absurd rfl hn
      obtain ⟨h1, h2⟩ := refM_some r _ s (asc_putK Ent.p sto_blt out x ha (fun y hy => lookR_none.1 hno y hy)) h
      refine ⟨h1, h2.trans ?_⟩
      have h3 := (putK_perm out x).append_right r
      refine h3.trans ?_
      exact (List.perm_middle (l₁ := out) (a := x) (l₂ := r)).symm
theorem refM_none : ∀ (l out : List E), (out ++ l).Pairwise (fun x y => x.p ≠ y.p) → refM out l ≠ none
  | [], out, _, h => by unfold refM at h; cases h
  | x :: r, out, hp, h => by
    unfold refM at h
    have hno : lookR out x.p = none := lookR_none.2 (fun y hy => (List.pairwise_append.1 hp).2.2 y hy x List.mem_cons_self)
    rw [hno, if_neg (by simp)] at h
    refine refM_none r _ ?_ h
    refine List.Pairwise.perm hp ?_ (fun h => h.symm)
    refine (List.perm_middle (l₁ := out) (a := x) (l₂ := r)).trans ?_
    exact ((putK_perm out x).append_right r).symm
theorem asc_apart {l : List E} (h : Asc blt l) : l.Pairwise (fun x y => x.p ≠ y.p) := List.Pairwise.imp (fun {a b} hab e => by rw [e, sto_blt.irr] at hab; cases hab) h
/-- what a sort leaves, against the reference's list -/
theorem mk_sorted {l d : List E} (hp : d.Perm l) (hs : d.Pairwise fun x y => blt y.p x.p = false) (hl : l.length ≤ 64) (h32 : ∀ x ∈ l, E32 x) (hg : l.all goodE = true) :
    (∀ s, refM [] l = some s → d = s ∧ validB d = true) ∧ (refM [] l = none → validB d = false) := by
  have hg' : ∀ x ∈ d, goodE x = true := fun x hx => List.all_eq_true.1 hg x (hp.subset hx)
  have h32' : ∀ x ∈ d, E32 x := fun x hx => h32 x (hp.subset hx)
  have hdl : d.length ≤ 64 := by rw [hp.length_eq]; exact hl
  refine ⟨fun s h => ?_, fun h => ?_⟩
  · obtain ⟨h1, h2⟩ := refM_some l [] s List.Pairwise.nil h
    rw [List.nil_append] at h2
    have hne : d.Pairwise (fun x y => x.p ≠ y.p) := List.Pairwise.perm (asc_apart h1) (h2.trans hp.symm) (fun h => h.symm)
    have hasc : Asc blt d := by
      refine List.Pairwise.imp (fun {a b} hab => ?_) (hs.and hne)
      rcases sto_blt.tot _ _ hab.2 with h3 | h3
      · exact h3
      · rw [hab.1] at h3; cases h3
    have e : d = s := asc_ext Ent.p sto_blt d s hasc h1 (fun x => ⟨fun hx => h2.symm.subset (hp.subset hx), fun hx => hp.symm.subset (h2.subset hx)⟩)
    refine ⟨e, GoodL.valid ⟨hasc, h32', fun x hx => ?_, fun x hx => ?_⟩ hdl⟩
    · have := hg' x hx
      simp only [goodE, Bool.and_eq_true] at this
      exact this.1
    · have := hg' x hx
      simp only [goodE, Bool.and_eq_true, Bool.not_eq_true', decide_eq_false_iff_not] at this
      exact this.2
  · cases hv : validB d with
    | false => rfl
    | true =>
      obtain ⟨hgl, -⟩ := validB_goodM hv h32'
      have hne := asc_apart hgl.asc
      exact absurd h (refM_none l [] (by rw [List.nil_append]; exact List.Pairwise.perm hne hp (fun h => h.symm)))
theorem refM_put {out r : List E} {x : E} (h : lookR out x.p = none) : refM out (x :: r) = refM (putK blt Ent.p out x) r := by
  conv => lhs; unfold refM
  rw [h, if_neg (by simp)]
theorem refM_dup {out r : List E} {x : E} {d : List UInt8} (h : lookR out x.p = some d) : refM out (x :: r) = none := by
  unfold refM
  rw [h]
  rfl
theorem mkR_32 {l : List E} (h : ∀ x ∈ l, E32 x) : (∀ x ∈ (mkR l).1, E32 x) ∧ (mkR l).1.length ≤ 64 := by
  unfold mkR
  split
  · exact ⟨by simp, by simp⟩
  · rename_i h64
    split
    · cases hr : refM [] l with
      | none => exact ⟨by simp, by simp⟩
      | some s =>
        obtain ⟨h1, h2⟩ := refM_some l [] s List.Pairwise.nil hr
        rw [List.nil_append] at h2
        exact ⟨fun x hx => h x (h2.subset hx), by show s.length ≤ 64; rw [h2.length_eq]; omega⟩
    · exact ⟨by simp, by simp⟩
theorem mkR_valid {l : List E} (h : ∀ x ∈ l, E32 x) (h0 : (mkR l).2 = 0) : validB (mkR l).1 = true := by
  unfold mkR at h0 ⊢
  split at h0
  · cases h0
  · rename_i h64
    rw [if_neg h64]
    split at h0
    · rename_i hg
      rw [if_pos hg]
      cases hr : refM [] l with
      | none => rw [hr] at h0; cases h0
      | some s =>
        obtain ⟨h1, h2⟩ := refM_some l [] s List.Pairwise.nil hr
        rw [List.nil_append] at h2
        exact ((mk_sorted h2 (List.Pairwise.imp (fun hab => sto_blt.asym hab) h1) (by omega) h hg).1 s hr).2
    · cases h0
end Go.Adm

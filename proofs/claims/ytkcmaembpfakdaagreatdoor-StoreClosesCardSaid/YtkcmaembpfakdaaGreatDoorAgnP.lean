/- Stores that are closed, and a sweep done twice: plain Lean. -/
import Derived.Test.YtkcmaembpfakdaaGreatDoorSwpA
set_option linter.unusedSimpArgs false
set_option linter.unusedVariables false
namespace Go.Adm
open Go Go.RowKit
theorem lkG_pr (l : List Bl) (d : List UInt8) : lkG l d = (lookP (l.map pr) d).map linksB := by
  rw [lookP_pr, lkG, Option.map_map]; rfl
theorem prAt_pr (l : List Bl) (d : List UInt8) : prAt l d = (d, (lookP (l.map pr) d).getD []) := by
  rw [lookP_pr]; rfl
/-- what is under a digest after a sweep -/
theorem swp_look {l : List Bl} {roots P M : List (List UInt8)} (h : CloPost l roots P M) (d : List UInt8) : lookP (P.map (prAt l)) d = if d ∈ P then lookP (l.map pr) d else none := by
  by_cases hd : d ∈ P
  · rw [if_pos hd]
    have hs : (lkG l d).isSome = true := ((h.ok.1 d).1 hd).2
    rw [lkG_pr, Option.isSome_map] at hs
    obtain ⟨y, hy⟩ := Option.isSome_iff_exists.1 hs
    rw [hy]
    cases hq : lookP (P.map (prAt l)) d with
    | none =>
      refine absurd ?_ (lookP_none.1 hq)
      rw [List.map_map]
      exact List.mem_map.2 ⟨d, hd, rfl⟩
    | some z =>
      obtain ⟨e, he, h1⟩ := List.mem_map.1 (lookP_some hq)
      rw [prAt_pr] at h1
      injection h1 with h1 h2
      subst h1
      rw [hy] at h2
      rw [← h2]; rfl
  · rw [if_neg hd, lookP_none, List.map_map]
    intro hm
    obtain ⟨e, he, h1⟩ := List.mem_map.1 hm
    exact hd (by rw [← h1]; exact he)
theorem swp_lk {l o : List Bl} {roots P M : List (List UInt8)} (h : CloPost l roots P M) (ho : o.map pr = P.map (prAt l)) (d : List UInt8) : lkG o d = if d ∈ P then lkG l d else none := by
  rw [lkG_pr o, ho, swp_look h, lkG_pr l]
  split <;> rfl
theorem swp_reach {l o : List Bl} {roots P M : List (List UInt8)} (h : CloPost l roots P M) (ho : o.map pr = P.map (prAt l)) (d : List UInt8) : Reach z32 (lkG o) roots d ↔ Reach z32 (lkG l) roots d := by
  constructor
  · intro hr
    induction hr with
    | root h1 h2 => exact .root h1 h2
    | step hr hg he hz ih =>
      rename_i a e ls
      rw [swp_lk h ho] at hg
      split at hg
      · exact .step ih hg he hz
      · cases hg
  · intro hr
    induction hr with
    | root h1 h2 => exact .root h1 h2
    | step hr hg he hz ih =>
      rename_i a e ls
      have hP : a ∈ P := (h.ok.1 a).2 ⟨hr, by rw [hg]; rfl⟩
      exact .step ih (by rw [swp_lk h ho, if_pos hP]; exact hg) he hz
theorem swp_clo {l o : List Bl} {roots P : List (List UInt8)} (h : CloPost l roots P []) (ho : o.map pr = P.map (prAt l)) : CloPost o roots P [] where
  ok := by
    refine ⟨fun d => ?_, fun d => ?_⟩
    · rw [swp_reach h ho, h.ok.1 d, swp_lk h ho]
      constructor
      · rintro ⟨h1, h2⟩; exact ⟨h1, by rw [if_pos ((h.ok.1 d).2 ⟨h1, h2⟩)]; exact h2⟩
      · rintro ⟨h1, h2⟩
        split at h2
        · exact ⟨h1, h2⟩
        · cases h2
    · rw [swp_reach h ho, swp_lk h ho]
      constructor
      · intro hd; cases hd
      · rintro ⟨h1, h2⟩
        cases hg : lkG l d with
        | none => exact (h.ok.2 d).2 ⟨h1, hg⟩
        | some ls =>
          rw [if_pos ((h.ok.1 d).2 ⟨h1, by rw [hg]; rfl⟩), hg] at h2
          cases h2
  p32 := h.p32
  m32 := h.m32
  ap := h.ap
  am := h.am
  len := h.len
/-- a sweep of what was swept -/
theorem swp_again {w w' : World} {B B' n n' : Nat} {A A' : Option Addr} {l o : List Bl} {roots P : List (List UInt8)} (hb : Blobs w B A n l) (hb' : Blobs w' B' A' n' o) (hv : validB l = true) (h : CloPost l roots P []) (ho : o.map pr = P.map (prAt l)) :
    validB o = true ∧ CloPost o roots P [] ∧ P.map (prAt o) = o.map pr := by
  have he := swept_eq hv h
  refine ⟨validB_of ?_ (fun x hx => ?_) ?_, swp_clo h ho, ?_⟩
  · have h1 := congrArg List.length (ho.trans he.symm)
    rw [List.length_map, List.length_map] at h1
    have h2 := List.length_filter_le (fun x : Bl => decide (x.d ∈ P)) l
    have h3 := validB_len hv
    omega
  · have h1 : pr x ∈ (l.filter (fun x => decide (x.d ∈ P))).map pr := by rw [he, ← ho]; exact List.mem_map_of_mem hx
    obtain ⟨y, hy, e⟩ := List.mem_map.1 h1
    have h2 := (List.mem_filter.1 hy).1
    have h3 := validB_each hv y h2
    rw [← (hb'.each x hx).len, show x.b = y.b from (congrArg Prod.snd e).symm, (hb.each y h2).len]
    exact h3
  · have h1 : (o.map pr).map Prod.fst = P := by rw [ho, List.map_map]; exact List.map_id' P
    rw [map_pr_fst] at h1
    show Asc (o.map fun x => x.d)
    rw [h1]; exact h.ap
  · rw [ho]
    refine List.map_congr_left (fun d hd => ?_)
    rw [prAt_pr, prAt_pr, ho, swp_look h, if_pos hd]
/-- what is reached in a store whose links stay within some digests -/
theorem reach_in {l : List Bl} {K roots : List (List UInt8)} (hc : ∀ x ∈ l, ∀ e ∈ linksB x.b, e ∈ K) (hr : ∀ d ∈ roots, d ∈ K) {d : List UInt8} (h : Reach z32 (lkG l) roots d) : d ∈ K := by
  induction h with
  | root h1 hz => exact hr _ h1
  | step hr2 hg he hz ih =>
    rename_i a e ls
    cases hl : lookB l a with
    | none => rw [lkG_none hl] at hg; cases hg
    | some x =>
      rw [lkG_some hl] at hg
      obtain rfl := Option.some.inj hg
      exact hc x (List.mem_of_find?_eq_some hl) e he
theorem miss_none {l : List Bl} {K roots P M : List (List UInt8)} (h : CloPost l roots P M) (hc : ∀ x ∈ l, ∀ e ∈ linksB x.b, e ∈ K) (hr : ∀ d ∈ roots, d ∈ K) (hK : ∀ d ∈ K, d ∈ l.map Bl.d) : M = [] := by
  refine List.eq_nil_iff_forall_not_mem.2 (fun d hd => ?_)
  obtain ⟨h1, h2⟩ := (h.ok.2 d).1 hd
  have h3 := (look_mem l d).2 (hK d (reach_in hc hr h1))
  obtain ⟨x, hx⟩ := Option.isSome_iff_exists.1 h3
  rw [lkG_some hx] at h2
  cases h2
theorem fil_keys {l : List Bl} {cs ds : List (List UInt8)} (hi : InvP cs (l.map pr)) (hd : ds = cs.map shaS) : ∀ d ∈ ds, d ∈ l.map Bl.d := fun d h => by
  rw [hd] at h
  obtain ⟨c, hc, rfl⟩ := List.mem_map.1 h
  have := hi.has c hc
  rwa [map_pr_fst] at this
theorem fil_links {l : List Bl} {cs ds : List (List UInt8)} (hi : InvP cs (l.map pr)) (hL : LkIn cs ds) : ∀ x ∈ l, ∀ e ∈ linksB x.b, e ∈ ds := fun x hx e he => by
  obtain ⟨c, hc, h1⟩ := hi.frm _ (pr_mem rfl hx)
  rw [show x.b = c from congrArg Prod.snd h1] at he
  exact hL c hc e he
end Go.Adm

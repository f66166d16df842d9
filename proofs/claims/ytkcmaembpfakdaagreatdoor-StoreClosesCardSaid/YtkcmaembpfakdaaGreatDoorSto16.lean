/- What a store holds after several puts. -/
import Derived.Test.YtkcmaembpfakdaaGreatDoorSto15
set_option linter.unusedSimpArgs false
set_option linter.unusedVariables false
set_option maxRecDepth 100000
namespace Go.Adm
open Go Go.RowKit
abbrev PrL := List (List UInt8 × List UInt8)
theorem placeD_nil (d : List UInt8) : placeD [] d = 0 := rfl
theorem placeD_pos {x d : List UInt8} {xs : List (List UInt8)} (h : lessD x d = true) : placeD (x :: xs) d = placeD xs d + 1 := by
  unfold placeD
  rw [List.takeWhile_cons_of_pos (by simpa using h), List.length_cons]
theorem placeD_neg {x d : List UInt8} {xs : List (List UInt8)} (h : lessD x d = false) : placeD (x :: xs) d = 0 := by
  unfold placeD
  rw [List.takeWhile_cons_of_neg (by simpa using h)]; rfl
theorem placeB_map (l : List Bl) (d : List UInt8) : placeB l d = placeD (l.map (·.d)) d := by
  induction l with
  | nil => rfl
  | cons x l ih =>
    cases h : lessD x.d d with
    | true =>
      rw [List.map_cons, placeD_pos h, ← ih]
      unfold placeB
      rw [List.takeWhile_cons_of_pos (by simpa using h), List.length_cons]
    | false =>
      rw [List.map_cons, placeD_neg h]
      unfold placeB
      rw [List.takeWhile_cons_of_neg (by simpa using h)]; rfl
def Asc (xs : List (List UInt8)) : Prop := xs.Pairwise fun a b => lessD a b = true
theorem ins_asc {d : List UInt8} : ∀ {xs : List (List UInt8)}, Asc xs → d ∉ xs → Asc (xs.take (placeD xs d) ++ d :: xs.drop (placeD xs d))
  | [], _, _ => by simp [Asc, placeD_nil]
  | x :: xs, h, hd => by
    obtain ⟨h1, h2⟩ := List.pairwise_cons.1 h
    cases hx : lessD x d with
    | true =>
      rw [placeD_pos hx, List.take_succ_cons, List.drop_succ_cons, List.cons_append]
      refine List.pairwise_cons.2 ⟨fun y hy => ?_, ins_asc h2 (fun hm => hd (List.mem_cons_of_mem _ hm))⟩
      rcases List.mem_append.1 hy with h3 | h3
      · exact h1 y (List.mem_of_mem_take h3)
      · rcases List.mem_cons.1 h3 with h3 | h3
        · rw [h3]; exact hx
        · exact h1 y (List.mem_of_mem_drop h3)
    | false =>
      rw [placeD_neg hx, List.take_zero, List.drop_zero, List.nil_append]
      have h3 : lessD d x = true := by
        cases hq : lessD d x with
        | true => rfl
        | false => exact absurd (lessD_total hx hq) (fun e => hd (by rw [e]; exact List.mem_cons_self ..))
      refine List.pairwise_cons.2 ⟨fun y hy => ?_, h⟩
      rcases List.mem_cons.1 hy with h4 | h4
      · rw [h4]; exact h3
      · exact lessD_trans h3 (h1 y h4)
theorem addD_asc {xs : List (List UInt8)} {d : List UInt8} (h : Asc xs) : Asc (addD xs d) := by
  unfold addD
  split
  · exact h
  · rename_i hd; exact ins_asc h hd
theorem mem_ins {α : Type} {xs : List α} {k : Nat} {d y : α} : y ∈ xs.take k ++ d :: xs.drop k ↔ y = d ∨ y ∈ xs := by
  rw [List.mem_append, List.mem_cons]
  have h : y ∈ xs ↔ y ∈ xs.take k ∨ y ∈ xs.drop k := by rw [← List.mem_append, List.take_append_drop]
  rw [h]
  constructor
  · rintro (h1 | h1 | h1)
    · exact Or.inr (Or.inl h1)
    · exact Or.inl h1
    · exact Or.inr (Or.inr h1)
  · rintro (h1 | h1 | h1)
    · exact Or.inr (Or.inl h1)
    · exact Or.inl h1
    · exact Or.inr (Or.inr h1)
theorem mem_addD {xs : List (List UInt8)} {d y : List UInt8} : y ∈ addD xs d ↔ y = d ∨ y ∈ xs := by
  unfold addD
  split
  · rename_i h
    exact ⟨Or.inr, fun h1 => h1.elim (fun e => by rw [e]; exact h) id⟩
  · exact mem_ins
/-- a store after a put that is not refused -/
def putP (Pl : PrL) (d b : List UInt8) : PrL := if d ∈ Pl.map Prod.fst then Pl else Pl.take (placeD (Pl.map Prod.fst) d) ++ (d, b) :: Pl.drop (placeD (Pl.map Prod.fst) d)
theorem putP_fst (Pl : PrL) (d b : List UInt8) : (putP Pl d b).map Prod.fst = addD (Pl.map Prod.fst) d := by
  unfold putP addD
  split
  · rfl
  · rw [List.map_append, List.map_cons, List.map_take, List.map_drop]
theorem map_pr_fst (l : List Bl) : (l.map pr).map Prod.fst = l.map (·.d) := by rw [List.map_map]; rfl
theorem look_mem (l : List Bl) (d : List UInt8) : (lookB l d).isSome = true ↔ d ∈ l.map (·.d) := by
  unfold lookB
  rw [List.find?_isSome]
  constructor
  · rintro ⟨x, hx, h⟩
    exact List.mem_map.2 ⟨x, hx, by simpa using h⟩
  · intro h
    obtain ⟨x, hx, h⟩ := List.mem_map.1 h
    exact ⟨x, hx, by simpa using h⟩
theorem put3_ok {l : List Bl} {d b : List UInt8} (h : validB l = true) (h2 : b.length ≤ 262144) (h3 : l.length ≠ 256) : put3 l d b = (putP (l.map pr) d b, d, 0) := by
  unfold putP
  rw [map_pr_fst]
  cases hk : (lookB l d).isSome with
  | true => rw [put3_had h h2 hk, if_pos ((look_mem l d).1 hk)]
  | false => rw [put3_new h h2 hk h3, if_neg (fun hm => by rw [(look_mem l d).2 hm] at hk; cases hk), placeB_map]
theorem validB_of {l : List Bl} (h1 : l.length ≤ 256) (h2 : ∀ x ∈ l, x.n ≤ 262144) (h3 : Asc (l.map (·.d))) : validB l = true := by
  rw [validB_all l (fun i hi => ?_)]
  · exact decide_eq_true h1
  · rw [okAtB_at l i hi]
    have hg : goodB l[i] = true := decide_eq_true (h2 _ (List.getElem_mem hi))
    cases i with
    | zero => exact okAtB1_zero l 0 _ hg rfl
    | succ j =>
      refine okAtB1_succ l (j + 1) j _ hg rfl (by omega) ?_
      have := (List.pairwise_iff_getElem.1 h3) j (j + 1) (by rw [List.length_map]; omega) (by rw [List.length_map]; exact hi) (by omega)
      simpa using this
/-- the store of some contents -/
def stoP (cs : List (List UInt8)) : PrL := cs.foldl (fun Pl b => putP Pl (shaS b) b) []
def allD (cs : List (List UInt8)) : List (List UInt8) := cs.foldl (fun xs b => addD xs (shaS b)) []
theorem stoP_snoc (cs : List (List UInt8)) (c : List UInt8) : stoP (cs ++ [c]) = putP (stoP cs) (shaS c) c := by
  unfold stoP; rw [List.foldl_append]; rfl
theorem allD_snoc (cs : List (List UInt8)) (c : List UInt8) : allD (cs ++ [c]) = addD (allD cs) (shaS c) := by
  unfold allD; rw [List.foldl_append]; rfl
theorem stoP_fst (cs : List (List UInt8)) : (stoP cs).map Prod.fst = allD cs := by
  have key : ∀ (cs : List (List UInt8)) (Pl : PrL), (cs.foldl (fun Pl b => putP Pl (shaS b) b) Pl).map Prod.fst = cs.foldl (fun xs b => addD xs (shaS b)) (Pl.map Prod.fst) := by
    intro cs
    induction cs with
    | nil => intro Pl; rfl
    | cons c cs ih => intro Pl; rw [List.foldl_cons, List.foldl_cons, ih, putP_fst]
  exact key cs []
structure InvP (cs : List (List UInt8)) (Pl : PrL) : Prop where
  asc : Asc (Pl.map Prod.fst)
  len : Pl.length ≤ cs.length
  frm : ∀ p ∈ Pl, ∃ c ∈ cs, p = (shaS c, c)
  has : ∀ c ∈ cs, shaS c ∈ Pl.map Prod.fst
theorem InvP.step {cs : List (List UInt8)} {Pl : PrL} (h : InvP cs Pl) (c : List UInt8) : InvP (cs ++ [c]) (putP Pl (shaS c) c) := by
  refine ⟨by rw [putP_fst]; exact addD_asc h.asc, ?_, fun p hp => ?_, fun c' hc' => ?_⟩
  · have h1 := congrArg List.length (putP_fst Pl (shaS c) c)
    rw [List.length_map] at h1
    have h2 := addD_len (xs := Pl.map Prod.fst) (d := shaS c)
    rw [List.length_map] at h2
    have := h.len
    rw [List.length_append, List.length_singleton]
    omega
  · unfold putP at hp
    split at hp
    · obtain ⟨c', hc', e⟩ := h.frm p hp
      exact ⟨c', List.mem_append_left _ hc', e⟩
    · rcases mem_ins.1 hp with h1 | h1
      · exact ⟨c, List.mem_append_right _ (List.mem_singleton.2 rfl), h1⟩
      · obtain ⟨c', hc', e⟩ := h.frm p h1
        exact ⟨c', List.mem_append_left _ hc', e⟩
  · rw [putP_fst, mem_addD]
    rcases List.mem_append.1 hc' with h1 | h1
    · exact Or.inr (h.has c' h1)
    · rw [List.mem_singleton.1 h1]; exact Or.inl rfl
theorem inv_take (cs : List (List UInt8)) : ∀ k, k ≤ cs.length → InvP (cs.take k) (stoP (cs.take k))
  | 0, _ => ⟨List.Pairwise.nil, Nat.le_refl _, (fun p hp => by cases hp), (fun c hc => by cases hc)⟩
  | k + 1, hk => by
    rw [List.take_succ_eq_append_getElem (by omega), stoP_snoc]
    exact (inv_take cs k (by omega)).step _
theorem pr_mem {l : List Bl} {Pl : PrL} (h : l.map pr = Pl) {x : Bl} (hx : x ∈ l) : pr x ∈ Pl := by rw [← h]; exact List.mem_map_of_mem hx
/-- the store in memory is valid -/
theorem inv_valid {w : World} {B n : Nat} {A : Option Addr} {l : List Bl} {cs : List (List UInt8)} (hb : Blobs w B A n l) (hi : InvP cs (l.map pr)) (h1 : cs.length ≤ 256) (h2 : ∀ c ∈ cs, c.length ≤ 262144) : validB l = true := by
  refine validB_of ?_ (fun x hx => ?_) (by have := hi.asc; rwa [map_pr_fst] at this)
  · have := hi.len; rw [List.length_map] at this; omega
  · obtain ⟨c, hc, e⟩ := hi.frm _ (pr_mem rfl hx)
    rw [← (hb.each x hx).len, show x.b = c from congrArg Prod.snd e]
    exact h2 c hc
theorem inv_sha {l : List Bl} {cs : List (List UInt8)} (hi : InvP cs (l.map pr)) : ∀ x ∈ l, shaS x.b = x.d := fun x hx => by
  obtain ⟨c, hc, e⟩ := hi.frm _ (pr_mem rfl hx)
  rw [show x.b = c from congrArg Prod.snd e, show x.d = shaS c from congrArg Prod.fst e]
theorem inv_look {l : List Bl} {cs : List (List UInt8)} (hi : InvP cs (l.map pr)) (hn : ∀ c ∈ cs, ∀ c' ∈ cs, shaS c = shaS c' → c = c') {c : List UInt8} (hc : c ∈ cs) : ∃ x, lookB l (shaS c) = some x ∧ x ∈ l ∧ x.b = c := by
  have h1 := hi.has c hc
  rw [map_pr_fst] at h1
  have h2 := (look_mem l (shaS c)).2 h1
  obtain ⟨x, hx⟩ := Option.isSome_iff_exists.1 h2
  have hm := List.mem_of_find?_eq_some hx
  have hd : x.d = shaS c := by simpa using List.find?_some hx
  obtain ⟨c', hc', e⟩ := hi.frm _ (pr_mem rfl hm)
  have e1 : x.d = shaS c' := congrArg Prod.fst e
  have e2 : x.b = c' := congrArg Prod.snd e
  exact ⟨x, hx, hm, by rw [e2]; exact hn c' hc' c hc (by rw [← e1, hd])⟩
end Go.Adm

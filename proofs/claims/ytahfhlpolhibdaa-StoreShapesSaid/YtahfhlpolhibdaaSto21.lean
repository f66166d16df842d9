/- Merging of stores, in plain Lean. -/
import Derived.Test.YtahfhlpolhibdaaSto18
set_option linter.unusedSimpArgs false
set_option linter.unusedVariables false
set_option maxRecDepth 100000
namespace Go.Adm
open Go Go.RowKit
def lookP (P : PrL) (d : List UInt8) : Option (List UInt8) := (P.find? fun p => decide (p.1 = d)).map Prod.snd
theorem lookP_pr (l : List Bl) (d : List UInt8) : lookP (l.map pr) d = (lookB l d).map (·.b) := by
  unfold lookP lookB
  induction l with
  | nil => rfl
  | cons x l ih =>
    rw [List.map_cons, List.find?_cons, List.find?_cons]
    by_cases h : x.d = d
    · rw [decide_eq_true (p := (pr x).1 = d) h, decide_eq_true (p := x.d = d) h]; rfl
    · rw [decide_eq_false (p := (pr x).1 = d) h, decide_eq_false (p := x.d = d) h]; exact ih
theorem lookP_none {P : PrL} {d : List UInt8} : lookP P d = none ↔ d ∉ P.map Prod.fst := by
  unfold lookP
  rw [Option.map_eq_none_iff, List.find?_eq_none, List.mem_map]
  constructor
  · rintro h ⟨p, hp, e⟩
    exact h p hp (decide_eq_true e)
  · intro h p hp e
    exact h ⟨p, hp, of_decide_eq_true e⟩
theorem lookP_some {P : PrL} {d y : List UInt8} (h : lookP P d = some y) : (d, y) ∈ P := by
  unfold lookP at h
  obtain ⟨p, hp, e⟩ := Option.map_eq_some_iff.1 h
  have h1 := List.mem_of_find?_eq_some hp
  have h2 : p.1 = d := by simpa using List.find?_some hp
  rw [← h2, ← e]
  exact h1
theorem lookP_app (A B : PrL) (d : List UInt8) : lookP (A ++ B) d = (lookP A d).or (lookP B d) := by
  unfold lookP
  rw [List.find?_append]
  cases A.find? _ <;> rfl
theorem lookP_cons (p : List UInt8 × List UInt8) (B : PrL) (d : List UInt8) : lookP (p :: B) d = if p.1 = d then some p.2 else lookP B d := by
  unfold lookP
  rw [List.find?_cons]
  by_cases h : p.1 = d
  · rw [if_pos h, decide_eq_true h]; rfl
  · rw [if_neg h, decide_eq_false h]
theorem lookP_putP (P : PrL) (d b e : List UInt8) : lookP (putP P d b) e = if e = d then some ((lookP P d).getD b) else lookP P e := by
  unfold putP
  split
  · rename_i h
    by_cases he : e = d
    · subst he
      rw [if_pos rfl]
      cases hl : lookP P e with
      | none => exact absurd h (lookP_none.1 hl)
      | some y => rfl
    · rw [if_neg he]
  · rename_i h
    rw [lookP_app, lookP_cons]
    have hn := lookP_none.2 h
    by_cases he : e = d
    · subst he
      have h1 : lookP (P.take (placeD (P.map Prod.fst) e)) e = none := lookP_none.2 (fun hm => h (by rw [List.map_take] at hm; exact List.mem_of_mem_take hm))
      rw [if_pos rfl, if_pos rfl, h1, hn]; rfl
    · rw [if_neg he, if_neg (fun h' => he h'.symm), ← lookP_app, List.take_append_drop]
def mrgP (Pa Pb : PrL) : PrL := Pb.foldl (fun P p => putP P p.1 p.2) Pa
theorem mrgP_snoc (Pa Pb : PrL) (p : List UInt8 × List UInt8) : mrgP Pa (Pb ++ [p]) = putP (mrgP Pa Pb) p.1 p.2 := by
  unfold mrgP; rw [List.foldl_append]; rfl
theorem mrgP_cons (Pa Pb : PrL) (p : List UInt8 × List UInt8) : mrgP Pa (p :: Pb) = mrgP (putP Pa p.1 p.2) Pb := rfl
theorem mrgP_asc : ∀ {Pb Pa : PrL}, Asc (Pa.map Prod.fst) → Asc ((mrgP Pa Pb).map Prod.fst)
  | [], _, h => h
  | p :: Pb, Pa, h => by
    rw [mrgP_cons]
    exact mrgP_asc (by rw [putP_fst]; exact addD_asc h)
theorem putP_len (P : PrL) (d b : List UInt8) : (putP P d b).length ≤ P.length + 1 := by
  unfold putP
  split
  · omega
  · have := placeD_le (P.map Prod.fst) d
    rw [List.length_map] at this
    rw [List.length_append, List.length_cons, List.length_take, List.length_drop]; omega
theorem mrgP_len : ∀ {Pb Pa : PrL}, (mrgP Pa Pb).length ≤ Pa.length + Pb.length
  | [], Pa => Nat.le_refl _
  | p :: Pb, Pa => by
    rw [mrgP_cons, List.length_cons]
    have h1 := @mrgP_len Pb (putP Pa p.1 p.2)
    have h2 := putP_len Pa p.1 p.2
    omega
theorem lookP_far : ∀ {Pb Pa : PrL} {d : List UInt8}, d ∉ Pb.map Prod.fst → lookP (mrgP Pa Pb) d = lookP Pa d
  | [], _, _, _ => rfl
  | p :: Pb, Pa, d, h => by
    rw [List.map_cons, List.mem_cons] at h
    rw [mrgP_cons, lookP_far (fun hm => h (Or.inr hm)), lookP_putP, if_neg (fun e => h (Or.inl e))]
theorem asc_nodup : ∀ {xs : List (List UInt8)}, Asc xs → xs.Nodup := fun {xs} h => by
  refine List.Pairwise.imp ?_ h
  intro a b hab e
  subst e
  have := lessD_irrefl a
  rw [this] at hab
  cases hab
theorem lookP_mrg : ∀ {Pb Pa : PrL} {d : List UInt8}, (Pb.map Prod.fst).Nodup → lookP (mrgP Pa Pb) d = (lookP Pa d).or (lookP Pb d)
  | [], Pa, d, _ => by
    show lookP Pa d = (lookP Pa d).or none
    cases lookP Pa d <;> rfl
  | p :: Pb, Pa, d, h => by
    rw [List.map_cons, List.nodup_cons] at h
    rw [mrgP_cons, lookP_mrg h.2, lookP_putP, lookP_cons]
    by_cases e : d = p.1
    · subst e
      rw [if_pos rfl, if_pos rfl]
      cases lookP Pa p.1 <;> rfl
    · rw [if_neg e, if_neg (fun e' => e e'.symm)]
def misP (Pa Pb : PrL) : Bool := Pb.any fun p => match lookP Pa p.1 with | none => false | some y => decide (y ≠ p.2)
theorem misP_false {Pa Pb : PrL} (h : misP Pa Pb = false) {p : List UInt8 × List UInt8} (hp : p ∈ Pb) {y : List UInt8} (hy : lookP Pa p.1 = some y) : y = p.2 := by
  unfold misP at h
  have h1 := List.any_eq_false.1 h p hp
  rw [hy] at h1
  simpa using h1
theorem misP_of {Pa Pb : PrL} (h : ∀ p ∈ Pb, ∀ y, lookP Pa p.1 = some y → y = p.2) : misP Pa Pb = false := by
  unfold misP
  refine List.any_eq_false.2 fun p hp => ?_
  cases hl : lookP Pa p.1 with
  | none => simp
  | some y => simp [h p hp y hl]
theorem misP_at {Pa Pb : PrL} {p : List UInt8 × List UInt8} (hp : p ∈ Pb) {y : List UInt8} (hy : lookP Pa p.1 = some y) (hne : y ≠ p.2) : misP Pa Pb = true := by
  unfold misP
  refine List.any_eq_true.2 ⟨p, hp, ?_⟩
  rw [hy]; simp [hne]
/-- the merged store, the error -/
def merge3 (la lb : List Bl) : PrL × Int :=
  if (validB la && validB lb) = true then (if misP (la.map pr) (lb.map pr) = true then ([], 9) else if 256 < (mrgP (la.map pr) (lb.map pr)).length then ([], 3) else (mrgP (la.map pr) (lb.map pr), 0)) else ([], 1)
theorem merge3_bad {la lb : List Bl} (h : (validB la && validB lb) = false) : merge3 la lb = ([], 1) := by
  unfold merge3; rw [if_neg (by rw [h]; decide)]
theorem merge3_mis {la lb : List Bl} (h1 : validB la = true) (h2 : validB lb = true) (h : misP (la.map pr) (lb.map pr) = true) : merge3 la lb = ([], 9) := by
  unfold merge3; rw [if_pos (by rw [h1, h2]; rfl), if_pos h]
theorem merge3_many {la lb : List Bl} (h1 : validB la = true) (h2 : validB lb = true) (h : misP (la.map pr) (lb.map pr) = false) (h3 : 256 < (mrgP (la.map pr) (lb.map pr)).length) : merge3 la lb = ([], 3) := by
  unfold merge3; rw [if_pos (by rw [h1, h2]; rfl), if_neg (by rw [h]; decide), if_pos h3]
theorem merge3_ok {la lb : List Bl} (h1 : validB la = true) (h2 : validB lb = true) (h : misP (la.map pr) (lb.map pr) = false) (h3 : ¬ 256 < (mrgP (la.map pr) (lb.map pr)).length) : merge3 la lb = (mrgP (la.map pr) (lb.map pr), 0) := by
  unfold merge3; rw [if_pos (by rw [h1, h2]; rfl), if_neg (by rw [h]; decide), if_neg h3]
/-- a valid store ascends -/
theorem valid_asc {l : List Bl} (h : validB l = true) : Asc ((l.map pr).map Prod.fst) := by
  rw [map_pr_fst]
  have hs := validB_sorted h
  refine List.pairwise_iff_getElem.2 fun i j hi hj hij => ?_
  rw [List.length_map] at hi hj
  simpa using hs i j hij hj
theorem asc_sorted {l : List Bl} (h : Asc ((l.map pr).map Prod.fst)) : SortedB l := by
  rw [map_pr_fst] at h
  intro i j hij hj
  have := (List.pairwise_iff_getElem.1 h) i j (by rw [List.length_map]; omega) (by rw [List.length_map]; exact hj) hij
  simpa using this
/-- the blob that is found stands at its place -/
theorem place_at {l : List Bl} {d : List UInt8} {x : Bl} (hs : SortedB l) (h : lookB l d = some x) : l[placeB l d]? = some x := by
  have hm := List.mem_of_find?_eq_some h
  have hd : x.d = d := by simpa using List.find?_some h
  obtain ⟨k, hk, e⟩ := List.getElem_of_mem hm
  have hp : placeB l d = k := by
    refine placeB_eq (Nat.le_of_lt hk) (fun p hp hpk => ?_) (fun hk' => ?_)
    · rw [← hd, ← e]; exact hs p k hpk hk
    · rw [e, hd]; exact lessD_irrefl d
  rw [hp, List.getElem?_eq_getElem hk, e]
theorem asc_ext : ∀ {P Q : PrL}, Asc (P.map Prod.fst) → Asc (Q.map Prod.fst) → (∀ d, lookP P d = lookP Q d) → P = Q
  | [], [], _, _, _ => rfl
  | [], q :: Q, _, _, h => by
    have := h q.1
    rw [lookP_cons, if_pos rfl] at this
    cases this
  | p :: P, [], _, _, h => by
    have := h p.1
    rw [lookP_cons, if_pos rfl] at this
    cases this
  | p :: P, q :: Q, hP, hQ, h => by
    rw [List.map_cons] at hP hQ
    have hP' := List.pairwise_cons.1 hP
    have hQ' := List.pairwise_cons.1 hQ
    have he : p.1 = q.1 := by
      by_cases e : p.1 = q.1
      · exact e
      · exfalso
        have h1 := h p.1
        rw [lookP_cons, if_pos rfl, lookP_cons, if_neg (fun e' => e e'.symm)] at h1
        have h2 := h q.1
        rw [lookP_cons, if_neg e, lookP_cons, if_pos rfl] at h2
        have m1 : p.1 ∈ Q.map Prod.fst := List.mem_map_of_mem (f := Prod.fst) (lookP_some h1.symm)
        have m2 : q.1 ∈ P.map Prod.fst := List.mem_map_of_mem (f := Prod.fst) (lookP_some h2)
        have l1 := hQ'.1 _ m1
        have l2 := hP'.1 _ m2
        have := lessD_trans l1 l2
        rw [lessD_irrefl] at this
        cases this
    have he2 : p.2 = q.2 := by
      have h1 := h p.1
      rw [lookP_cons, if_pos rfl, lookP_cons, if_pos he.symm] at h1
      exact Option.some.inj h1
    have hpq : p = q := Prod.ext he he2
    subst hpq
    congr 1
    refine asc_ext hP'.2 hQ'.2 fun d => ?_
    by_cases e : p.1 = d
    · subst e
      have n1 : p.1 ∉ P.map Prod.fst := fun hm => by have := hP'.1 _ hm; rw [lessD_irrefl] at this; cases this
      have n2 : p.1 ∉ Q.map Prod.fst := fun hm => by have := hQ'.1 _ hm; rw [lessD_irrefl] at this; cases this
      rw [lookP_none.2 n1, lookP_none.2 n2]
    · have h1 := h d
      rwa [lookP_cons, if_neg e, lookP_cons, if_neg e] at h1
theorem look_uni {P : PrL} (hP : Asc (P.map Prod.fst)) {p : List UInt8 × List UInt8} (hp : p ∈ P) {z : List UInt8} (hz : (p.1, z) ∈ P) : z = p.2 := by
  obtain ⟨i, hi, ei⟩ := List.getElem_of_mem hp
  obtain ⟨j, hj, ej⟩ := List.getElem_of_mem hz
  have key : ∀ a b (ha : a < P.length) (hb : b < P.length), a < b → P[a].1 ≠ P[b].1 := fun a b ha hb hab e => by
    have := (List.pairwise_iff_getElem.1 hP) a b (by rw [List.length_map]; exact ha) (by rw [List.length_map]; exact hb) hab
    simp only [List.getElem_map] at this
    rw [e, lessD_irrefl] at this
    cases this
  have hij : i = j := by
    rcases Nat.lt_trichotomy i j with h | h | h
    · exact absurd (by rw [ei, ej]) (key i j hi hj h)
    · exact h
    · exact absurd (by rw [ei, ej]) (key j i hj hi h)
  subst hij
  rw [ei] at ej
  exact congrArg Prod.snd ej.symm
theorem mis_comm {P Q : PrL} (hP : Asc (P.map Prod.fst)) (hQ : Asc (Q.map Prod.fst)) (h : misP P Q = false) : misP Q P = false := by
  refine misP_of fun p hp y hy => ?_
  have h1 := lookP_some hy
  have h2 : lookP P p.1 = some p.2 := by
    cases hl : lookP P p.1 with
    | none => exact absurd (List.mem_map_of_mem (f := Prod.fst) hp) (lookP_none.1 hl)
    | some z =>
      have h3 := lookP_some hl
      have := look_uni hP hp h3
      rw [this]
  exact (misP_false h h1 h2).symm
theorem mrg_comm {P Q : PrL} (hP : Asc (P.map Prod.fst)) (hQ : Asc (Q.map Prod.fst)) (h : misP P Q = false) : mrgP P Q = mrgP Q P := by
  refine asc_ext (mrgP_asc hP) (mrgP_asc hQ) fun d => ?_
  rw [lookP_mrg (asc_nodup hQ), lookP_mrg (asc_nodup hP)]
  cases h1 : lookP P d with
  | none => cases lookP Q d <;> rfl
  | some y =>
    cases h2 : lookP Q d with
    | none => rfl
    | some z =>
      have := misP_false h (lookP_some h2) h1
      subst this; rfl
theorem mrg_idem {P Q : PrL} (hP : Asc (P.map Prod.fst)) (hQ : Asc (Q.map Prod.fst)) : mrgP (mrgP P Q) P = mrgP P Q := by
  refine asc_ext (mrgP_asc (mrgP_asc hP)) (mrgP_asc hP) fun d => ?_
  rw [lookP_mrg (asc_nodup hP), lookP_mrg (asc_nodup hQ)]
  cases lookP P d <;> cases lookP Q d <;> rfl
theorem mis_mrg {P Q : PrL} (hP : Asc (P.map Prod.fst)) (hQ : Asc (Q.map Prod.fst)) : misP (mrgP P Q) P = false := by
  refine misP_of fun p hp y hy => ?_
  rw [lookP_mrg (asc_nodup hQ)] at hy
  cases hl : lookP P p.1 with
  | none => exact absurd (List.mem_map_of_mem (f := Prod.fst) hp) (lookP_none.1 hl)
  | some z =>
    rw [hl] at hy
    have e1 : z = y := Option.some.inj hy
    have := look_uni hP hp (lookP_some hl)
    rw [← e1, this]
end Go.Adm

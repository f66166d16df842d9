/- Rows of the call's own, several cells an element, sorted. -/
import Derived.Test.YtkcmaembpfakdaaGreatDoorGen2
import Derived.Shelf.SlSortCmp.InsertionK
set_option linter.unusedSimpArgs false
set_option linter.unusedVariables false
namespace Go.Adm
open Go Go.RowKit Go.Sort Go.Proofs
theorem flat_at {α : Type} {enc : α → List Value} {k : Nat} (hk : ∀ x, (enc x).length = k) (h0 : 0 < k) : ∀ (l : List α) (t : Nat), (l.map enc).flatten[t]? = (l[t / k]?).bind fun x => (enc x)[t % k]?
  | [], t => by simp
  | x :: r, t => by
    rw [List.map_cons, List.flatten_cons, List.getElem?_append, hk]
    by_cases h : t < k
    · rw [if_pos h, Nat.div_eq_of_lt h, Nat.mod_eq_of_lt h]
      simp
    · rw [if_neg h, flat_at hk h0 r (t - k)]
      obtain ⟨u, rfl⟩ : ∃ u, t = k + u := ⟨t - k, by omega⟩
      rw [Nat.add_sub_cancel_left, Nat.add_div_left u h0, Nat.add_mod_left]
      simp
theorem flatK_list {α : Type} [Inhabited α] {enc : α → List Value} {k : Nat} (hk : ∀ x, (enc x).length = k) (h0 : 0 < k) (d : Array α) : (flatK enc k d).toList = (d.toList.map enc).flatten := by
  apply List.ext_getElem?
  intro t
  rw [flat_at hk h0]
  by_cases ht : t < d.size * k
  · have hd : t / k < d.size := Nat.div_lt_of_lt_mul (by rw [Nat.mul_comm]; exact ht)
    have h1 := get_flatK enc k d t ht
    rw [Array.getElem?_toList, Array.getElem?_eq_getElem (by rw [size_flatK]; exact ht)]
    rw [getElem!_pos (flatK enc k d) t (by rw [size_flatK]; exact ht)] at h1
    rw [h1, Array.getElem?_toList, Array.getElem?_eq_getElem hd, Option.bind_some, getElem!_pos d (t / k) hd]
    have hm : t % k < (enc d[t / k]).length := by rw [hk]; exact Nat.mod_lt _ h0
    rw [List.getElem?_eq_getElem hm, getElem!_pos (enc d[t / k]) (t % k) hm]
  · have hd : d.size ≤ t / k := (Nat.le_div_iff_mul_le h0).2 (by omega)
    rw [Array.getElem?_toList, Array.getElem?_eq_none (by rw [size_flatK]; omega), Array.getElem?_toList, Array.getElem?_eq_none hd]
    rfl
theorem own_holdsK {α : Type} [Inhabited α] {enc : α → List Value} {k : Nat} (hk : ∀ x, (enc x).length = k) (h0 : 0 < k) {w : World} {base g n cap : Nat} {e : TypeId} {d : Array α} (h : Own w base e k (some ⟨g, 0, none⟩) n cap ((d.toList.map enc).flatten)) : HoldsK enc k w g 0 d ∧ base ≤ g ∧ g < w.heap.size ∧ d.size = n := by
  have hl := h.1
  rw [← flatK_list hk h0, Array.length_toList, size_flatK] at hl
  have hn : d.size = n := Nat.eq_of_mul_eq_mul_right h0 hl
  rcases h.2 with ⟨e0, _⟩ | ⟨g', cap', cur, e0, hb, hg, hc, hm, hs, ht⟩
  · cases e0
  · injection e0 with e1 _ e3
    injection e1 with e1
    injection e1 with e1
    subst e1; subst e3
    have hlt : g < w.heap.size := by
      rcases Nat.lt_or_ge g w.heap.size with h' | h'
      · exact h'
      · rw [Array.getElem?_eq_none h'] at hg; cases hg
    refine ⟨fun j hj => ⟨?_, by simp [World.frozen?, hg]⟩, hb, hlt, hn⟩
    rw [← flatK_list hk h0] at ht
    have hj' : j < n * k := by rw [size_flatK, hn] at hj; exact hj
    have e4 : (cur.toList.take (n * k))[j]? = (flatK enc k d).toList[j]? := by rw [ht]
    rw [List.getElem?_take, if_pos hj', Array.getElem?_toList, Array.getElem?_toList, Array.getElem?_eq_getElem hj] at e4
    simp only [World.cell?, hg, Nat.zero_add]
    simp only [Option.isSome_none, Bool.false_eq_true, if_false]
    rw [e4, getElem!_pos (flatK enc k d) j hj]
    rfl
theorem own_sorted {α : Type} [Inhabited α] {enc : α → List Value} {k : Nat} (hk : ∀ x, (enc x).length = k) (h0 : 0 < k) {w : World} {base g n cap m : Nat} {e : TypeId} {d d' : Array α} {os : Array Obj} (h : Own w base e k (some ⟨g, 0, none⟩) n cap ((d.toList.map enc).flatten)) (hd : d'.size = d.size) :
    Own (sortWorldK enc k w g 0 m d' os) base e k (some ⟨g, 0, none⟩) n cap ((d'.toList.map enc).flatten) := by
  have hl := h.1
  rw [← flatK_list hk h0, Array.length_toList, size_flatK] at hl
  have hn : d.size = n := Nat.eq_of_mul_eq_mul_right h0 hl
  rcases h.2 with ⟨e0, _⟩ | ⟨g', cap', cur, e0, hb, hg, hc, hm, hs, ht⟩
  · cases e0
  · injection e0 with e1 _ e3
    injection e1 with e1
    injection e1 with e1
    subst e1; subst e3
    have hlt : g < w.heap.size := by
      rcases Nat.lt_or_ge g w.heap.size with h' | h'
      · exact h'
      · rw [Array.getElem?_eq_none h'] at hg; cases hg
    have hck : n * k ≤ cur.size := by rw [hs]; exact Nat.mul_le_mul_right k hc
    have hnk : (flatK enc k d').size = n * k := by rw [size_flatK, hd, hn]
    refine ⟨by rw [← flatK_list hk h0, Array.length_toList, hnk], .inr ⟨g, cap, putCells id 0 (flatK enc k d') cur, rfl, hb, ?_, hc, hm, by simpa [putCells] using hs, ?_⟩⟩
    · unfold sortWorldK grow putRowK putRow mapBlock
      simp only [Sort.ahead]
      rw [Array.getElem?_append_left (by simpa using hlt)]
      simp [Array.getElem?_modify, hg, onCells]
    · rw [← flatK_list hk h0]
      apply List.ext_getElem?
      intro j
      rw [List.getElem?_take, Array.getElem?_toList, Array.getElem?_toList]
      by_cases hj : j < n * k
      · have hjc : j < cur.size := by omega
        rw [if_pos hj, putCells, Array.getElem?_mapIdx, Array.getElem?_eq_getElem hjc, Option.map_some, if_pos (by rw [hnk]; omega), Array.getElem?_eq_getElem (by rw [hnk]; exact hj)]
        rw [Nat.sub_zero, getElem!_pos (flatK enc k d') j (by rw [hnk]; exact hj)]
        rfl
      · rw [if_neg hj, Array.getElem?_eq_none (by rw [hnk]; omega)]
theorem below_sorted {α : Type} [Inhabited α] {enc : α → List Value} {k m B g : Nat} {w0 w : World} {d : Array α} {os : Array Obj} (h : Go.RowKit.Below B w0 w) (hg : B ≤ g) (hB : B ≤ w.heap.size) : Go.RowKit.Below B w0 (sortWorldK enc k w g 0 m d os) := by
  refine ⟨h.os, h.tape, h.output, ?_, fun q hq => ?_⟩
  · unfold sortWorldK grow putRowK putRow mapBlock
    have := h.size
    simp [Sort.ahead]
    omega
  · rw [← h.block q hq]
    unfold sortWorldK grow putRowK putRow mapBlock
    simp only [Sort.ahead]
    rw [Array.getElem?_append_left (by simp; omega)]
    simp [Array.getElem?_modify, show g ≠ q by omega]
end Go.Adm

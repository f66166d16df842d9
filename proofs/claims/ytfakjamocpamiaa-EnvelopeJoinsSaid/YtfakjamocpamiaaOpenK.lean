/- Opening arrays of bytes, structs with arrays in them, slices of arrays of bytes. Opening the parameters of the laws on key trees. -/
import Derived.Test.YtfakjamocpamiaaOpen
import Derived.Test.YtfakjamocpamiaaKyG
import Derived.OpenShut
set_option linter.unusedSimpArgs false
set_option linter.unusedVariables false
set_option maxRecDepth 100000
namespace Go.Adm
open Go Go.RowKit Go.ChangeShapes Go.WideShapes Go.Deep

section
variable {H : Type} {enc : TypeId × Value → H} {P : Program} {w : World} {base : Nat} {spare : Nat → Bool} {held : Bool}

theorem trod_bytes {t e : TypeId} {n fuel : Nat} {cs : List Value} {x : DataW H × List MemPlace} (ht : P.underlying t = some (.array n e)) (he : P.underlying e = some (.int .u8)) (hce : P.cellsOf e = 1) (hct : P.cellsOf t = n)
  (h : DataW.trod enc P w base spare held fuel t cs = some x) : ∃ l : List UInt8, cs = l.map bv ∧ l.length = n := by
 obtain ⟨xs, m, _, rfl, hl, hx, hi⟩ := DataW.trod_array ht h
 rw [hct] at hl
 have key : ∀ i, i < n → ∃ b : UInt8, cs[i]? = some (bv b) := fun i hin => by
  have h1 := hi i hin
  rw [hce, Nat.mul_one, List.getElem?_eq_getElem (by omega)] at h1
  obtain ⟨a, e1, _, hw⟩ := DataW.trod_int he h1
  have h2 : 0 ≤ a ∧ a ≤ 255 := by
   have h3 : IntKind.u8.min = 0 := rfl
   have h4 : IntKind.u8.max = 255 := rfl
   simp [Lit.wf, h3, h4] at hw
   omega
  refine ⟨UInt8.ofNat a.toNat, ?_⟩
  rw [List.drop_eq_getElem_cons (by omega), List.take_succ_cons, List.take_zero] at e1
  injection e1 with e1 _
  rw [List.getElem?_eq_getElem (by omega), e1]
  unfold bv
  rw [UInt8.toNat_ofNat']
  have : ((a.toNat % 2 ^ 8 : Nat) : Int) = a := by omega
  rw [this]
 obtain ⟨f, hf⟩ := choose_lt key
 refine ⟨(List.range n).map f, ?_, by simp⟩
 apply List.ext_getElem?
 intro i
 rw [List.getElem?_map, List.getElem?_map]
 by_cases h1 : i < n
 ·rw [List.getElem?_range h1, hf i h1]; rfl
 ·rw [List.getElem?_eq_none (by omega), List.getElem?_eq_none (by simp; omega)]; rfl
theorem rd_flat {size : Nat} {ad : Addr} : ∀ (es : List (List Value)) (k : Nat), (∀ e ∈ es, e.length = size) → (∀ i (hi : i < es.length) r u, es[i][r]? = some u → w.cell? ((ad.add ((k + i) * size)).add r) = some u) →
  ∀ j u, es.flatten[j]? = some u → w.cell? ((ad.add (k * size)).add j) = some u
 | [], _, _, _, j, u, h => by simp at h
 | e :: es, k, he, hc, j, u, h => by
  have hl := he e (by simp)
  rw [List.flatten_cons] at h
  by_cases hj : j < size
  ·rw [List.getElem?_append_left (by omega)] at h
   have := hc 0 (by simp) j u h
   rwa [Nat.add_zero] at this
  ·rw [List.getElem?_append_right (by omega), hl] at h
   have := rd_flat es (k + 1) (fun x hx => he x (by simp [hx])) (fun i hi r u hu => by
    have := hc (i + 1) (by simpa using hi) r u (by simpa using hu)
    rwa [show k + (i + 1) = k + 1 + i from by omega] at this) (j - size) u h
   rw [add_add] at this ⊢
   rwa [show (k + 1) * size + (j - size) = k * size + j from by rw [Nat.add_mul, Nat.one_mul]; omega] at this
/-- a slice of arrays of bytes -/
theorem trod_rows {t u e : TypeId} {sz fuel : Nat} {cs : List Value} {x : DataW H × List MemPlace} (hsz : 0 < sz) (ht : P.underlying t = some (.slice u)) (hu : P.underlying u = some (.array sz e)) (he : P.underlying e = some (.int .u8)) (hce : P.cellsOf e = 1) (hcu : P.cellsOf u = sz)
  (h : DataW.trod enc P w base (fun _ => true) held fuel t cs = some x) :
  ∃ A n c l, cs = [.slice A n c] ∧ n ≤ c ∧ c ≤ maxLen ∧ l.length = n ∧ (∀ y ∈ l, y.length = sz) ∧ Els w w.heap.size sz A n (hvs l) := by
 rcases open_slice ht h with ⟨rfl, _⟩ | ⟨a, len, cap, m, n, D, Pl, rfl, _, hl, hm, hmm, _, hx⟩
 ·exact ⟨none, 0, 0, [], rfl, Nat.le_refl _, by decide, rfl, by simp, Els.nil⟩
 ·simp only [if_true] at hmm
  subst hmm
  rw [hcu] at hx
  have key : ∀ i, i < len → ∃ l : List UInt8, l.length = sz ∧ ∀ r v, (l.map bv)[r]? = some v → w.cell? ((a.add (i * sz)).add r) = some v := fun i hi => by
   obtain ⟨cs', h1, h2⟩ := hx i (by omega)
   obtain ⟨l, rfl, hl2⟩ := trod_bytes hu he hce hcu h2
   obtain ⟨_, _, h3⟩ := World.cells?_some h1
   refine ⟨l, hl2, fun r v hv => ?_⟩
   rw [h3 r (by rw [List.getElem?_eq_some_iff] at hv; obtain ⟨h4, _⟩ := hv; rw [List.length_map] at h4; omega)]
   exact hv
  obtain ⟨f, hf⟩ := choose_lt key
  refine ⟨some a, len, m, (List.range len).map f, rfl, hl, hm, by simp, fun y hy => ?_, ⟨⟨?_, fun hn => ?_⟩, fun y hy => ?_, by simp [hvs]⟩⟩
  ·obtain ⟨i, hi, rfl⟩ := List.mem_map.1 hy
   exact (hf i (by simpa using hi)).1
  ·rw [flat_len (size := sz) fun y hy => ?_]
   ·simp [hvs]
   ·obtain ⟨z, hz, rfl⟩ := List.mem_map.1 hy
    obtain ⟨i, hi, rfl⟩ := List.mem_map.1 hz
    rw [List.length_map]
    exact (hf i (by simpa using hi)).1
  ·have hlen : 0 < len := by
    rcases Nat.eq_zero_or_pos len with h0 | h0
    ·subst h0; simp at hn
    ·exact h0
   have h0 := (hf 0 hlen)
   have h1 := h0.2 0 (bv (f 0)[0]) (by rw [List.getElem?_map, List.getElem?_eq_getElem (by omega)]; rfl)
   have h2 := World.block_lt_of_cell? w _ h1
   rw [add_block, add_block] at h2
   refine ⟨a, rfl, h2, fun j v hv => ?_⟩
   have h3 := rd_flat (w := w) (size := sz) (ad := a) (hvs ((List.range len).map f)) 0 (fun y hy => by
    obtain ⟨z, hz, rfl⟩ := List.mem_map.1 hy
    obtain ⟨i, hi, rfl⟩ := List.mem_map.1 hz
    rw [List.length_map]
    exact (hf i (by simpa using hi)).1) (fun i hi r v hv => by
     have hi' : i < len := by simpa [hvs] using hi
     rw [Nat.zero_add]
     refine (hf i hi').2 r v ?_
     simpa [hvs] using hv) j v hv
   rw [add_add, Nat.zero_mul, Nat.zero_add] at h3
   exact h3
  ·obtain ⟨z, hz, rfl⟩ := List.mem_map.1 hy
   obtain ⟨i, hi, rfl⟩ := List.mem_map.1 hz
   rw [List.length_map]
   exact (hf i (by simpa using hi)).1
end
end Go.Adm
namespace Go.Proofs.Ytfakjamocpamiaa
open Go Go.RowKit Go.Adm Go.ChangeShapes Go.WideShapes Go.Deep

section
variable {H : Type} {enc : TypeId × Value → H} {w : World} {base b0 : Nat} {held : Bool} {r : Reach} {v : Value} {d : DataW H} {ps : List MemPlace}
theorem fld {P : Program} {t : TypeId} {fs : Array Field} {fuel : Nat} {cs : List Value} {x : DataW H × List MemPlace} (ht : P.underlying t = some (.struct fs)) (h : DataW.trod enc P w base (fun _ => true) held fuel t cs = some x) (i : Nat) (f : Field) (hf : fs[i]? = some f) :
  ∃ m y, DataW.trod enc P w base (fun _ => true) held m f.type ((cs.drop f.offset).take (P.cellsOf f.type)) = some y := by
 obtain ⟨xs, n, _, rfl, hl, hlen, hi⟩ := DataW.trod_struct ht h
 have hlt : i < xs.length := by
  rw [hlen]
  rw [Array.getElem?_eq_some_iff] at hf
  obtain ⟨h1, _⟩ := hf
  simpa using h1
 have := hi i f (by simpa using hf)
 rw [List.getElem?_eq_getElem hlt] at this
 exact ⟨n, _, this⟩
end
end Go.Proofs.Ytfakjamocpamiaa

/- Opening structs: their fields one by one. -/
import Derived.Test.YtjdinakdkdjocaaGreatDoorOpen
import Derived.OpenShut
set_option linter.unusedSimpArgs false
set_option linter.unusedVariables false
set_option maxRecDepth 100000
namespace Go.Adm
open Go Go.RowKit Go.ChangeShapes Go.WideShapes Go.Deep
theorem cut_at {cs x : List Value} {o k : Nat} (h : (cs.drop o).take k = x) : cs.drop o = x ++ cs.drop (o + k) := by
  rw [← h, ← List.drop_drop, List.take_append_drop]
section
variable {H : Type} {enc : TypeId × Value → H} {P : Program} {w : World} {base : Nat} {spare : Nat → Bool} {held : Bool}
theorem trod_arr {t e : TypeId} {n fuel : Nat} {cs : List Value} {x : DataW H × List MemPlace} (ht : P.underlying t = some (.array n e)) (he : P.underlying e = some (.int .u8)) (hce : P.cellsOf e = 1) (hct : P.cellsOf t = n)
    (h : DataW.trod enc P w base spare held fuel t cs = some x) : ∃ l : List UInt8, cs = l.map bv ∧ l.length = n := by
  obtain ⟨xs, m, _, rfl, hl, hx, hi⟩ := DataW.trod_array ht h
  rw [hct] at hl
  have key : ∀ i, i < n → ∃ b : UInt8, cs[i]? = some (bv b) := fun i hin => by
    have h1 := hi i hin
    rw [hce, Nat.mul_one, List.getElem?_eq_getElem (by omega)] at h1
    obtain ⟨a, e1, _, hw⟩ := DataW.trod_int he h1
    have h2 : 0 ≤ a ∧ a ≤ 255 := by
      have h3 : IntKind.u8.min = 0 := rfl
      have h4 : IntKind.u8.max = 255 := rfl
      simp [Lit.wf, h3, h4] at hw
      omega
    refine ⟨UInt8.ofNat a.toNat, ?_⟩
    rw [List.drop_eq_getElem_cons (by omega), List.take_succ_cons, List.take_zero] at e1
    injection e1 with e1 _
    rw [List.getElem?_eq_getElem (by omega), e1]
    unfold bv
    rw [UInt8.toNat_ofNat']
    have : ((a.toNat % 2 ^ 8 : Nat) : Int) = a := by omega
    rw [this]
  obtain ⟨f, hf⟩ := choose_lt key
  refine ⟨(List.range n).map f, ?_, by simp⟩
  apply List.ext_getElem?
  intro i
  rw [List.getElem?_map, List.getElem?_map]
  by_cases h1 : i < n
  · rw [List.getElem?_range h1, hf i h1]; rfl
  · rw [List.getElem?_eq_none (by omega), List.getElem?_eq_none (by simp; omega)]; rfl
/-- a field, and what is small of it -/
theorem fldS {t : TypeId} {fs : Array Field} {fuel : Nat} {cs : List Value} {x : DataW H × List MemPlace} (ht : P.underlying t = some (.struct fs)) (h : DataW.trod enc P w base spare held fuel t cs = some x) (hs : Small P t x.1) (i : Nat) (f : Field) (hf : fs[i]? = some f) :
    ∃ m y, DataW.trod enc P w base spare held m f.type ((cs.drop f.offset).take (P.cellsOf f.type)) = some y ∧ Small P f.type y.1 := by
  obtain ⟨xs, n, _, rfl, hl, hlen, hi⟩ := DataW.trod_struct ht h
  have hlt : i < xs.length := by
    rw [hlen]
    rw [Array.getElem?_eq_some_iff] at hf
    obtain ⟨h1, _⟩ := hf
    simpa using h1
  have := hi i f (by simpa using hf)
  rw [List.getElem?_eq_getElem hlt] at this
  refine ⟨n, _, this, fun z hz => hs z ?_⟩
  simp only [DataW.weights, ht]
  exact DataW.weights_mem_each (j := i) (by simp [hf]) (by rw [List.getElem?_map, List.getElem?_eq_getElem hlt]; rfl) z hz
end
end Go.Adm

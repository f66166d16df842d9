/- Opening slices of bytes. -/
import Derived.Test.YtfakjamocpamiaaOpen
import Derived.OpenShut
import Derived.ChangeSlices
set_option linter.unusedSimpArgs false
set_option linter.unusedVariables false
set_option maxRecDepth 100000
namespace Go.Adm
open Go Go.RowKit Go.ChangeShapes Go.WideShapes Go.Deep

section
variable {H : Type} {enc : TypeId × Value → H} {P : Program} {w : World} {base : Nat} {spare : Nat → Bool} {held : Bool}
def ub (z : Int) : UInt8 := UInt8.ofNat z.toNat
theorem ub_bv {z : Int} (h : (Lit.int .u8 z).wf = true) : Value.int .u8 z = bv (ub z) := by
 have h2 : 0 ≤ z ∧ z ≤ 255 := by
  have h3 : IntKind.u8.min = 0 := rfl
  have h4 : IntKind.u8.max = 255 := rfl
  simp [Lit.wf, h3, h4] at h
  omega
 unfold bv ub
 rw [UInt8.toNat_ofNat']
 have : ((z.toNat % 2 ^ 8 : Nat) : Int) = z := by omega
 rw [this]
/-- a slice of bytes -/
theorem open_bs {t e : TypeId} {fuel : Nat} {v : Value} {x : DataW H × List MemPlace} (ht : P.underlying t = some (.slice e)) (he : P.underlying e = some (.int .u8)) (hc : P.cellsOf e = 1) (hbe : 0 < P.bytesOf e)
  (h : DataW.trod enc P w base (fun _ => true) held fuel t [v] = some x) (hs : Small P t x.1) :
  ∃ (A : Option Addr) (c : Nat) (b : List UInt8), v = .slice A b.length c ∧ b.length ≤ c ∧ c ≤ 140737488351232 ∧ Rd w w.heap.size 1 A b.length (b.map bv) := by
 rcases open_ints ht he hc h with ⟨hcs, hx⟩ | ⟨a, len, cap, zs, hcs, _, hl, hm, hz, hx, hcell, hws⟩
 ·injection hcs with hv _
  exact ⟨none, 0, [], hv, Nat.le_refl _, by decide, Rd.nil⟩
 ·injection hcs with hv _
  simp only [if_true] at hz
  subst hx
  have hcap := hs.cap ht hbe
  simp only [lits, List.length_map, List.length_take, List.length_drop] at hcap
  have hln : ((zs.take len).map ub).length = len := by rw [List.length_map, List.length_take]; omega
  refine ⟨some a, cap, (zs.take len).map ub, by rw [hln]; exact hv, by rw [hln]; exact hl, by omega, ?_⟩
  rw [hln]
  refine ⟨by rw [List.length_map, hln]; omega, fun hn => ?_⟩
  refine ⟨a, rfl, lt_of_cell (hcell 0 (by omega)), fun j u hu => ?_⟩
  have hj : j < len := by
   have := (List.getElem?_eq_some_iff.1 hu).1
   rw [List.length_map, hln] at this; exact this
  rw [hcell j (by omega)]
  rw [List.getElem?_map, List.getElem?_map, List.getElem?_take_of_lt hj, List.getElem?_eq_getElem (by omega)] at hu
  simp only [Option.map_some, Option.some.injEq] at hu
  rw [← hu]
  have hw := hws zs[j] (List.getElem_mem (by omega))
  rw [← ub_bv hw]
  simp [List.getD, show j < zs.length by omega]
end
end Go.Adm
namespace Go.Proofs.Ytfakjamocpamiaa
open Go Go.RowKit Go.Adm Go.ChangeShapes Go.WideShapes Go.Deep
section
variable {H : Type} {enc : TypeId × Value → H} {w : World} {base b0 : Nat} {held : Bool} {r : Reach} {v : Value} {d : DataW H} {ps : List MemPlace}
end
end Go.Proofs.Ytfakjamocpamiaa

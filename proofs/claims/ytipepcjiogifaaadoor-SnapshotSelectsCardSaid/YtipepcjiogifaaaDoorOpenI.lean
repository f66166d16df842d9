/- Opening a slice of ints. -/
import Derived.Test.YtipepcjiogifaaaDoorOpen
import Derived.Test.YtipepcjiogifaaaDoorTapA
import Derived.ChangeSlices
set_option linter.unusedSimpArgs false
set_option linter.unusedVariables false
set_option maxRecDepth 100000
namespace Go.Proofs.YtipepcjiogifaaaDoor
open Go Go.RowKit Go.Adm Go.ChangeShapes Go.WideShapes Go.Deep
section
variable {H : Type} {enc : TypeId × Value → H} {w : World} {base b0 : Nat} {held : Bool} {r : Reach} {v : Value} {d : DataW H} {ps : List MemPlace}
theorem open_iv (hval : Value.okWide Tryd.prog w r b0 23 v) (hd : DataW.Trod enc Tryd.prog w base (fun _ => true) held 23 v d ps) :
    ∃ (A : Option Addr) (n c : Nat) (L : List Int), v = .slice A n c ∧ Rd w w.heap.size 1 A n (L.map iv) := by
  obtain ⟨x, l, k, rfl⟩ := okWide_slice Tryd.underlying23 hval
  obtain ⟨fu, f⟩ := hd
  rcases open_ints Tryd.underlying23 Tryd.underlying3 (by kernel_rfl) f with ⟨hcs, hx⟩ | ⟨a, len, cap, zs, hcs, _, hl, hm, hz, hx, hcell, hws⟩
  · injection hcs with hv _
    exact ⟨none, 0, 0, [], hv, Rd.nil⟩
  · injection hcs with hv _
    simp only [if_true] at hz
    refine ⟨some a, len, cap, zs.take len, hv, ⟨by rw [List.length_map, List.length_take]; omega, fun hn => ?_⟩⟩
    refine ⟨a, rfl, lt_of_cell (hcell 0 (by omega)), fun j u hu => ?_⟩
    rw [List.getElem?_map, Option.map_eq_some_iff] at hu
    obtain ⟨s, hs', rfl⟩ := hu
    have hj : j < len := by
      rcases Nat.lt_or_ge j len with h1 | h1
      · exact h1
      · rw [List.getElem?_take, if_neg (by omega)] at hs'; cases hs'
    rw [hcell j (by omega)]
    rw [List.getElem?_take_of_lt hj] at hs'
    simp [iv, List.getD, hs']
end
end Go.Proofs.YtipepcjiogifaaaDoor

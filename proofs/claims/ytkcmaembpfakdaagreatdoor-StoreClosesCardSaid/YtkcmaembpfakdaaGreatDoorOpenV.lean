/- Opening a slice of slices of ints. -/
import Derived.Test.YtkcmaembpfakdaaGreatDoorOpenB
import Derived.Test.YtkcmaembpfakdaaGreatDoorSto21
set_option linter.unusedSimpArgs false
set_option linter.unusedVariables false
set_option maxRecDepth 100000
namespace Go.Adm
open Go Go.RowKit Go.ChangeShapes Go.WideShapes Go.Deep
section
variable {P : Program} {H : Type} {enc : TypeId × Value → H} {w : World} {base : Nat} {held : Bool}
theorem iz_wf {z : Int} (h : (Lit.int .i64 z).wf = true) : -9223372036854775808 ≤ z ∧ z ≤ 9223372036854775807 := by
  have h3 : IntKind.i64.min = -9223372036854775808 := rfl
  have h4 : IntKind.i64.max = 9223372036854775807 := rfl
  simp [Lit.wf, h3, h4] at h
  omega
def IntB (L : List Int) : Prop := L.length ≤ 140737488351232 ∧ ∀ z ∈ L, -9223372036854775808 ≤ z ∧ z ≤ 9223372036854775807
/-- a slice of ints -/
theorem open_is {t e : TypeId} {fuel : Nat} {v : Value} {x : DataW H × List MemPlace} (ht : P.underlying t = some (.slice e)) (he : P.underlying e = some (.int .i64)) (hc : P.cellsOf e = 1) (hbe : 0 < P.bytesOf e)
    (h : DataW.trod enc P w base (fun _ => true) held fuel t [v] = some x) (hs : Small P t x.1) :
    ∃ L : List Int, IntsAt w w.heap.size v L ∧ IntB L := by
  rcases open_ints ht he hc h with ⟨hcs, hx⟩ | ⟨a, len, cap, zs, hcs, _, hl, hm, hz, hx, hcell, hws⟩
  · injection hcs with hv _
    exact ⟨[], ⟨none, 0, hv, Rd.nil⟩, by simp, fun z hz => by cases hz⟩
  · injection hcs with hv _
    simp only [if_true] at hz
    subst hx
    have hcap := hs.cap ht hbe
    simp only [lits, List.length_map, List.length_take, List.length_drop] at hcap
    have hln : (zs.take len).length = len := by rw [List.length_take]; omega
    refine ⟨zs.take len, ⟨some a, cap, by rw [hln]; exact hv, ?_⟩, by rw [hln]; omega, fun z hz => iz_wf (hws z (List.mem_of_mem_take hz))⟩
    rw [hln]
    refine ⟨by rw [List.length_map, hln]; omega, fun hn => ?_⟩
    refine ⟨a, rfl, lt_of_cell (hcell 0 (by omega)), fun j u hu => ?_⟩
    have hj : j < len := by
      have := (List.getElem?_eq_some_iff.1 hu).1
      rw [List.length_map, hln] at this; exact this
    rw [hcell j (by omega)]
    rw [List.getElem?_map, List.getElem?_take_of_lt hj, List.getElem?_eq_getElem (by omega)] at hu
    simp only [Option.map_some, Option.some.injEq] at hu
    rw [← hu]
    simp [List.getD, show j < zs.length by omega, iz]
/-- a slice of slices of ints -/
theorem open_irows {t u e : TypeId} {fuel : Nat} {v : Value} {x : DataW H × List MemPlace} (ht : P.underlying t = some (.slice u)) (hu : P.underlying u = some (.slice e)) (he : P.underlying e = some (.int .i64)) (hcu : P.cellsOf u = 1) (hce : P.cellsOf e = 1) (hbu : 0 < P.bytesOf u) (hbe : 0 < P.bytesOf e)
    (h : DataW.trod enc P w base (fun _ => true) held fuel t [v] = some x) (hs : Small P t x.1) :
    ∃ A n c rows, v = .slice A n c ∧ n ≤ c ∧ c ≤ 140737488351232 ∧ IRows w w.heap.size A n rows ∧ ∀ r ∈ rows, IntB r := by
  rcases open_slice1 ht hcu h with ⟨hcs, hx⟩ | ⟨a, len, cap, m, n, V, D, Pl, hcs, _, hl, hm, hmm, hx, hcell⟩
  · injection hcs with hv _
    exact ⟨none, 0, 0, [], hv, Nat.le_refl _, by decide, ⟨⟨[], Rd.nil, .nil⟩⟩, fun r hr => by cases hr⟩
  · injection hcs with hv _
    simp only [if_true] at hmm
    rw [hmm] at hx hcell
    clear hmm
    subst hx
    have hcap := hs.cap ht hbu
    simp only [List.length_map, List.length_range] at hcap
    have hrow : ∀ i, i < len → ∃ L : List Int, IntsAt w w.heap.size (V i) L ∧ IntB L := fun i hi => by
      obtain ⟨_, htr⟩ := hcell i (by omega)
      have hsm : Small P u (D i) := hs.elem ht (List.mem_append.2 (.inl (List.mem_map.2 ⟨i, List.mem_range.2 hi, rfl⟩)))
      exact open_is hu he hce hbe htr hsm
    obtain ⟨R, hR⟩ := choose_lt hrow
    refine ⟨some a, len, cap, (List.range len).map R, hv, hl, by omega, ⟨⟨(List.range len).map V, ⟨by simp, fun hn => ?_⟩, ?_⟩⟩, fun r hr => ?_⟩
    · refine ⟨a, rfl, lt_of_cell (hcell 0 (by omega)).1, fun j u hu => ?_⟩
      rw [List.getElem?_map, Option.map_eq_some_iff] at hu
      obtain ⟨i, hi, rfl⟩ := hu
      obtain ⟨hi1, hi2⟩ := List.getElem?_eq_some_iff.1 hi
      simp at hi1 hi2
      subst hi2
      exact (hcell j (by omega)).1
    · have key : ∀ L : List Nat, (∀ i ∈ L, i < len) → All2 (IntsAt w w.heap.size) (L.map V) (L.map R) := by
        intro L
        induction L with
        | nil => intro _; exact .nil
        | cons i L ih => intro hL; exact .cons (hR i (hL i (by simp))).1 (ih fun j hj => hL j (by simp [hj]))
      exact key _ fun i hi => List.mem_range.1 hi
    · obtain ⟨i, hi, rfl⟩ := List.mem_map.1 hr
      exact (hR i (List.mem_range.1 hi)).2
end
end Go.Adm
namespace Go.Proofs.YtkcmaembpfakdaaGreatDoor
open Go Go.RowKit Go.Adm Go.ChangeShapes Go.WideShapes Go.Deep
section
variable {H : Type} {enc : TypeId × Value → H} {w : World} {base b0 : Nat} {held : Bool} {r : Reach} {v : Value} {d : DataW H} {ps : List MemPlace}
theorem open_ivs (hval : Value.okWide Tryz.prog w r b0 24 v) (hd : DataW.Trod enc Tryz.prog w base (fun _ => true) held 24 v d ps) (hs : Small Tryz.prog 24 d) :
    ∃ A n c ls, v = .slice A n c ∧ n ≤ 140737488351232 ∧ IRows w w.heap.size A n ls ∧ ∀ r ∈ ls, IntB r := by
  obtain ⟨x, l, k, rfl⟩ := okWide_slice Tryz.underlying24 hval
  obtain ⟨fu, f⟩ := hd
  obtain ⟨A, n, c, ls, e, h1, h2, h3, h4⟩ := open_irows Tryz.underlying24 Tryz.underlying42 Tryz.underlying3 (by kernel_rfl) (by kernel_rfl) (of_decide_eq_true (by kernel_rfl)) (of_decide_eq_true (by kernel_rfl)) f hs
  exact ⟨A, n, c, ls, e, by omega, h3, h4⟩
theorem open_isl (hval : Value.okWide Tryz.prog w r b0 42 v) (hd : DataW.Trod enc Tryz.prog w base (fun _ => true) held 42 v d ps) (hs : Small Tryz.prog 42 d) :
    ∃ A c zs, v = .slice A zs.length c ∧ Rd w w.heap.size 1 A zs.length (zs.map iz) ∧ IntB zs := by
  obtain ⟨x, l, k, rfl⟩ := okWide_slice Tryz.underlying42 hval
  obtain ⟨fu, f⟩ := hd
  obtain ⟨L, ⟨A, c, e, h⟩, hb⟩ := open_is Tryz.underlying42 Tryz.underlying3 (by kernel_rfl) (of_decide_eq_true (by kernel_rfl)) f hs
  exact ⟨A, c, L, e, h, hb⟩
end
end Go.Proofs.YtkcmaembpfakdaaGreatDoor

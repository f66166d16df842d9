/- Digests sorted. -/
import Derived.Test.YtkcmaembpfakdaaGreatDoorLayD
import Derived.Test.YtkcmaembpfakdaaGreatDoorMkO
import Derived.Test.YtkcmaembpfakdaaGreatDoorLkP
import Derived.Test.YtkcmaembpfakdaaGreatDoorSto6
import Derived.Shelf.SlSortCmp.NoneTotal
import Derived.StillTailTactics
set_option linter.unusedSimpArgs false
set_option linter.unusedVariables false
set_option maxRecDepth 100000
namespace Go.Adm
open Go Go.RowKit Go.Sort Go.Proofs
abbrev DD := {d : List UInt8 // d.length = 32}
instance : Inhabited DD := ⟨⟨z32, rfl⟩⟩
def encDg (x : DD) : List Value := x.1.map bv
theorem grown_sorted {α : Type} [Inhabited α] {enc : α → List Value} {k m g : Nat} {w : World} {d : Array α} {os : Array Obj} : w.grownBy (sortWorldK enc k w g 0 m d os) (some g) := by
  refine ⟨rfl, rfl, rfl, ?_, fun q hq hne => ?_⟩
  · unfold sortWorldK grow putRowK putRow mapBlock
    simp [Sort.ahead]
  · unfold sortWorldK grow putRowK putRow mapBlock
    simp only [Sort.ahead]
    rw [Array.getElem?_append_left (by simp; omega)]
    simp [Array.getElem?_modify, show g ≠ q from fun e => hne (by rw [e])]
theorem dd_list : ∀ (l : List (List UInt8)), (∀ x ∈ l, x.length = 32) → ∃ L : List DD, L.map (fun x => x.1) = l
  | [], _ => ⟨[], rfl⟩
  | x :: l, h => by
    obtain ⟨L, hL⟩ := dd_list l (fun y hy => h y (List.mem_cons_of_mem _ hy))
    exact ⟨⟨x, h x List.mem_cons_self⟩ :: L, by rw [List.map_cons, hL]⟩
theorem dd_enc (L : List DD) : L.map encDg = dvs (L.map (fun x => x.1)) := by unfold dvs; rw [List.map_map]; rfl
end Go.Adm
namespace Go.Proofs.YtkcmaembpfakdaaGreatDoor
open Go Go.RowKit Go.Adm Go.Sort Go.Proofs
def cmpDg (x y : DD) : Int := Lib.compareBytes x.1 y.1
theorem lt_cmpD (x y : DD) : ltOf cmpDg x y = lessD x.1 y.1 := rfl
theorem swoD : SWO (ltOf cmpDg) where
  irrefl x := lessD_irrefl _
  trans x y z h1 h2 := by rw [lt_cmpD] at *; exact lessD_trans h1 h2
  ntrans x y z h1 h2 := by
    rw [lt_cmpD] at *
    cases h3 : lessD x.1 z.1 with
    | false => rfl
    | true =>
      cases h4 : lessD y.1 x.1 with
      | false =>
        have e := lessD_total h1 h4
        rw [e] at h3; rw [h3] at h2; cases h2
      | true =>
        have := lessD_trans h4 h3
        rw [this] at h2; cases h2
set_option maxHeartbeats 1600000 in
theorem closureD (x y : List UInt8) (hx : x.length = 32) (hy : y.length = 32) (W : World) : Calls Tryz.prog 30 #[.agg (x.map bv).toArray, .agg (y.map bv).toArray] W fun e w' => e = .returned (.int .i64 (Lib.compareBytes x y)) ∧ ∃ q os', w' = grow (W.drewN q) os' := by
  have hA : All ((W.alloc (.cells (x.map bv).toArray 32)).alloc (.cells (y.map bv).toArray 32)) [.cells (W.heap.size + 1) 32 (y.map bv), .cells W.heap.size 32 (x.map bv)] := ((show All W [] from trivial).new (l := x.map bv) _ 32 rfl rfl).new (l := y.map bv) (g := W.heap.size + 1) _ 32 (by simp) rfl
  have HD := Lib.hid hA.drew
  have HE : Hid (((W.alloc (.cells (x.map bv).toArray 32)).alloc (.cells (y.map bv).toArray 32)).drew = grow (W.drewN 1) #[.cells (x.map bv).toArray 32, .cells (y.map bv).toArray 32]) := Lib.hid (by rw [alloc_eq_grow, alloc_eq_grow, grow_grow]; rfl)
  have HX := Lib.hid hx
  have HY := Lib.hid hy
  clear hx hy hA
  go_enter Tryz.func30, Tryz.ntmps30
  go_upto_region 1 with (fail)
  refine wp_region_still_tail 2 (by kernel_rfl) (by kernel_rfl) ?_
  simp only [List.take_succ_cons, List.take_zero, List.drop_succ_cons, List.drop_zero]
  still_step
  still_step
  refine wpStill_nil ?_
  change wpList _ _ _ _ _ ((W.alloc (.cells (x.map bv).toArray 32)).alloc (.cells (y.map bv).toArray 32)).drew
  have hD := HD.out
  have he := HE.out
  clear HD HE
  generalize ((W.alloc (.cells (x.map bv).toArray 32)).alloc (.cells (y.map bv).toArray 32)).drew = V at *
  have HE2 := Lib.hid he
  clear he
  go_wp2_with fail
  refine (bytesCompare_any V ⟨W.heap.size, 0, none⟩ ⟨W.heap.size + 1, 0, none⟩ 32 32 x y HX.out HY.out (fun j u h => by rw [add_lit]; exact Cells.range (hD.at_ 1 rfl) j u h) (fun j u h => by rw [add_lit]; exact Cells.range (hD.at_ 0 rfl) j u h)).mono ?_
  rintro e w5 ⟨rfl, hw⟩
  rw [hw]
  go_wp2_with fail
  go_ret
  exact ⟨rfl, _, _, HE2.out⟩
theorem SortD_any (w : World) (base g c : Nat) (l : List (List UInt8)) (h32 : ∀ x ∈ l, x.length = 32) (hO : Go.Adm.Own w base 32 32 (some ⟨g, 0, none⟩) l.length c (dvs l).flatten) (hl : l.length ≤ 140737488355328) (hb : base ≤ w.heap.size) :
    Calls Tryz.prog 29 #[.slice (some ⟨g, 0, none⟩) l.length c, .func (.func 30) #[] #[]] w fun e w' => e = .returned (.tuple #[]) ∧ ∃ d : List (List UInt8), d.Perm l ∧ (d.Pairwise fun x y => lessD y x = false) ∧ Go.Adm.Own w' base 32 32 (some ⟨g, 0, none⟩) l.length c (dvs d).flatten ∧ w.grownBy w' (Value.slice (some ⟨g, 0, none⟩) l.length c).ownBlock := by
  obtain ⟨L, rfl⟩ := dd_list l h32
  rw [List.length_map] at *
  rw [← dd_enc] at hO
  have hk : ∀ x : DD, (encDg x).length = 32 := fun x => by unfold encDg; rw [List.length_map]; exact x.2
  have eg : ∀ args w, (callFunc 30 args).run Tryz.prog w = .ok (.enter 30 args) w := enters_of Tryz.func30 (by kernel_rfl) rfl
  have hO' : Go.Adm.Own w base 32 32 (some ⟨g, 0, none⟩) L.length c ((L.toArray.toList.map encDg).flatten) := hO
  obtain ⟨hH, hbg, hgw, hsz⟩ := own_holdsK hk (by decide) hO'
  have hcon := AnyQ.slices_SortFunc Tryz.sortD 32 Tryz.isAgg32 Tryz.sizeOf32 encDg hk (fun x v hv => bv_one x.1 v hv) cmpDg swoD 30 #[] g 0 c L.toArray w eg (fun _ _ _ _ x y => closureD x.1 y.1 x.2 y.2 _) hH hgw (by rw [hsz]; omega)
  change Calls Tryz.prog 29 _ _ _ at hcon
  rw [hsz] at hcon
  refine hcon.mono ?_
  rintro e w' ⟨rfl, d', n, os, hp, hs, rfl⟩
  obtain ⟨p1, -, p3⟩ := hp
  have hd' : d'.size = L.length := by rw [p1, hsz]
  refine ⟨rfl, d'.toList.map (fun x => x.1), ?_, ?_, ?_, grown_sorted⟩
  · have e1 : d'.extract 0 L.length = d' := by rw [← hd']; simp
    have e2 : L.toArray.extract 0 L.length = L.toArray := by rw [← hsz]; simp
    rw [e1, e2] at p3
    exact p3.map _
  · rw [List.pairwise_map, List.pairwise_iff_getElem]
    intro i j hi hj hij
    rw [Array.length_toList] at hi hj
    have := hs i j (Nat.zero_le _) hij (by omega)
    rw [lt_cmpD, getElem!_pos d' j hj, getElem!_pos d' i hi] at this
    simpa using this
  · rw [← dd_enc]
    exact own_sorted hk (by decide) hO' p1
/-- a row of digests of the call's own, sorted -/
theorem SortDs_any (w : World) (base : Nat) (A : Option Addr) (c : Nat) (l : List (List UInt8)) (h32 : ∀ x ∈ l, x.length = 32) (hO : Go.Adm.Own w base 32 32 A l.length c (dvs l).flatten) (hl : l.length ≤ 140737488355328) (hb : base ≤ w.heap.size) :
    Calls Tryz.prog 29 #[.slice A l.length c, .func (.func 30) #[] #[]] w fun e w' => e = .returned (.tuple #[]) ∧ ∃ d : List (List UInt8), d.Perm l ∧ (d.Pairwise fun x y => lessD y x = false) ∧ Go.Adm.Own w' base 32 32 A l.length c (dvs d).flatten ∧ w.grownBy w' (Value.slice A l.length c).ownBlock := by
  rcases id hO with ⟨-, ⟨e0, e1⟩ | ⟨g, cap, cur, e0, -, -, -, -, -, -⟩⟩
  · have h0 : l = [] := List.eq_nil_of_length_eq_zero e1
    subst h0
    refine (AnyF.slices_SortFunc_none Tryz.sortD A c _ w).mono ?_
    rintro e w' ⟨rfl, rfl⟩
    exact ⟨rfl, [], List.Perm.refl _, List.Pairwise.nil, hO, World.grownBy.refl _ _⟩
  · injection e0 with e1 e2 e3
    subst e1 e3
    exact SortD_any w base g c l h32 hO hl hb
end Go.Proofs.YtkcmaembpfakdaaGreatDoor

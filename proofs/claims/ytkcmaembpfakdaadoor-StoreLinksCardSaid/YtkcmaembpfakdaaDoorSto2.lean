/- The order of digests, and the place of a blob: store.order, find's closure. -/
import Derived.Test.YtkcmaembpfakdaaDoorSto1
import Derived.Lib.BytesEntry
set_option linter.unusedSimpArgs false
set_option linter.unusedVariables false
set_option maxRecDepth 100000
namespace Go.Adm
open Go Go.RowKit
theorem bytesOf_nat (x : List UInt8) : Lib.bytesOf (x.map fun b => (b.toNat : Int)) = x := by
  unfold Lib.bytesOf
  rw [List.map_map]
  conv => rhs; rw [← List.map_id x]
  apply List.map_congr_left
  intro b _
  simp
theorem run_cmpBytes {P : Program} (w : World) (a b : Addr) (c c' : Nat) (x y : List UInt8) (hx : ∀ j u, (x.map bv)[j]? = some u → w.cell? (a.add j) = some u) (hy : ∀ j u, (y.map bv)[j]? = some u → w.cell? (b.add j) = some u) :
    (Extern.BytealgCompare.compare #[.slice (some a) x.length c, .slice (some b) y.length c']).run P w = .ok (.int .i64 (Lib.compareBytes x y)) w := by
  have key : ∀ (z : List UInt8) (d : Addr), (∀ j u, (z.map bv)[j]? = some u → w.cell? (d.add j) = some u) → (Extern.Bytes.loadBytes d z.length .empty).run P w = .ok ⟨z.toArray⟩ w := fun z d h => by
    have h1 := Lib.run_loadBytesX (P := P) w (z.map fun b => (b.toNat : Int)) d .empty (fun j u hu => by
      refine h j _ ?_
      rw [List.getElem?_map] at hu ⊢
      cases hz : z[j]? with
      | none => rw [hz] at hu; cases hu
      | some v => rw [hz] at hu; injection hu with hu; rw [← hu]; rfl)
    rw [List.length_map, bytesOf_nat] at h1
    rw [h1]
    congr 1
    apply ByteArray.ext
    show (#[] : Array UInt8) ++ z.toArray = z.toArray
    simp
  have h1 := key x a hx
  have h2 := key y b hy
  have hs := Lib.run_compareString (P := P) ⟨x.toArray⟩ ⟨y.toArray⟩ w
  change Sem.run P (do pure (goInt (Extern.BytealgCompare.cmp (← Extern.Bytes.bytesOf (.slice (some a) x.length c)) (← Extern.Bytes.bytesOf (.slice (some b) y.length c'))))) w = _
  change Sem.run P (do pure (goInt (Extern.BytealgCompare.cmp (← Extern.Bytes.bytesOf (.string ⟨x.toArray⟩)) (← Extern.Bytes.bytesOf (.string ⟨y.toArray⟩))))) w = _ at hs
  simp only [Extern.Bytes.bytesOf, Sem.run_bind, Sem.run_pure, h1, h2, Result.andThen] at hs ⊢
  exact hs
end Go.Adm
namespace Go.Proofs.YtkcmaembpfakdaaDoor
open Go Go.RowKit Go.Adm

set_option maxHeartbeats 800000 in
theorem bytesCompare_any (w : World) (a b : Addr) (c c' : Nat) (x y : List UInt8) (h1 : x.length = 32) (h2 : y.length = 32) (hx : ∀ j u, (x.map bv)[j]? = some u → w.cell? (a.add j) = some u) (hy : ∀ j u, (y.map bv)[j]? = some u → w.cell? (b.add j) = some u) :
    Calls Tryd.prog 50 #[.slice (some a) 32 c, .slice (some b) 32 c'] w fun e w' => e = .returned (.int .i64 (Lib.compareBytes x y)) ∧ w' = w := by
  have h := run_cmpBytes (P := Tryd.prog) w a b c c' x y hx hy
  rw [h1, h2] at h
  go_enter Tryd.func50, Tryd.ntmps50
  go_wp2_with fail
  rw [run_callFunc_extern Tryd.func66 (by kernel_rfl) (by kernel_rfl) (by kernel_rfl) (e := Extern.BytealgCompare.compare) (by kernel_rfl), h]
  go_wp2
  go_ret
  exact ⟨rfl, rfl⟩

set_option maxHeartbeats 800000 in
theorem order_any (w : World) (x y : List UInt8) (hx : x.length = 32) (hy : y.length = 32) :
    Calls Tryd.prog 35 #[.agg (x.map bv).toArray, .agg (y.map bv).toArray] w fun e w' => e = .returned (.int .i64 (Lib.compareBytes x y)) ∧ Below w.heap.size w w' := by
  have hR : All w [.kept w w.heap.size] := ⟨⟨Below.refl _ _, Nat.le_refl _⟩, trivial⟩
  have HX := Lib.hid hx
  have HY := Lib.hid hy
  clear hx hy
  go_enter Tryd.func35, Tryd.ntmps35
  go_upto_region 1 with (fail)
  refine wp_gen ((hR.new (l := x.map bv) _ 36 rfl rfl).new (l := y.map bv) (g := w.heap.size + 1) _ 36 (by simp) rfl) ?_
  intro W1 hW1
  clear hR
  refine wp_region_hops 2 [5, 6] [.cells (w.heap.size + 1) 36 (y.map bv), .cells w.heap.size 36 (x.map bv), .kept w w.heap.size]
    [.eq (.slice (some ⟨w.heap.size, 0, none⟩) 32 32), .eq (.slice (some ⟨w.heap.size + 1, 0, none⟩) 32 32)]
    (by kernel_rfl) (by kernel_rfl) hW1 rfl ?hops ?fin
  case hops =>
    refine ⟨?_, ?_, trivial⟩
    · intro a W hW hb hd K hK
      have b2 := hb 2 rfl
      go_simp
      exact hK _ _ (World.grownBy.refl _ _) rfl
    · intro a W hW hb hd K hK
      have b3 := hb 3 rfl
      go_simp
      exact hK _ _ (World.grownBy.refl _ _) rfl
  case fin =>
    intro vs V hV hv
    have e0 : vs 0 = _ := hv 0 (by decide)
    have e1 : vs 1 = _ := hv 1 (by decide)
    clear hv hW1
    simp only [putAll, List.drop_succ_cons, List.drop_zero, e0, e1, Act.put, List.setIfInBounds_toArray, List.set_cons_succ, List.set_cons_zero]
    clear e0 e1
    go_wp2_with fail
    refine (bytesCompare_any V ⟨w.heap.size, 0, none⟩ ⟨w.heap.size + 1, 0, none⟩ 32 32 x y HX.out HY.out (fun j u h => by rw [add_lit]; exact Cells.range (hV.at_ 1 rfl) j u h) (fun j u h => by rw [add_lit]; exact Cells.range (hV.at_ 0 rfl) j u h)).mono ?_
    rintro e w5 ⟨rfl, hw⟩
    rw [hw]
    go_wp2_with fail
    go_ret
    exact ⟨rfl, (hV.at_ 2 rfl : _ ∧ _).1⟩
end Go.Proofs.YtkcmaembpfakdaaDoor

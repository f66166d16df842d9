/- bytes.Compare of two slices that are not nil. -/
import Derived.Test.YtkdblhlehagmbaaDoorGen1
import Derived.Lib.Bytealg
import Derived.Lib.BytesEntry
set_option linter.unusedSimpArgs false
set_option linter.unusedVariables false
set_option maxRecDepth 100000
namespace Go.Adm
open Go Go.RowKit
theorem bytesOf_nat' (x : List UInt8) : Lib.bytesOf (x.map fun b => (b.toNat : Int)) = x := by
  unfold Lib.bytesOf
  rw [List.map_map]
  conv => rhs; rw [← List.map_id x]
  apply List.map_congr_left
  intro b _
  simp
theorem run_loadB {P : Program} {w : World} {d : Addr} {z : List UInt8} (h : ∀ j u, (z.map bv)[j]? = some u → w.cell? (d.add j) = some u) : (Extern.Bytes.loadBytes d z.length .empty).run P w = .ok ⟨z.toArray⟩ w := by
  have h1 := Lib.run_loadBytesX (P := P) w (z.map fun b => (b.toNat : Int)) d .empty (fun j u hu => by
    refine h j _ ?_
    rw [List.getElem?_map] at hu ⊢
    cases hz : z[j]? with
    | none => rw [hz] at hu; cases hu
    | some v => rw [hz] at hu; injection hu with hu; rw [← hu]; rfl)
  rw [List.length_map, bytesOf_nat'] at h1
  rw [h1]
  congr 1
  apply ByteArray.ext
  show (#[] : Array UInt8) ++ z.toArray = z.toArray
  simp
theorem run_cmpB {P : Program} {w : World} {a1 a2 : Addr} {c1 c2 : Nat} {l1 l2 : List UInt8} (h1 : ∀ j u, (l1.map bv)[j]? = some u → w.cell? (a1.add j) = some u) (h2 : ∀ j u, (l2.map bv)[j]? = some u → w.cell? (a2.add j) = some u) :
    (Extern.BytealgCompare.compare #[.slice (some a1) l1.length c1, .slice (some a2) l2.length c2]).run P w = .ok (.int .i64 (Lib.compareBytes l1 l2)) w := by
  have hb1 := run_loadB (P := P) h1
  have hb2 := run_loadB (P := P) h2
  change Sem.run P (do pure (goInt (Extern.BytealgCompare.cmp (← Extern.Bytes.bytesOf (.slice (some a1) l1.length c1)) (← Extern.Bytes.bytesOf (.slice (some a2) l2.length c2))))) w = _
  simp only [Extern.Bytes.bytesOf, Sem.run_bind, Sem.run_pure, hb1, hb2, Result.andThen, Lib.cmp_eq]
  rfl
end Go.Adm
namespace Go.Proofs.YtkdblhlehagmbaaDoor
open Go Go.RowKit Go.Adm
theorem bytesCompare_any (w : World) (a1 a2 : Addr) (c1 c2 : Nat) (l1 l2 : List UInt8) (h1 : ∀ j u, (l1.map bv)[j]? = some u → w.cell? (a1.add j) = some u) (h2 : ∀ j u, (l2.map bv)[j]? = some u → w.cell? (a2.add j) = some u) :
    Calls Tryd.prog 11 #[.slice (some a1) l1.length c1, .slice (some a2) l2.length c2] w fun e w' => e = .returned (.int .i64 (Lib.compareBytes l1 l2)) ∧ w' = w := by
  have H1 := Lib.hid h1
  have H2 := Lib.hid h2
  clear h1 h2
  go_enter Tryd.func11, Tryd.ntmps11
  go_wp2
  rw [run_callFunc_extern Tryd.func18 (by kernel_rfl) (by kernel_rfl) (by kernel_rfl) (e := Extern.BytealgCompare.compare) (by kernel_rfl), run_cmpB H1.out H2.out]
  simp only [Result.andThen]
  rw [Oper.upon_value]
  go_wp2
  go_ret
  exact ⟨ret_int (by simp), rfl⟩
end Go.Proofs.YtkdblhlehagmbaaDoor

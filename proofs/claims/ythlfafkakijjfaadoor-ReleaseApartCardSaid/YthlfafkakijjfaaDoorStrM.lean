/- Cells of structs; equality of digests. -/
import Derived.Test.YthlfafkakijjfaaDoorGen2
set_option linter.unusedSimpArgs false
set_option linter.unusedVariables false
set_option maxRecDepth 100000
namespace Go.Adm
open Go Go.RowKit
theorem cell_at {w : World} {g : Nat} {t : TypeId} {cs : List Value} (h : Cells w g t cs) {i : Nat} {v : Value} (hi : cs[i]? = some v) : w.cell? ⟨g, i, none⟩ = some v := by
  obtain ⟨hl, e⟩ := List.getElem?_eq_some_iff.1 hi
  rw [Cells.cell h hl, e]
theorem cell_dig {w : World} {g o : Nat} {t : TypeId} {cs : List Value} {d : List UInt8} (h : Cells w g t cs) (hd : (cs.drop o).take 32 = d.map bv) : ∀ j u, (d.map bv)[j]? = some u → w.cell? ((⟨g, o, none⟩ : Addr).add j) = some u := by
  intro j u hu
  rw [← hd, List.getElem?_take] at hu
  split at hu
  · rw [List.getElem?_drop] at hu
    rw [show (⟨g, o, none⟩ : Addr).add j = ⟨g, o + j, none⟩ from by simp [Addr.add]]
    exact cell_at h hu
  · cases hu
theorem ba_inj {a b : ByteArray} (h : a.toList = b.toList) : a = b := by
  rw [ByteArray.toList_eq, ByteArray.toList_eq] at h
  exact ByteArray.ext (Array.ext' h)
end Go.Adm
namespace Go.Proofs.YthlfafkakijjfaaDoor
open Go Go.RowKit Go.Adm
theorem eq_dg (w : World) (x y : List UInt8) (hx : x.length = 32) (hy : y.length = 32) : (binOp .eql 24 (.agg (x.map bv).toArray) (.agg (y.map bv).toArray)).run Tryd.prog w = .ok (.bool (decide (x = y))) w :=
  run_eq_deep w 2 24 (by decide) (by kernel_rfl) (by simp only [Value.formed, Tryd.underlying24, List.size_toArray, List.length_map, hx]; kernel_rfl) (by simp only [Value.formed, Tryd.underlying24, List.size_toArray, List.length_map, hy]; kernel_rfl)
    (kl_bytes Tryd.underlying24 Tryd.underlying5 (by kernel_rfl) (by kernel_rfl) x hx) (kl_bytes Tryd.underlying24 Tryd.underlying5 (by kernel_rfl) (by kernel_rfl) y hy) _ (by
      rw [decide_eq_true_eq]
      exact ⟨fun h => by rw [h], map_bl_inj⟩)
theorem ne_dg (w : World) (x y : List UInt8) (hx : x.length = 32) (hy : y.length = 32) : (binOp .neq 24 (.agg (x.map bv).toArray) (.agg (y.map bv).toArray)).run Tryd.prog w = .ok (.bool (!decide (x = y))) w := by
  have h := eq_dg w x y hx hy
  rw [show binOp .neq 24 (.agg (x.map bv).toArray) (.agg (y.map bv).toArray) = _ from rfl]
  rw [run_neq_struct]
  rw [run_eql_struct] at h
  revert h
  generalize (Op.equalIn 10000 24 _ _).run Tryd.prog w = q
  intro h
  cases q with
  | ok b w' =>
    simp only [Result.andThen, Result.ok.injEq, Value.bool.injEq] at h ⊢
    exact ⟨by rw [h.1], h.2⟩
  | _ => simp [Result.andThen] at h
theorem kl_str {P : Program} {e : TypeId} (he : P.underlying e = some .string) (s : ByteArray) (hs : s.size ≤ 140737488355328) (d : Nat) : P.keyLits (d + 1) e [sv s] = some [.string s.data.toList] := by
  unfold Program.keyLits
  rw [he]
  simp only [sv]
  rw [if_pos (by unfold maxLen; omega)]
end Go.Proofs.YthlfafkakijjfaaDoor

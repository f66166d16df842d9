/- Equality of stores; light; awake. -/
import Derived.Test.YtkcmaembpfakdaaDoorSto12
set_option linter.unusedSimpArgs false
set_option linter.unusedVariables false
set_option maxRecDepth 100000
namespace Go.Proofs.YtkcmaembpfakdaaDoor
open Go Go.RowKit Go.Adm
theorem ne_dg (w : World) (x y : List UInt8) (hx : x.length = 32) (hy : y.length = 32) : (binOp .neq 36 (.agg (x.map bv).toArray) (.agg (y.map bv).toArray)).run Tryd.prog w = .ok (.bool (!decide (x = y))) w := by
  have h := eq_dg w x y hx hy
  rw [run_eql_struct] at h
  rw [run_neq_struct]
  revert h
  generalize (Op.equalIn 10000 36 (.agg (x.map bv).toArray) (.agg (y.map bv).toArray)).run Tryd.prog w = q
  intro h
  cases q with
  | ok b w' =>
    simp only [Result.andThen, Result.ok.injEq, Value.bool.injEq] at h ⊢
    exact ⟨by rw [h.1], h.2⟩
  | _ => simp [Result.andThen] at h
theorem eqIn_dg (w : World) (x y : List UInt8) (hx : x.length = 32) (hy : y.length = 32) : (Op.equalIn 10000 36 (.agg (x.map bv).toArray) (.agg (y.map bv).toArray)).run Tryd.prog w = .ok (decide (x = y)) w := by
  have h := eq_dg w x y hx hy
  rw [run_eql_struct] at h
  revert h
  generalize (Op.equalIn 10000 36 (.agg (x.map bv).toArray) (.agg (y.map bv).toArray)).run Tryd.prog w = q
  intro h
  cases q with
  | ok b w' =>
    simp only [Result.andThen, Result.ok.injEq, Value.bool.injEq] at h ⊢
    exact ⟨h.1, h.2⟩
  | _ => simp [Result.andThen] at h
theorem conv_b {w : World} {B : Nat} {A : Option Addr} {n c : Nat} {b : List UInt8} (h : Rd w B 1 A n (b.map bv)) : (convert 22 9 (.slice A n c)).run Tryd.prog w = .ok (.string ⟨b.toArray⟩) w :=
  run_conv (P := Tryd.prog) w 22 9 5 el_b8.ht Tryd.underlying5 Tryd.underlying9 h

end Go.Proofs.YtkcmaembpfakdaaDoor

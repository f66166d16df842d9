/- Digests are compared: both sides. -/
import Derived.Test.YtkcmaembpfakdaaDoorGen2
import Derived.Lib.Bytealg
import Derived.Deep.QuietTactic
import Derived.BigQuiet
import Derived.Deep.RegionHeld3
import Derived.IntWalk
import Derived.Deep.Cut
set_option linter.unusedSimpArgs false
set_option linter.unusedVariables false
set_option maxRecDepth 100000
namespace Go.Adm
open Go Go.RowKit
theorem cmp_pre : ∀ (p a b : List UInt8), Lib.compareBytes (p ++ a) (p ++ b) = Lib.compareBytes a b
  | [], a, b => rfl
  | x :: p, a, b => by
    show (if x < x then -1 else if x < x then 1 else Lib.compareBytes (p ++ a) (p ++ b)) = _
    rw [if_neg (UInt8.lt_irrefl x), if_neg (UInt8.lt_irrefl x)]
    exact cmp_pre p a b
theorem cmp_same (a : List UInt8) : Lib.compareBytes a a = 0 := by
  have := cmp_pre a [] []
  rwa [List.append_nil] at this
theorem cmp_at {x y : List UInt8} {k : Nat} (hx : k < x.length) (hy : k < y.length) (h : x.take k = y.take k) (hne : x[k].toNat ≠ y[k].toNat) : Lib.compareBytes x y = if x[k].toNat < y[k].toNat then -1 else 1 := by
  have ex : x = x.take k ++ x[k] :: x.drop (k + 1) := by rw [← List.drop_eq_getElem_cons hx, List.take_append_drop]
  have ey : y = x.take k ++ y[k] :: y.drop (k + 1) := by rw [h, ← List.drop_eq_getElem_cons hy, List.take_append_drop]
  have e : Lib.compareBytes x y = Lib.compareBytes (x[k] :: x.drop (k + 1)) (y[k] :: y.drop (k + 1)) := by
    rw [← cmp_pre (x.take k) (x[k] :: x.drop (k + 1)) (y[k] :: y.drop (k + 1))]
    exact (congrArg (fun z => Lib.compareBytes z y) ex).trans (congrArg (fun z => Lib.compareBytes _ z) ey)
  rw [e]
  show (if x[k] < y[k] then -1 else if y[k] < x[k] then 1 else _) = _
  by_cases h1 : x[k].toNat < y[k].toNat
  · rw [if_pos (UInt8.lt_iff_toNat_lt.2 h1), if_pos h1]
  · rw [if_neg (fun h2 => h1 (UInt8.lt_iff_toNat_lt.1 h2)), if_pos (UInt8.lt_iff_toNat_lt.2 (by omega)), if_neg h1]
/-- whether a digest comes before another -/
def lessD (x y : List UInt8) : Bool := decide (Lib.compareBytes x y < 0)
theorem lessD_at {x y : List UInt8} {k : Nat} (hx : k < x.length) (hy : k < y.length) (h : x.take k = y.take k) (hne : x[k].toNat ≠ y[k].toNat) : lessD x y = decide (x[k].toNat < y[k].toNat) := by
  unfold lessD
  rw [cmp_at hx hy h hne]
  by_cases h1 : x[k].toNat < y[k].toNat
  · rw [if_pos h1, decide_eq_true h1]; rfl
  · rw [if_neg h1, decide_eq_false h1]; rfl
end Go.Adm
namespace Go.Proofs.YtkcmaembpfakdaaDoor
open Go Go.RowKit Go.Adm

end Go.Proofs.YtkcmaembpfakdaaDoor

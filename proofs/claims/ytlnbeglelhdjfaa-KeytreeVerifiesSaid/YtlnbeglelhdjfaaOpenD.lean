/- Opening a slice of digests. -/
import Derived.Test.YtlnbeglelhdjfaaOpenK
set_option linter.unusedSimpArgs false
set_option linter.unusedVariables false
namespace Go.Proofs.Ytlnbeglelhdjfaa
open Go Go.RowKit Go.Adm Go.ChangeShapes Go.WideShapes Go.Deep
section
variable {H : Type} {enc : TypeId × Value → H} {w : World} {base b0 : Nat} {held : Bool} {r : Reach} {v : Value} {d : DataW H} {ps : List MemPlace}
theorem open_digests (hval : Value.okWide Try.prog w r b0 37 v) (hd : DataW.Trod enc Try.prog w base (fun _ => true) held 37 v d ps) :
    ∃ (A : Option Addr) (n c : Nat) (l : List (List UInt8)), v = .slice A n c ∧ n ≤ c ∧ c ≤ maxLen ∧ l.length = n ∧ (∀ y ∈ l, y.length = 32) ∧ Els w w.heap.size 32 A n (hvs l) := by
  obtain ⟨x, l, k, rfl⟩ := okWide_slice Try.underlying37 hval
  obtain ⟨fu, f⟩ := hd
  obtain ⟨A, n, c, l, e, h1, h2, h3, h4, h5⟩ := trod_rows (by decide : 0 < 32) Try.underlying37 Try.underlying27 Try.underlying5 (by kernel_rfl) (by kernel_rfl) f
  refine ⟨A, n, c, l, ?_, h1, h2, h3, h4, h5⟩
  injection e
end
end Go.Proofs.Ytlnbeglelhdjfaa

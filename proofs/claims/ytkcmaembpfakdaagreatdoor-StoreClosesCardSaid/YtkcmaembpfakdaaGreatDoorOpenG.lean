/- Opening a slice of digests. -/
import Derived.Test.YtkcmaembpfakdaaGreatDoorOpenB
import Derived.Test.YtkcmaembpfakdaaGreatDoorSto15
set_option linter.unusedSimpArgs false
set_option linter.unusedVariables false
set_option maxRecDepth 100000
namespace Go.Proofs.YtkcmaembpfakdaaGreatDoor
open Go Go.RowKit Go.Adm Go.ChangeShapes Go.WideShapes Go.Deep
section
variable {H : Type} {enc : TypeId × Value → H} {w : World} {base b0 : Nat} {held : Bool} {r : Reach} {v : Value} {d : DataW H} {ps : List MemPlace}
theorem open_digs (hval : Value.okWide Tryz.prog w r b0 23 v) (hd : DataW.Trod enc Tryz.prog w base (fun _ => true) held 23 v d ps) (hs : Small Tryz.prog 23 d) :
    ∃ (A : Option Addr) (n c : Nat) (l : List (List UInt8)), v = .slice A n c ∧ n ≤ c ∧ Digs w w.heap.size A n l := by
  obtain ⟨x, l, k, rfl⟩ := okWide_slice Tryz.underlying23 hval
  obtain ⟨fu, f⟩ := hd
  obtain ⟨A, n, c, ls, e, h1, h2, h3, h4⟩ := trod_els (fun x : List UInt8 => x.map bv) (fun x => x.length = 32) (by decide : 0 < 32) Tryz.underlying23 (by kernel_rfl) (of_decide_eq_true (by kernel_rfl)) (fun fuel cs x hs hl h => by
    obtain ⟨l, e, hl⟩ := trod_bytes Tryz.underlying32 Tryz.underlying5 (by kernel_rfl) (by kernel_rfl) h
    exact ⟨l, e, hl⟩) (fun a ha => by rw [List.length_map]; exact ha) f hs
  exact ⟨A, n, c, ls, e, h1, ⟨h4, h3, h2⟩⟩
end
end Go.Proofs.YtkcmaembpfakdaaGreatDoor

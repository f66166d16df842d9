/- Opening a change of a signature. -/
import Derived.Test.YtlnbeglelhdjfaaOpenK
import Derived.Test.YtlnbeglelhdjfaaKey36
set_option linter.unusedSimpArgs false
set_option linter.unusedVariables false
namespace Go.Proofs.Ytlnbeglelhdjfaa
open Go Go.RowKit Go.Adm Go.ChangeShapes Go.WideShapes Go.Deep
section
variable {H : Type} {enc : TypeId × Value → H} {w : World} {base b0 : Nat} {held : Bool} {r : Reach} {v : Value} {d : DataW H} {ps : List MemPlace}
theorem open_change (hval : Value.okWide Try.prog w r b0 48 v) (hd : DataW.Trod enc Try.prog w base (fun _ => true) held 48 v d ps) :
    ∃ (x y : Int) (b : UInt8), v = .agg (chCells x y b).toArray := by
  obtain ⟨cs, rfl, hc⟩ := okWide_struct Try.underlying48 hval
  obtain ⟨fu, f⟩ := hd
  have hsz : Try.prog.cellsOf 48 = 3 := by kernel_rfl
  have h1 : Try.prog.cellsOf 3 = 1 := by kernel_rfl
  have h2 : Try.prog.cellsOf 5 = 1 := by kernel_rfl
  obtain ⟨m0, y0, f0⟩ := fld Try.underlying48 f 0 _ rfl
  obtain ⟨m1, y1, f1⟩ := fld Try.underlying48 f 1 _ rfl
  obtain ⟨m2, y2, f2⟩ := fld Try.underlying48 f 2 _ rfl
  obtain ⟨x, e0, _⟩ := DataW.trod_int Try.underlying3 f0
  obtain ⟨y, e1, _⟩ := DataW.trod_int Try.underlying3 f1
  obtain ⟨b, e2, _, hw⟩ := DataW.trod_int Try.underlying5 f2
  have hl : cs.toList.length = 3 := by rw [Array.length_toList, hc, hsz]
  change (cs.toList.drop 0).take (Try.prog.cellsOf 3) = _ at e0
  change (cs.toList.drop 1).take (Try.prog.cellsOf 3) = _ at e1
  change (cs.toList.drop 2).take (Try.prog.cellsOf 5) = _ at e2
  rw [h1, List.drop_zero] at e0
  rw [h1] at e1
  rw [h2] at e2
  have hb : 0 ≤ b ∧ b ≤ 255 := by
    have h3 : IntKind.u8.min = 0 := rfl
    have h4 : IntKind.u8.max = 255 := rfl
    simp [Lit.wf, h3, h4] at hw
    omega
  refine ⟨x, y, UInt8.ofNat b.toNat, ?_⟩
  have e : cs.toList = chCells x y (UInt8.ofNat b.toNat) := by
    have hbv : bv (UInt8.ofNat b.toNat) = .int .u8 b := by
      unfold bv
      rw [UInt8.toNat_ofNat']
      have : ((b.toNat % 2 ^ 8 : Nat) : Int) = b := by omega
      rw [this]
    unfold chCells
    rw [hbv]
    generalize cs.toList = l at *
    match l, hl with
    | [a, b, c], _ =>
      simp at e0 e1 e2
      rw [e0, e1, e2]
  rw [← e]
end
end Go.Proofs.Ytlnbeglelhdjfaa

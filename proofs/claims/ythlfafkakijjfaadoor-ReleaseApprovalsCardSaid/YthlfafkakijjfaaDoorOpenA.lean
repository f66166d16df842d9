/- Opening approvals. -/
import Derived.Test.YthlfafkakijjfaaDoorOpenS
import Derived.Test.YthlfafkakijjfaaDoorRelD
set_option linter.unusedSimpArgs false
set_option linter.unusedVariables false
set_option maxRecDepth 100000
namespace Go.Proofs.YthlfafkakijjfaaDoor
open Go Go.RowKit Go.Adm Go.ChangeShapes Go.WideShapes Go.Deep
section
variable {H : Type} {enc : TypeId × Value → H} {w : World} {base b0 : Nat} {held : Bool} {r : Reach} {v : Value} {d : DataW H} {ps : List MemPlace}
theorem el_app (fuel : Nat) (cs : List Value) (x : DataW H × List MemPlace) (hs : Small Tryd.prog 31 x.1) (hl : cs.length = 33) (h : DataW.trod enc Tryd.prog w base (fun _ => true) held fuel 31 cs = some x) :
    ∃ o : App, cs = appC o ∧ o.d.length = 32 ∧ -9223372036854775808 ≤ o.t ∧ o.t ≤ 9223372036854775807 := by
  obtain ⟨m0, y0, f0, _⟩ := fldS Tryd.underlying31 h hs 0 _ rfl
  obtain ⟨m1, y1, f1, g1⟩ := fldS Tryd.underlying31 h hs 1 _ rfl
  obtain ⟨l, e0, hl0⟩ := trod_arr Tryd.underlying24 Tryd.underlying5 (by kernel_rfl) (by kernel_rfl) f0
  obtain ⟨t, e1, _, hw⟩ := DataW.trod_int Tryd.underlying2 f1
  have hb : -9223372036854775808 ≤ t ∧ t ≤ 9223372036854775807 := by simpa [Lit.wf, IntKind.min, IntKind.max, IntKind.signed, IntKind.bits] using hw
  have c0 : cs = l.map bv ++ cs.drop (0 + 32) := by have := cut_at (o := 0) e0; rwa [List.drop_zero] at this
  have c1 : cs.drop 32 = [.int .i64 t] ++ cs.drop (32 + 1) := cut_at e1
  refine ⟨⟨l, t⟩, ?_, hl0, hb⟩
  rw [c0, show 0 + 32 = 32 from rfl, c1, show 32 + 1 = 33 from rfl, List.drop_of_length_le (Nat.le_of_eq hl)]
  rfl
theorem open_app (hval : Value.okWide Tryd.prog w r b0 31 v) (hd : DataW.Trod enc Tryd.prog w base (fun _ => true) held 31 v d ps) (hs : Small Tryd.prog 31 d) : ∃ o : App, v = .agg (appC o).toArray ∧ o.d.length = 32 ∧ -9223372036854775808 ≤ o.t ∧ o.t ≤ 9223372036854775807 := by
  obtain ⟨cs, rfl, hc⟩ := okWide_struct Tryd.underlying31 hval
  obtain ⟨fu, f⟩ := hd
  obtain ⟨o, e, ho⟩ := el_app fu cs.toList _ hs (by rw [Array.length_toList, hc]; kernel_rfl) f
  exact ⟨o, by rw [← e], ho⟩
end
end Go.Proofs.YthlfafkakijjfaaDoor

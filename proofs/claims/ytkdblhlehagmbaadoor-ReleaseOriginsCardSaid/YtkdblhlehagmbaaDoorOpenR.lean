/- Opening origins and releases. -/
import Derived.Test.YtkdblhlehagmbaaDoorOpenS
import Derived.Test.YtkdblhlehagmbaaDoorRel3
set_option linter.unusedSimpArgs false
set_option linter.unusedVariables false
set_option maxRecDepth 100000
namespace Go.Proofs.YtkdblhlehagmbaaDoor
open Go Go.RowKit Go.Adm Go.ChangeShapes Go.WideShapes Go.Deep
section
variable {H : Type} {enc : TypeId × Value → H} {w : World} {base b0 : Nat} {held : Bool} {r : Reach} {v : Value} {d : DataW H} {ps : List MemPlace}
theorem el_origin (fuel : Nat) (cs : List Value) (x : DataW H × List MemPlace) (hs : Small Tryd.prog 27 x.1) (hl : cs.length = 34) (h : DataW.trod enc Tryd.prog w base (fun _ => true) held fuel 27 cs = some x) : ∃ o : Ori, cs = oriC o ∧ OriOk o := by
  obtain ⟨m0, y0, f0, _⟩ := fldS Tryd.underlying27 h hs 0 _ rfl
  obtain ⟨m1, y1, f1, g1⟩ := fldS Tryd.underlying27 h hs 1 _ rfl
  obtain ⟨m2, y2, f2, g2⟩ := fldS Tryd.underlying27 h hs 2 _ rfl
  obtain ⟨l, e0, hl0⟩ := trod_arr Tryd.underlying23 Tryd.underlying5 (by kernel_rfl) (by kernel_rfl) f0
  obtain ⟨s, e1, k1, _⟩ := DataW.trod_string Tryd.underlying9 f1
  obtain ⟨u, e2, k2, _⟩ := DataW.trod_string Tryd.underlying9 f2
  rw [k1] at g1
  rw [k2] at g2
  have z1 := g1.str
  have z2 := g2.str
  rw [Array.length_toList] at z1 z2
  have c0 : cs = l.map bv ++ cs.drop (0 + 32) := by have := cut_at (o := 0) e0; rwa [List.drop_zero] at this
  have c1 : cs.drop 32 = [.string s] ++ cs.drop (32 + 1) := cut_at e1
  have c2 : cs.drop 33 = [.string u] ++ cs.drop (33 + 1) := cut_at e2
  refine ⟨⟨l, s, u⟩, ?_, hl0, Nat.le_trans z1 (by decide), Nat.le_trans z2 (by decide)⟩
  rw [c0, show 0 + 32 = 32 from rfl, c1, show 32 + 1 = 33 from rfl, c2, show 33 + 1 = 34 from rfl, List.drop_of_length_le (Nat.le_of_eq hl)]
  rfl
theorem el_release (fuel : Nat) (cs : List Value) (x : DataW H × List MemPlace) (hs : Small Tryd.prog 25 x.1) (hl : cs.length = 99) (h : DataW.trod enc Tryd.prog w base (fun _ => true) held fuel 25 cs = some x) :
    ∃ o : Rls, cs = rlsC o ∧ o.a.length = 32 ∧ o.c.length = 32 ∧ OriOk o.ori ∧ -9223372036854775808 ≤ o.t ∧ o.t ≤ 9223372036854775807 := by
  obtain ⟨m0, y0, f0, _⟩ := fldS Tryd.underlying25 h hs 0 _ rfl
  obtain ⟨m1, y1, f1, _⟩ := fldS Tryd.underlying25 h hs 1 _ rfl
  obtain ⟨m2, y2, f2, g2⟩ := fldS Tryd.underlying25 h hs 2 _ rfl
  obtain ⟨m3, y3, f3, g3⟩ := fldS Tryd.underlying25 h hs 3 _ rfl
  obtain ⟨m4, y4, f4, _⟩ := fldS Tryd.underlying25 h hs 4 _ rfl
  obtain ⟨m5, y5, f5, _⟩ := fldS Tryd.underlying25 h hs 5 _ rfl
  obtain ⟨a, e0, hl0⟩ := trod_arr Tryd.underlying23 Tryd.underlying5 (by kernel_rfl) (by kernel_rfl) f0
  obtain ⟨d, e1, hl1⟩ := trod_arr Tryd.underlying23 Tryd.underlying5 (by kernel_rfl) (by kernel_rfl) f1
  obtain ⟨s, e2, k2, _⟩ := DataW.trod_string Tryd.underlying9 f2
  obtain ⟨u, e3, k3, _⟩ := DataW.trod_string Tryd.underlying9 f3
  obtain ⟨c, e4, hl4⟩ := trod_arr Tryd.underlying23 Tryd.underlying5 (by kernel_rfl) (by kernel_rfl) f4
  obtain ⟨t, e5, _, hw⟩ := DataW.trod_int Tryd.underlying2 f5
  have hb : -9223372036854775808 ≤ t ∧ t ≤ 9223372036854775807 := by simpa [Lit.wf, IntKind.min, IntKind.max, IntKind.signed, IntKind.bits] using hw
  rw [k2] at g2
  rw [k3] at g3
  have z2 := g2.str
  have z3 := g3.str
  rw [Array.length_toList] at z2 z3
  have c0 : cs = a.map bv ++ cs.drop (0 + 32) := by have := cut_at (o := 0) e0; rwa [List.drop_zero] at this
  have c1 : cs.drop 32 = d.map bv ++ cs.drop (32 + 32) := cut_at e1
  have c2 : cs.drop 64 = [.string s] ++ cs.drop (64 + 1) := cut_at e2
  have c3 : cs.drop 65 = [.string u] ++ cs.drop (65 + 1) := cut_at e3
  have c4 : cs.drop 66 = c.map bv ++ cs.drop (66 + 32) := cut_at e4
  have c5 : cs.drop 98 = [.int .i64 t] ++ cs.drop (98 + 1) := cut_at e5
  refine ⟨⟨a, d, s, u, c, t⟩, ?_, hl0, hl4, ⟨hl1, Nat.le_trans z2 (by decide), Nat.le_trans z3 (by decide)⟩, hb⟩
  rw [c0, show 0 + 32 = 32 from rfl, c1, show 32 + 32 = 64 from rfl, c2, show 64 + 1 = 65 from rfl, c3, show 65 + 1 = 66 from rfl, c4, show 66 + 32 = 98 from rfl, c5, show 98 + 1 = 99 from rfl, List.drop_of_length_le (Nat.le_of_eq hl)]
  simp [rlsC]
theorem open_origin (hval : Value.okWide Tryd.prog w r b0 27 v) (hd : DataW.Trod enc Tryd.prog w base (fun _ => true) held 27 v d ps) (hs : Small Tryd.prog 27 d) : ∃ o : Ori, v = .agg (oriC o).toArray ∧ OriOk o := by
  obtain ⟨cs, rfl, hc⟩ := okWide_struct Tryd.underlying27 hval
  obtain ⟨fu, f⟩ := hd
  obtain ⟨o, e, ho⟩ := el_origin fu cs.toList _ hs (by rw [Array.length_toList, hc]; kernel_rfl) f
  exact ⟨o, by rw [← e], ho⟩
theorem open_release (hval : Value.okWide Tryd.prog w r b0 25 v) (hd : DataW.Trod enc Tryd.prog w base (fun _ => true) held 25 v d ps) (hs : Small Tryd.prog 25 d) : ∃ o : Rls, v = .agg (rlsC o).toArray ∧ o.a.length = 32 ∧ o.c.length = 32 ∧ OriOk o.ori ∧ -9223372036854775808 ≤ o.t ∧ o.t ≤ 9223372036854775807 := by
  obtain ⟨cs, rfl, hc⟩ := okWide_struct Tryd.underlying25 hval
  obtain ⟨fu, f⟩ := hd
  obtain ⟨o, e, ho⟩ := el_release fu cs.toList _ hs (by rw [Array.length_toList, hc]; kernel_rfl) f
  exact ⟨o, by rw [← e], ho⟩
end
end Go.Proofs.YtkdblhlehagmbaaDoor

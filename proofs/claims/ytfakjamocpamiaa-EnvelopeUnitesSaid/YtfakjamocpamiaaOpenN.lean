/- Opening envelopes, and the cases of the laws on envelopes. -/
import Derived.Test.YtfakjamocpamiaaOpenK
import Derived.Test.YtfakjamocpamiaaOpenS
import Derived.Test.YtfakjamocpamiaaOpenY
import Derived.Test.YtfakjamocpamiaaEnvG
set_option linter.unusedSimpArgs false
set_option linter.unusedVariables false
set_option maxRecDepth 100000
namespace Go.Adm
open Go Go.RowKit Go.ChangeShapes Go.WideShapes Go.Deep
section
variable {H : Type} {enc : TypeId × Value → H} {P : Program} {w : World} {base : Nat} {spare : Nat → Bool} {held : Bool}
end
instance : Inhabited Ks := ⟨⟨0, [], 0, none, 0, [], none, 0, []⟩⟩
/-- what is small of a signature that came in -/
def KsSm (x : Ks) : Prop := x.chain.length ≤ 140737488351232 ∧ x.path.length ≤ 140737488351232
end Go.Adm
namespace Go.Proofs.Ytfakjamocpamiaa
open Go Go.RowKit Go.Adm Go.ChangeShapes Go.WideShapes Go.Deep
section
variable {H : Type} {enc : TypeId × Value → H} {w : World} {base b0 : Nat} {held : Bool} {r : Reach} {v : Value} {d : DataW H} {ps : List MemPlace}
/-- the cells of a case -/
def caseC (Ap : Option Addr) (np cp : Nat) (As : Option Addr) (ns cs : Nat) (sp : Int) (b : UInt8) : List Value := [.slice Ap np cp, .slice As ns cs, .int .i64 sp, bv b]
/-- a case that came in -/
theorem open_case (hval : Value.okWide Try.prog w r b0 27 v) (hd : DataW.Trod enc Try.prog w base (fun _ => true) held 27 v d ps) (hs : Small Try.prog 27 d) :
  ∃ (Ap : Option Addr) (cp : Nat) (p : List UInt8) (As : Option Addr) (cs : Nat) (q : List UInt8) (sp : Int) (b : UInt8), v = .agg (caseC Ap p.length cp As q.length cs sp b).toArray ∧ p.length ≤ cp ∧ cp ≤ 140737488351232 ∧ Rd w w.heap.size 1 Ap p.length (p.map bv) ∧ q.length ≤ cs ∧ cs ≤ 140737488351232 ∧ Rd w w.heap.size 1 As q.length (q.map bv) ∧ -9223372036854775808 ≤ sp ∧ sp ≤ 9223372036854775807 := by
 obtain ⟨cs, rfl, hc⟩ := okWide_struct Try.underlying27 hval
 obtain ⟨fu, f⟩ := hd
 have hsz : Try.prog.cellsOf 27 = 4 := by kernel_rfl
 have k0 : Try.prog.cellsOf 22 = 1 := by kernel_rfl
 have k1 : Try.prog.cellsOf 3 = 1 := by kernel_rfl
 have k2 : Try.prog.cellsOf 5 = 1 := by kernel_rfl
 obtain ⟨m0, y0, f0, s0⟩ := fldS Try.underlying27 f hs 0 _ rfl
 obtain ⟨m1, y1, f1, s1⟩ := fldS Try.underlying27 f hs 1 _ rfl
 obtain ⟨m2, y2, f2⟩ := fld Try.underlying27 f 2 _ rfl
 obtain ⟨m3, y3, f3⟩ := fld Try.underlying27 f 3 _ rfl
 have hl : cs.toList.length = 4 := by rw [Array.length_toList, hc, hsz]
 change DataW.trod enc Try.prog w base (fun _ => true) held m0 22 ((cs.toList.drop 0).take (Try.prog.cellsOf 22)) = some y0 at f0
 change DataW.trod enc Try.prog w base (fun _ => true) held m1 22 ((cs.toList.drop 1).take (Try.prog.cellsOf 22)) = some y1 at f1
 change DataW.trod enc Try.prog w base (fun _ => true) held m2 3 ((cs.toList.drop 2).take (Try.prog.cellsOf 3)) = some y2 at f2
 change DataW.trod enc Try.prog w base (fun _ => true) held m3 5 ((cs.toList.drop 3).take (Try.prog.cellsOf 5)) = some y3 at f3
 rw [k0] at f0 f1
 rw [k1] at f2
 rw [k2] at f3
 have hcs : cs = cs.toList.toArray := rfl
 rw [hcs]
 clear hcs
 generalize cs.toList = L at *
 match L, hl with
 | [a, b, c, e], _ =>
  change DataW.trod enc Try.prog w base (fun _ => true) held m0 22 [a] = some y0 at f0
  change DataW.trod enc Try.prog w base (fun _ => true) held m1 22 [b] = some y1 at f1
  change DataW.trod enc Try.prog w base (fun _ => true) held m2 3 [c] = some y2 at f2
  change DataW.trod enc Try.prog w base (fun _ => true) held m3 5 [e] = some y3 at f3
  obtain ⟨Ap, cp, p, hb, hb1, hb2, hb3⟩ := open_bs Try.underlying22 Try.underlying5 (by kernel_rfl) (of_decide_eq_true (by kernel_rfl)) f0 s0
  obtain ⟨As, cs', q, hq, hq1, hq2, hq3⟩ := open_bs Try.underlying22 Try.underlying5 (by kernel_rfl) (of_decide_eq_true (by kernel_rfl)) f1 s1
  obtain ⟨sp, e2, _, hw⟩ := DataW.trod_int Try.underlying3 f2
  obtain ⟨bb, e3, _, hw3⟩ := DataW.trod_int Try.underlying5 f3
  injection e2 with e2 _
  injection e3 with e3 _
  have hbb := ub_bv hw3
  refine ⟨Ap, cp, p, As, cs', q, sp, ub bb, by rw [hb, hq, e2, e3, hbb]; rfl, hb1, hb2, hb3, hq1, hq2, hq3, ?_⟩
  simpa [Lit.wf, IntKind.min, IntKind.max, IntKind.signed, IntKind.bits] using hw
end
end Go.Proofs.Ytfakjamocpamiaa

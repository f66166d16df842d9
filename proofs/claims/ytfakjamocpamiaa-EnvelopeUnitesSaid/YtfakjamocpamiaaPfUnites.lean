/- EnvelopeUnites: for every input the law returns true, and each argument reads afterwards as it read before. No condition beyond the form's own. -/
import Derived.Test.YtfakjamocpamiaaEnvUw
import Derived.Test.YtfakjamocpamiaaOpenN
import Derived.Test.YtfakjamocpamiaaOpen
namespace Go.Proofs.Ytfakjamocpamiaa.envelopeUnites
open Go Go.ChangeShapes Go.WideShapes Go.ChangeAt Go.RowKit Go.Adm
open Go.WideMaps Go.WideElems
open Go.ChangeMaps (setBlock shut_map_nil open_string shut_string keptBut_setBlock frozen?_setBlock heap_setBlock_same)
set_option linter.unusedVariables false

theorem own : ownKnob Try.prog.godebug = none := by kernel_rfl
theorem laidOut : laidOutB Try.prog = true := by kernel_rfl

set_option maxRecDepth 100000 in
theorem lifted (os : Os) (started : os.Started) (H : Type) (enc : TypeId × Value → H) :
  ReturnsInHanded {} Try.checked os 8 .any (Rows.envelopeUnitesSpec.pre6 enc Try.prog Try.f8 Rows.envelopeUnitesRow.domain false) (Rows.envelopeUnitesSpec.post enc Try.prog Try.f8 false true false false) := by
 refine returnsInHanded_of_change_sized (C := Try.checked) own started (by kernel_rfl) Try.func8
  (ChangeSpec.witness6 (enc := enc) (C := Try.checked) false ⟨#[], #[.agg (caseC none 0 0 none 0 0 0 0).toArray, .agg (caseC none 0 0 none 0 0 0 0).toArray], []⟩ 8 (by kernel_rfl) (by kernel_rfl) (by kernel_rfl) (by kernel_rfl)) ?_
 intro W base args ds gs before hval0 hW hcnd hsz0 _
 have hval : ∀ (j : Nat) t v, Try.f8.params[j]? = some t → args[j]? = some v → Value.okWide Try.prog W .any base t v := hval0
 have hsz : (DataW.weightsEach Try.prog (Try.f8.params.toList ++ Rows.envelopeUnitesSpec.plain.varTypes Try.prog) (ds ++ gs)).all (· ≤ reachBytes) = true := hsz0
 have hW' := hW
 obtain ⟨p, q, hA0, hV, rfl, hfz, hnd⟩ := hW
 have hA : DataW.TrodAll enc Try.prog W 0 (fun _ => true) true Try.f8.params.toList args.toList ds p := hA0
 rw [Try.params8] at hA hval hsz
 obtain ⟨v0, vs0, d0, ds0, p0, q0, hargs, rfl, rfl, h0, r0⟩ := trodAll_cons hA
 obtain ⟨v1, vs1, d1, ds1, p1, q1, rfl, rfl, rfl, h1, r1⟩ := trodAll_cons r0
 obtain ⟨rfl, rfl, rfl⟩ := trodAll_nil r1
 obtain rfl : args = #[v0, v1] := by cases args; simp_all
 obtain ⟨rfl, rfl⟩ := trodVars_none hV
 have s0 : Small Try.prog 27 d0 := Small.of_each hsz (j := 0) rfl rfl
 obtain ⟨Ap0, cp0, p0, As0, cq0, q0, sp0, b0, rfl, ha0, hb0, hd0, hf0, hg0, hj0, hl0, hm0⟩ := open_case (hval 0 27 v0 rfl rfl) h0 s0
 have s1 : Small Try.prog 27 d1 := Small.of_each hsz (j := 1) rfl rfl
 obtain ⟨Ap1, cp1, p1, As1, cq1, q1, sp1, b1, rfl, ha1, hb1, hd1, hf1, hg1, hj1, hl1, hm1⟩ := open_case (hval 1 27 v1 rfl rfl) h1 s1
 refine (walkUnites W W.heap.size Ap0 cp0 p0 As0 cq0 q0 sp0 b0 ha0 hb0 hd0 hf0 hg0 hj0 hl0 hm0 Ap1 cp1 p1 As1 cq1 q1 sp1 b1 ha1 hb1 hd1 hf1 hg1 hj1 hl1 hm1 (Nat.le_refl _)).mono fun e W' ⟨he, hb⟩ => ?_
 subst he
 exact ⟨_, rfl, post_true (tb := 4) laidOut hW' rfl rfl rfl Try.underlying4 (by
  intro t ht
  change t ∈ Try.f8.params.toList at ht
  rw [Try.params8] at ht
  simp only [List.mem_cons, List.mem_nil_iff, or_false] at ht
  rcases ht with rfl | rfl
  all_goals exact ⟨by kernel_rfl, of_decide_eq_true (by kernel_rfl)⟩) hb⟩

theorem proved : Rows.EnvelopeUnitesSaid :=
 OpenClaim.holds_of_wide 8 Try.f8 rfl rfl rfl rfl rfl rfl rfl ⟨rfl, rfl, rfl, rfl, rfl⟩ rfl rfl rfl rfl rfl (by kernel_rfl) Try.func8 (by kernel_rfl)
  (of_decide_eq_true (by kernel_rfl)) (by unfold Func.isWrapper; first | (rw [if_pos (by decide +kernel)]; kernel_rfl) | (rw [if_neg (by decide +kernel)]; exact ⟨rfl, rfl⟩))
  (fun os started H enc _ => lifted os started H enc)
end Go.Proofs.Ytfakjamocpamiaa.envelopeUnites

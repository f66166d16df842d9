/- SnapshotLines: for every input the law returns true, and each argument reads afterwards as it read before: the row, and the tied card. -/
import Derived.Test.YtieobkgdkiahbaaDoorReadA
import Derived.Test.YtieobkgdkiahbaaDoorOpenE
import Derived.Test.YtieobkgdkiahbaaDoorOpen
import Derived.Test.YtieobkgdkiahbaaDoorDoor
import Derived.Test.YtieobkgdkiahbaaDoorRows
import Derived.Test.YtieobkgdkiahbaaDoorCards
import Derived.Test.YtieobkgdkiahbaaDoorTie
import Derived.Handed
import Derived.Stop.LaidErr
import Derived.Lib.LaidTab
import Derived.LaidLaws
import Derived.LaidMore
import Derived.LaidOnce
import Derived.Lay
import Derived.SevenTiedAt
import Derived.ChangeVars
import Derived.JoinedOf
import Derived.ChangeSame
set_option linter.unusedVariables false
set_option maxRecDepth 100000
namespace Go.Proofs.YtieobkgdkiahbaaDoor.snapshotLines
open Go Go.ChangeShapes Go.WideShapes Go.ChangeAt Go.RowKit Go.Adm
open Go.WideMaps Go.WideElems
open Go.ChangeMaps (open_string)

theorem own : ownKnob Tryd.prog.godebug = none := by kernel_rfl
theorem laidOut : laidOutB Tryd.prog = true := by kernel_rfl

theorem lifted (os : Os) (started : os.Started) (H : Type) (enc : TypeId × Value → H) :
    ReturnsInHanded {} Tryd.checked os 6 .any (fun w args => (Rows.snapshotLinesSpec.pre enc Tryd.prog Tryd.f6 Rows.snapshotLinesRow.domain false w args ∧ laidMetH Tryd.prog Rows.snapshotLinesRow.laid w) ∧ sizedMet enc Tryd.prog Tryd.f6 (OpenSpec.ofChange Rows.snapshotLinesSpec) false w args)
      (Rows.snapshotLinesSpec.post enc Tryd.prog Tryd.f6 false true false false) := by
  refine returnsInHanded_shaped_and (C := Tryd.checked) (X := fun w _ => laidMetH Tryd.prog Rows.snapshotLinesRow.laid w) (fun _ _ _ hh h => h.of_heap hh) own started (by kernel_rfl) Tryd.func6
    (ChangeSpec.witness_shaped (enc := enc) (C := Tryd.checked) (os := os) (X := fun w _ => laidMetH Tryd.prog Rows.snapshotLinesRow.laid w) false (World.laidAll Tryd.prog os Rows.snapshotLinesRow.laid) #[.string ByteArray.empty, .slice none 0 0, .slice none 0 0] 8 (World.laidAll_os _ _ _)
      (World.shaped_of_ZipB (by kernel_rfl) (by kernel_rfl)) (by kernel_rfl) (by kernel_rfl) (by kernel_rfl)
      (by rw [MakeChecks.laidMetH_plain _ _ _ (by kernel_rfl)]; exact laidMet_laidAll _ (by kernel_rfl) (by kernel_rfl))) ?_
  intro W base args ds gs before hval0 hW hcnd hsz0 hL hsh _
  have hval : ∀ (j : Nat) t v, Tryd.f6.params[j]? = some t → args[j]? = some v → Value.okWide Tryd.prog W .any base t v := hval0
  have hsz : (DataW.weightsEach Tryd.prog (Tryd.f6.params.toList ++ Rows.snapshotLinesSpec.plain.varTypes Tryd.prog) (ds ++ gs)).all (· ≤ reachBytes) = true := hsz0
  have hW' := hW
  obtain ⟨p, q, hA0, hV, rfl, hfz, hnd⟩ := hW
  have hA : DataW.TrodAll enc Tryd.prog W 0 (fun _ => true) true Tryd.f6.params.toList args.toList ds p := hA0
  rw [Tryd.params6] at hA hval hsz
  obtain ⟨v0, vs0, d0, ds0, p0, q0, hargs, rfl, rfl, h0, r0⟩ := trodAll_cons hA
  obtain ⟨v1, vs1, d1, ds1, p1, q1, rfl, rfl, rfl, h1, r1⟩ := trodAll_cons r0
  obtain ⟨v2, vs2, d2, ds2, p2, q2, rfl, rfl, rfl, h2, r2⟩ := trodAll_cons r1
  obtain ⟨rfl, rfl, rfl⟩ := trodAll_nil r2
  obtain rfl : args = #[v0, v1, v2] := by cases args; simp_all
  obtain ⟨rfl, rfl⟩ := trodVars_none hV
  have s0 : Small Tryd.prog 9 d0 := Small.of_each hsz (j := 0) rfl rfl
  obtain ⟨a0, rfl, rfl, rfl, z0⟩ := open_string Tryd.underlying9 (hval 0 9 v0 rfl rfl) h0
  have b0 := s0.str
  rw [Array.length_toList] at b0
  have c0 : a0.size ≤ 140737488355328 := Nat.le_trans b0 (by decide)
  have s1 : Small Tryd.prog 22 d1 := Small.of_each hsz (j := 1) rfl rfl
  obtain ⟨A1, n1, c1, l1, rfl, hc1, hn1, hx1, he1⟩ := open_ents (hval 1 22 v1 rfl rfl) h1 s1
  have s2 : Small Tryd.prog 44 d2 := Small.of_each hsz (j := 2) rfl rfl
  obtain ⟨x2, l2, k2, rfl⟩ := okWide_slice Tryd.underlying44 (hval 2 44 v2 rfl rfl)
  obtain ⟨fu2, f2⟩ := h2
  obtain ⟨A2, n2, c2, ls2, e2, g2, m2, o2⟩ := open_lines Tryd.underlying44 Tryd.underlying80 Tryd.underlying9 (by kernel_rfl) (by kernel_rfl) (of_decide_eq_true (by kernel_rfl)) (of_decide_eq_true (by kernel_rfl)) f2 s2
  injection e2 with e2a e2b e2c; subst e2a e2b e2c
  obtain ⟨m, hm⟩ := maxLen_cell hsh
  refine (walkLines a0 c0 W m hm W.heap.size A1 n1 c1 l1 he1 hx1 hn1 x2 l2 k2 ls2 o2 (Nat.le_refl _)).mono fun e W' ⟨he, hb⟩ => ?_
  subst he
  exact ⟨_, rfl, post_true (tb := 4) laidOut hW' rfl rfl rfl Tryd.underlying4 (by
    intro t ht
    change t ∈ Tryd.f6.params.toList at ht
    rw [Tryd.params6] at ht
    simp only [List.mem_cons, List.mem_nil_iff, or_false] at ht
    rcases ht with rfl | rfl | rfl
    all_goals exact ⟨by kernel_rfl, of_decide_eq_true (by kernel_rfl)⟩) hb⟩

theorem holds : Rows.SnapshotLinesSaid :=
  OpenClaim.holds_of_wide 6 Tryd.f6 rfl rfl rfl rfl rfl rfl rfl ⟨rfl, rfl, rfl, rfl, rfl⟩ rfl rfl rfl rfl rfl (by kernel_rfl) Tryd.func6 (by kernel_rfl)
    (of_decide_eq_true (by kernel_rfl)) (by unfold Func.isWrapper; first | (rw [if_pos (by decide +kernel)]; kernel_rfl) | (rw [if_neg (by decide +kernel)]; exact ⟨rfl, rfl⟩))
    (fun os started H enc _ => lifted os started H enc)
theorem proved : Rows.SnapshotLinesCardSaid :=
  Claim7.holds_tied_plain_at .later [] [.data, .pinned] true Rows.snapshotLinesCard.stood.harness false holds (fun _ h => by cases h) (by kernel_rfl) (fun _ h => by cases h) snapshotLines_row_tie rfl ⟨rfl, rfl⟩ (by kernel_rfl) rfl
    (fun f fn hf hfn => by
      obtain rfl : f = 6 := Option.some.inj ((show Tryd.prog.funcNamed "admission/admissionlaw04.SnapshotLines" = some 6 by kernel_rfl).symm.trans hf) |>.symm
      obtain rfl : fn = Tryd.f6 := (Option.some.inj (Tryd.func6.symm.trans hfn)).symm
      exact ⟨by kernel_rfl, fun j t ht => by
        rw [Tryd.params6] at ht
        have hm : t ∈ [9, 22, 44] := by simpa using Array.mem_of_getElem? ht
        have hall : ([9, 22, 44].all fun u => !Tryd.prog.wantsStandIn u) = true := by kernel_rfl
        exact (show Tryd.prog.wantsStandIn t = false by simpa using List.all_eq_true.1 hall t hm)⟩)
    (by kernel_rfl)
end Go.Proofs.YtieobkgdkiahbaaDoor.snapshotLines

/- StoreCloses: for every input the law returns true, and each argument reads afterwards as it read before: the row, and the tied card. -/
import Derived.Test.YtkcmaembpfakdaaGreatDoorCloW
import Derived.Test.YtkcmaembpfakdaaGreatDoorOpenV
import Derived.Test.YtkcmaembpfakdaaGreatDoorOpenG
import Derived.Test.YtkcmaembpfakdaaGreatDoorOpen
import Derived.Test.YtkcmaembpfakdaaGreatDoorDoor
import Derived.Test.YtkcmaembpfakdaaGreatDoorRows
import Derived.Test.YtkcmaembpfakdaaGreatDoorCards
import Derived.Test.YtkcmaembpfakdaaGreatDoorTie
import Derived.Handed
import Derived.Stop.LaidErr
import Derived.Lib.LaidTab
import Derived.LaidLaws
import Derived.LaidMore
import Derived.LaidOnce
import Derived.Lay
import Derived.SevenTiedAt
import Derived.ChangeVars
import Derived.JoinedOf
import Derived.ChangeSame
set_option linter.unusedVariables false
set_option maxRecDepth 100000
namespace Go.Proofs.YtkcmaembpfakdaaGreatDoor.storeCloses
open Go Go.ChangeShapes Go.WideShapes Go.ChangeAt Go.RowKit Go.Adm
open Go.WideMaps Go.WideElems

theorem own : ownKnob Tryz.prog.godebug = none := by kernel_rfl
theorem laidOut : laidOutB Tryz.prog = true := by kernel_rfl

theorem lifted (os : Os) (started : os.Started) (H : Type) (enc : TypeId × Value → H) :
    ReturnsInHanded {} Tryz.checked os 3 .any (fun w args => (Rows.storeClosesSpec.pre enc Tryz.prog Tryz.f3 Rows.storeClosesRow.domain false w args ∧ laidMetH Tryz.prog Rows.storeClosesRow.laid w) ∧ sizedMet enc Tryz.prog Tryz.f3 (OpenSpec.ofChange Rows.storeClosesSpec) false w args)
      (Rows.storeClosesSpec.post enc Tryz.prog Tryz.f3 false true false false) := by
  refine returnsInHanded_shaped_and (C := Tryz.checked) (X := fun w _ => laidMetH Tryz.prog Rows.storeClosesRow.laid w) (fun _ _ _ hh h => h.of_heap hh) own started (by kernel_rfl) Tryz.func3
    (ChangeSpec.witness_shaped (enc := enc) (C := Tryz.checked) (os := os) (X := fun w _ => laidMetH Tryz.prog Rows.storeClosesRow.laid w) false (World.laidAll Tryz.prog os Rows.storeClosesRow.laid) #[.slice none 0 0, .slice none 0 0, .slice none 0 0] 8 (World.laidAll_os _ _ _)
      (World.shaped_of_ZipB (by kernel_rfl) (by kernel_rfl)) (by kernel_rfl) (by kernel_rfl) (by kernel_rfl)
      (by rw [MakeChecks.laidMetH_plain _ _ _ (by kernel_rfl)]; exact laidMet_laidAll _ (by kernel_rfl) (by kernel_rfl))) ?_
  intro W base args ds gs before hval0 hW hcnd hsz0 hL hsh _
  have hval : ∀ (j : Nat) t v, Tryz.f3.params[j]? = some t → args[j]? = some v → Value.okWide Tryz.prog W .any base t v := hval0
  have hsz : (DataW.weightsEach Tryz.prog (Tryz.f3.params.toList ++ Rows.storeClosesSpec.plain.varTypes Tryz.prog) (ds ++ gs)).all (· ≤ reachBytes) = true := hsz0
  have hW' := hW
  obtain ⟨p, q, hA0, hV, rfl, hfz, hnd⟩ := hW
  have hA : DataW.TrodAll enc Tryz.prog W 0 (fun _ => true) true Tryz.f3.params.toList args.toList ds p := hA0
  rw [Tryz.params3] at hA hval hsz
  obtain ⟨v0, vs0, d0, ds0, p0, q0, hargs, rfl, rfl, h0, r0⟩ := trodAll_cons hA
  obtain ⟨v1, vs1, d1, ds1, p1, q1, rfl, rfl, rfl, h1, r1⟩ := trodAll_cons r0
  obtain ⟨v2, vs2, d2, ds2, p2, q2, rfl, rfl, rfl, h2, r2⟩ := trodAll_cons r1
  obtain ⟨rfl, rfl, rfl⟩ := trodAll_nil r2
  obtain rfl : args = #[v0, v1, v2] := by cases args; simp_all
  obtain ⟨rfl, rfl⟩ := trodVars_none hV
  have s0 : Small Tryz.prog 22 d0 := Small.of_each hsz (j := 0) rfl rfl
  obtain ⟨A0, n0, c0, l0, rfl, hc0, hk0, hb0, hg0⟩ := open_blobs (hval 0 22 v0 rfl rfl) h0 s0
  have s1 : Small Tryz.prog 23 d1 := Small.of_each hsz (j := 1) rfl rfl
  obtain ⟨A1, n1, c1, l1, rfl, hc1, hd1⟩ := open_digs (hval 1 23 v1 rfl rfl) h1 s1
  have s2 : Small Tryz.prog 24 d2 := Small.of_each hsz (j := 2) rfl rfl
  obtain ⟨A2, n2, c2, l2, rfl, hk2, hr2, hi2⟩ := open_ivs (hval 2 24 v2 rfl rfl) h2 s2
  obtain ⟨m, hm⟩ := maxLen_cell hsh
  refine (walkCloses W m hm W.heap.size A0 n0 c0 l0 hb0 hg0 hk0 hc0 A1 n1 c1 l1 hd1 A2 n2 c2 l2 hr2 hk2 hi2 (Nat.le_refl _)).mono fun e W' ⟨he, hb⟩ => ?_
  subst he
  exact ⟨_, rfl, post_true (tb := 4) laidOut hW' rfl rfl rfl Tryz.underlying4 (by
    intro t ht
    change t ∈ Tryz.f3.params.toList at ht
    rw [Tryz.params3] at ht
    simp only [List.mem_cons, List.mem_nil_iff, or_false] at ht
    rcases ht with rfl | rfl | rfl
    all_goals exact ⟨by kernel_rfl, of_decide_eq_true (by kernel_rfl)⟩) hb⟩

theorem holds : Rows.StoreClosesSaid :=
  OpenClaim.holds_of_wide 3 Tryz.f3 rfl rfl rfl rfl rfl rfl rfl ⟨rfl, rfl, rfl, rfl, rfl⟩ rfl rfl rfl rfl rfl (by kernel_rfl) Tryz.func3 (by kernel_rfl)
    (of_decide_eq_true (by kernel_rfl)) (by unfold Func.isWrapper; first | (rw [if_pos (by decide +kernel)]; kernel_rfl) | (rw [if_neg (by decide +kernel)]; exact ⟨rfl, rfl⟩))
    (fun os started H enc _ => lifted os started H enc)
theorem proved : Rows.StoreClosesCardSaid :=
  Claim7.holds_tied_plain_at .later [] [.data, .pinned] true Rows.storeClosesCard.stood.harness false holds (fun _ h => by cases h) (by kernel_rfl) (fun _ h => by cases h) storeCloses_row_tie rfl ⟨rfl, rfl⟩ (by kernel_rfl) rfl
    (fun f fn hf hfn => by
      obtain rfl : f = 3 := Option.some.inj ((show Tryz.prog.funcNamed "admission/admissionlaw05.StoreCloses" = some 3 by kernel_rfl).symm.trans hf) |>.symm
      obtain rfl : fn = Tryz.f3 := (Option.some.inj (Tryz.func3.symm.trans hfn)).symm
      exact ⟨by kernel_rfl, fun j t ht => by
        rw [Tryz.params3] at ht
        have hm : t ∈ [22, 23, 24] := by simpa using Array.mem_of_getElem? ht
        have hall : ([22, 23, 24].all fun u => !Tryz.prog.wantsStandIn u) = true := by kernel_rfl
        exact (show Tryz.prog.wantsStandIn t = false by simpa using List.all_eq_true.1 hall t hm)⟩)
    (by kernel_rfl)
end Go.Proofs.YtkcmaembpfakdaaGreatDoor.storeCloses

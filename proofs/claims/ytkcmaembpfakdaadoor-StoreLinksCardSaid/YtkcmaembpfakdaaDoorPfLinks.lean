/- StoreLinks: for every input the law returns true, and each argument reads afterwards as it read before: the row, and the tied card. -/
import Derived.Test.YtkcmaembpfakdaaDoorLkW
import Derived.Test.YtkcmaembpfakdaaDoorOpenY
import Derived.Test.YtkcmaembpfakdaaDoorOpen
import Derived.Test.YtkcmaembpfakdaaDoorDoor
import Derived.Test.YtkcmaembpfakdaaDoorRows
import Derived.Test.YtkcmaembpfakdaaDoorCards
import Derived.Test.YtkcmaembpfakdaaDoorTie
import Derived.Handed
import Derived.Stop.LaidErr
import Derived.Lib.LaidTab
import Derived.LaidLaws
import Derived.LaidMore
import Derived.LaidOnce
import Derived.Lay
import Derived.SevenTiedAt
import Derived.ChangeVars
import Derived.JoinedOf
import Derived.ChangeSame
set_option linter.unusedVariables false
set_option maxRecDepth 100000
namespace Go.Proofs.YtkcmaembpfakdaaDoor.storeLinks
open Go Go.ChangeShapes Go.WideShapes Go.ChangeAt Go.RowKit Go.Adm
open Go.WideMaps Go.WideElems

theorem own : ownKnob Tryd.prog.godebug = none := by kernel_rfl
theorem laidOut : laidOutB Tryd.prog = true := by kernel_rfl

theorem lifted (os : Os) (started : os.Started) (H : Type) (enc : TypeId × Value → H) :
    ReturnsInHanded {} Tryd.checked os 3 .any (fun w args => (Rows.storeLinksSpec.pre enc Tryd.prog Tryd.f3 Rows.storeLinksRow.domain false w args ∧ laidMetH Tryd.prog Rows.storeLinksRow.laid w) ∧ sizedMet enc Tryd.prog Tryd.f3 (OpenSpec.ofChange Rows.storeLinksSpec) false w args)
      (Rows.storeLinksSpec.post enc Tryd.prog Tryd.f3 false true false false) := by
  refine returnsInHanded_shaped_and (C := Tryd.checked) (X := fun w _ => laidMetH Tryd.prog Rows.storeLinksRow.laid w) (fun _ _ _ hh h => h.of_heap hh) own started (by kernel_rfl) Tryd.func3
    (ChangeSpec.witness_shaped (enc := enc) (C := Tryd.checked) (os := os) (X := fun w _ => laidMetH Tryd.prog Rows.storeLinksRow.laid w) false (World.laidAll Tryd.prog os Rows.storeLinksRow.laid) #[.slice none 0 0, .slice none 0 0] 8 (World.laidAll_os _ _ _)
      (World.shaped_of_ZipB (by kernel_rfl) (by kernel_rfl)) (by kernel_rfl) (by kernel_rfl) (by kernel_rfl)
      (by rw [MakeChecks.laidMetH_plain _ _ _ (by kernel_rfl)]; exact laidMet_laidAll _ (by kernel_rfl) (by kernel_rfl))) ?_
  intro W base args ds gs before hval0 hW hcnd hsz0 hL hsh _
  have hval : ∀ (j : Nat) t v, Tryd.f3.params[j]? = some t → args[j]? = some v → Value.okWide Tryd.prog W .any base t v := hval0
  have hsz : (DataW.weightsEach Tryd.prog (Tryd.f3.params.toList ++ Rows.storeLinksSpec.plain.varTypes Tryd.prog) (ds ++ gs)).all (· ≤ reachBytes) = true := hsz0
  have hW' := hW
  obtain ⟨p, q, hA0, hV, rfl, hfz, hnd⟩ := hW
  have hA : DataW.TrodAll enc Tryd.prog W 0 (fun _ => true) true Tryd.f3.params.toList args.toList ds p := hA0
  rw [Tryd.params3] at hA hval hsz
  obtain ⟨v0, vs0, d0, ds0, p0, q0, hargs, rfl, rfl, h0, r0⟩ := trodAll_cons hA
  obtain ⟨v1, vs1, d1, ds1, p1, q1, rfl, rfl, rfl, h1, r1⟩ := trodAll_cons r0
  obtain ⟨rfl, rfl, rfl⟩ := trodAll_nil r1
  obtain rfl : args = #[v0, v1] := by cases args; simp_all
  obtain ⟨rfl, rfl⟩ := trodVars_none hV
  have s0 : Small Tryd.prog 22 d0 := Small.of_each hsz (j := 0) rfl rfl
  obtain ⟨A0, c0, b0, rfl, hc0, hk0, hx0⟩ := open_bytes (hval 0 22 v0 rfl rfl) h0 s0
  have s1 : Small Tryd.prog 23 d1 := Small.of_each hsz (j := 1) rfl rfl
  obtain ⟨x1, l1, k1, rfl⟩ := okWide_slice Tryd.underlying23 (hval 1 23 v1 rfl rfl)
  obtain ⟨fu1, f1⟩ := h1
  obtain ⟨A1, n1, c1, ls1, e1, g1, m1, o1⟩ := open_lines Tryd.underlying23 Tryd.underlying32 Tryd.underlying9 (by kernel_rfl) (by kernel_rfl) (of_decide_eq_true (by kernel_rfl)) (of_decide_eq_true (by kernel_rfl)) f1 s1
  injection e1 with e1a e1b e1c; subst e1a e1b e1c
  obtain ⟨m, hm⟩ := maxLen_cell hsh
  refine (walkLinks W m hm W.heap.size A0 _ c0 b0 hx0 hc0 (Nat.le_trans hk0 (by decide)) _ _ _ ls1 o1 (Nat.le_refl _)).mono fun e W' ⟨he, hb⟩ => ?_
  subst he
  exact ⟨_, rfl, post_true (tb := 4) laidOut hW' rfl rfl rfl Tryd.underlying4 (by
    intro t ht
    change t ∈ Tryd.f3.params.toList at ht
    rw [Tryd.params3] at ht
    simp only [List.mem_cons, List.mem_nil_iff, or_false] at ht
    rcases ht with rfl | rfl
    all_goals exact ⟨by kernel_rfl, of_decide_eq_true (by kernel_rfl)⟩) hb⟩

theorem holds : Rows.StoreLinksSaid :=
  OpenClaim.holds_of_wide 3 Tryd.f3 rfl rfl rfl rfl rfl rfl rfl ⟨rfl, rfl, rfl, rfl, rfl⟩ rfl rfl rfl rfl rfl (by kernel_rfl) Tryd.func3 (by kernel_rfl)
    (of_decide_eq_true (by kernel_rfl)) (by unfold Func.isWrapper; first | (rw [if_pos (by decide +kernel)]; kernel_rfl) | (rw [if_neg (by decide +kernel)]; exact ⟨rfl, rfl⟩))
    (fun os started H enc _ => lifted os started H enc)
theorem proved : Rows.StoreLinksCardSaid :=
  Claim7.holds_tied_plain_at .later [] [.data, .pinned] true Rows.storeLinksCard.stood.harness false holds (fun _ h => by cases h) (by kernel_rfl) (fun _ h => by cases h) storeLinks_row_tie rfl ⟨rfl, rfl⟩ (by kernel_rfl) rfl
    (fun f fn hf hfn => by
      obtain rfl : f = 3 := Option.some.inj ((show Tryd.prog.funcNamed "admission/admissionlaw05.StoreLinks" = some 3 by kernel_rfl).symm.trans hf) |>.symm
      obtain rfl : fn = Tryd.f3 := (Option.some.inj (Tryd.func3.symm.trans hfn)).symm
      exact ⟨by kernel_rfl, fun j t ht => by
        rw [Tryd.params3] at ht
        have hm : t ∈ [22, 23] := by simpa using Array.mem_of_getElem? ht
        have hall : ([22, 23].all fun u => !Tryd.prog.wantsStandIn u) = true := by kernel_rfl
        exact (show Tryd.prog.wantsStandIn t = false by simpa using List.all_eq_true.1 hall t hm)⟩)
    (by kernel_rfl)
end Go.Proofs.YtkcmaembpfakdaaDoor.storeLinks

/- The law RecordScopes. -/
import Derived.Test.YtjdinakdkdjocaaGreatDoorRec2
set_option linter.unusedSimpArgs false
set_option linter.unusedVariables false
set_option maxRecDepth 100000
namespace Go.Adm
open Go Go.RowKit
theorem wl_met {P : Program} {ops : Array Oper} {rest : List Oper} {o : Oper} {a : Act} {w : World} {Q : Exit → Act → World → Prop} (hw : Region.wanted o (yielded ops a.tmps) = true)
    (h : o.wp P a w (wpList P ops Q rest) Q) : wpList P ops Q (o :: rest) a w := by
  unfold wpList
  rw [if_pos hw]
  exact .inl h
theorem recA_one : ∀ v ∈ recA, v.oneCell' = true := by decide +kernel
end Go.Adm
namespace Go.Proofs.YtjdinakdkdjocaaGreatDoor
open Go Go.RowKit Go.Adm
theorem scopeAB (m : Int) (w : World) (hm : w.cell? ⟨0, 0, none⟩ = some (.int .i64 m)) : Calls Tryz.prog 33 #[.string ⟨#[97, 47, 98]⟩] w fun e w' => e = .returned (.bool true) ∧ Below w.heap.size w w' := by
  have h := Scope_any ⟨#[97, 47, 98]⟩ w (by decide) m hm
  have hp : partsL ⟨#[97, 47, 98]⟩ = [⟨#[97]⟩, ⟨#[98]⟩] := by decide +kernel
  have h1 : nameB ⟨#[97]⟩ = true := nameB_yes ⟨by decide, by decide, by decide⟩
  have h2 : nameB ⟨#[98]⟩ = true := nameB_yes ⟨by decide, by decide, by decide⟩
  rwa [show scopeB ⟨#[97, 47, 98]⟩ = true from by unfold scopeB; rw [hp]; simp [h1, h2]] at h
set_option maxHeartbeats 3200000 in
theorem awake_any (m : Int) (w : World) (hm : w.cell? ⟨0, 0, none⟩ = some (.int .i64 m)) (hgm : 0 < w.heap.size) (ht : Lib.TabIs Tryz.prog w "internal/strconv.uint64pow10" .u64 Lib.pow10Tab) :
    Calls Tryz.prog 10 #[] w fun e w' => e = .returned (.bool true) ∧ Below w.heap.size w w' := by
  have hR : All w [.kept w w.heap.size] := ⟨⟨Below.refl _ _, Nat.le_refl _⟩, trivial⟩
  have HM := Lib.hid hm
  have HT : Hid (∀ W, Below w.heap.size w W → Lib.TabIs Tryz.prog W "internal/strconv.uint64pow10" .u64 Lib.pow10Tab) := Lib.hid (fun W hb => tab_keep ht hb)
  clear hm ht
  have hzr := zero_rec
  go_enter Tryz.func10, Tryz.ntmps10
  have hW0 := hR.new (l := recZ) recZ.toArray 31 rfl rfl
  go_upto_region 2 with (first
    | (refine wl_build rfl 31 [(0, .const (.string ⟨#[114]⟩)), (2, .const (.string ⟨#[115]⟩)), (3, .const (.int .i64 3))] rfl _ _ #[(0, 1), (1, 1), (2, 1), (3, 1), (4, 1), (5, 1), (6, 1), (7, 1)] recA.toArray zero_rec Tryz.underlying31 (fun w => by kernel_rfl) ?_ ?_; kernel_rfl)
    | (refine wl_store_at hW0 0 rfl 31 (.tmp 1) (.tmp 4) rfl w.heap.size _ _ recA rfl rfl rfl rfl (by kernel_rfl) recA_one (by simp [Apart, Res.apart] <;> omega) ?_; intro W1 hW1 hs1))
  simp only [List.set_cons_zero] at hW1
  clear hW0 hR hs1 hzr
  have hm1 : Hid (W1.cell? ⟨0, 0, none⟩ = some (.int .i64 m)) := Lib.hid (((hW1.at_ 1 rfl : _ ∧ _).1.cell hgm).trans HM.out)
  have hg1 : 0 < W1.heap.size := Nat.lt_of_lt_of_le hgm (hW1.at_ 1 rfl : _ ∧ _).2
  have ht1 := Lib.hid (HT.out W1 (hW1.at_ 1 rfl : _ ∧ _).1)
  go_upto_region 3 with (first
    | (refine wl_load_any rfl 31 (.tmp 1) rfl ⟨w.heap.size, 0, none⟩ rfl recA _ (cell_all (hW1.at_ 0 rfl)) Tryz.underlying31 rfl (by kernel_rfl) ?_)
    | (go_at_call 12; refine (recEncode0 m _ hm1.out hg1 ht1.out).mono ?_; rintro e w2 ⟨A, c, rfl, hb2, hrd⟩; have hW2 := hW1.call hb2))
  clear hW1 hb2 hm1 hg1 ht1
  have hm2 : Hid (w2.cell? ⟨0, 0, none⟩ = some (.int .i64 m)) := Lib.hid (((hW2.at_ 1 rfl : _ ∧ _).1.cell hgm).trans HM.out)
  have hg2 : 0 < w2.heap.size := Nat.lt_of_lt_of_le hgm (hW2.at_ 1 rfl : _ ∧ _).2
  have hconv : (convert 22 9 (.slice A 23 c)).run Tryz.prog w2 = .ok (.string ⟨recT.toArray⟩) w2 := run_conv (P := Tryz.prog) w2 22 9 5 Tryz.underlying22 Tryz.underlying5 Tryz.underlying9 (c := c) hrd
  unfold recT at hconv
  clear hrd
  go_wp2_with (first
    | (refine wl_met rfl ?_; refine wp_load_any 31 (.tmp 1) rfl ⟨w.heap.size, 0, none⟩ rfl recA _ (cell_all (hW2.at_ 0 rfl)) Tryz.underlying31 rfl (by kernel_rfl) ?_)
    | (go_at_call 25; refine (recValid0 m _ hm2.out hg2).mono ?_; rintro e w3 ⟨rfl, hb3⟩; have hW3 := hW2.call hb3; have hm3 : w3.cell? ⟨0, 0, none⟩ = some (.int .i64 m) := ((hW3.at_ 1 rfl : _ ∧ _).1.cell hgm).trans HM.out)
    | (go_at_call 33; refine (scopeAB m _ hm3).mono ?_; rintro e w4 ⟨rfl, hb4⟩; have hW4 := hW3.call hb4))
  go_ret
  exact ⟨rfl, (hW4.at_ 1 rfl : _ ∧ _).1⟩
end Go.Proofs.YtjdinakdkdjocaaGreatDoor

/- Which records are valid: the program. -/
import Derived.Test.YtjdinakdkdjocaaGreatDoorRecF
import Derived.Test.YtjdinakdkdjocaaGreatDoorSnpB
set_option linter.unusedSimpArgs false
set_option linter.unusedVariables false
set_option maxRecDepth 100000
namespace Go.AdR
open Go Go.RowKit Go.Adm
theorem cell_of {w : World} {g : Nat} {t : TypeId} {cs : List Value} (h : Cells w g t cs) {i : Nat} {v : Value} (hi : cs[i]? = some v) : w.cell? ⟨g, i, none⟩ = some v := by
  obtain ⟨hl, e⟩ := List.getElem?_eq_some_iff.1 hi
  rw [Cells.cell h hl, e]
/-- a slice in memory -/
structure Sl where
  A : Option Addr
  n : Nat
  c : Nat
def Sl.v (s : Sl) : Value := .slice s.A s.n s.c
/-- a record: what it says, and where its lists lie -/
structure Rec where
  run : ByteArray
  scope : ByteArray
  step : ByteArray
  t : Int
  cmd : List ByteArray
  env : List Var
  mat : List E
  prod : List E
def recC (x : Rec) (sc se sm sp : Sl) : List Value := [.string x.run, .string x.scope, .string x.step, .int .i64 x.t, sc.v, se.v, sm.v, sp.v]
structure RecIn (w : World) (B : Nat) (x : Rec) (sc se sm sp : Sl) : Prop where
  cmd : Strs w B sc.A sc.n x.cmd
  env : Els w B 2 se.A se.n (x.env.map varC)
  mat : Els w B 33 sm.A sm.n (x.mat.map entC)
  prod : Els w B 33 sp.A sp.n (x.prod.map entC)
theorem RecIn.keep {w w' : World} {B : Nat} {x : Rec} {sc se sm sp : Sl} (h : RecIn w B x sc se sm sp) (hk : ∀ p : Addr, p.block < B → w'.cell? p = w.cell? p) : RecIn w' B x sc se sm sp := ⟨h.cmd.keep hk, h.env.keep hk, h.mat.keep hk, h.prod.keep hk⟩
def Low.recd (B : Nat) (x : Rec) (sc se sm sp : Sl) : Low := ⟨B, fun w => RecIn w B x sc se sm sp, fun _ _ hk h => h.keep hk⟩
/-- what is known of a record ahead -/
structure RecOk (x : Rec) : Prop where
  run : x.run.size ≤ 140737488355328
  step : x.step.size ≤ 140737488355328
  scope : x.scope.size ≤ 1000000
  env : ∀ e ∈ x.env, VarOk e
  mat : ∀ e ∈ x.mat, E32 e
  prod : ∀ e ∈ x.prod, E32 e
  ncmd : x.cmd.length ≤ 1000000
  nenv : x.env.length ≤ 1000000
  nmat : x.mat.length ≤ 1000000
  nprod : x.prod.length ≤ 1000000
end Go.AdR
namespace Go.Proofs.YtjdinakdkdjocaaGreatDoor
open Go Go.RowKit Go.Adm Go.AdR
noncomputable def recB (x : Rec) : Bool := nameB x.run && (nameB x.step && (scopeB x.scope && (!decide (x.t < 0) && (!decide (1099511627776 < x.t) && (!decide ((16 : Int) < (x.cmd.length : Int)) && (!x.cmd.any longB && (varsB x.env && (validB x.mat && validB x.prod))))))))
set_option maxHeartbeats 12800000 in
theorem recValid_any (w : World) (B : Nat) (x : Rec) (sc se sm sp : Sl) (h : RecIn w B x sc se sm sp) (ho : RecOk x) (hB : B ≤ w.heap.size) (m : Int) (hm : w.cell? ⟨0, 0, none⟩ = some (.int .i64 m)) :
    Calls Tryz.prog 25 #[.agg (recC x sc se sm sp).toArray] w fun e w' => e = .returned (.bool (recB x)) ∧ Below w.heap.size w w' := by
  have hgm : 0 < w.heap.size := World.block_lt_of_cell? w _ hm
  have hR : All w [.low (Go.AdR.Low.recd B x sc se sm sp), .kept w w.heap.size] := ⟨⟨h, hB⟩, ⟨Below.refl _ _, Nat.le_refl _⟩, trivial⟩
  have HM := Lib.hid hm
  have z1 := ho.run
  have z2 := ho.step
  have HO := Lib.hid ho
  have hnc : sc.n = x.cmd.length := h.cmd.len.symm
  have hne : se.n = x.env.length := by have := h.env.len; simpa using this.symm
  have hnm : sm.n = x.mat.length := by have := h.mat.len; simpa using this.symm
  have hnp : sp.n = x.prod.length := by have := h.prod.len; simpa using this.symm
  have HNE := Lib.hid hne
  have HNM := Lib.hid hnm
  have HNP := Lib.hid hnp
  have HNC := Lib.hid hnc
  have HF : Hid (recB x = (nameB x.run && (nameB x.step && (scopeB x.scope && (!decide (x.t < 0) && (!decide (1099511627776 < x.t) && (!decide ((16 : Int) < (sc.n : Int)) && (!x.cmd.any longB && (varsB x.env && (validB x.mat && validB x.prod)))))))))) := Lib.hid (by rw [hnc]; rfl)
  have HSc : Hid (∀ W, W.cell? ⟨0, 0, none⟩ = some (.int .i64 m) → Calls Tryz.prog 33 #[.string x.scope] W fun e w' => e = .returned (.bool (scopeB x.scope)) ∧ Below W.heap.size W w') := Lib.hid (fun W hm => Scope_any x.scope W ho.scope m hm)
  clear h ho hB hm hnc hne hnm hnp
  obtain ⟨bs, hbs⟩ : ∃ b, b = scopeB x.scope := ⟨_, rfl⟩
  obtain ⟨bl, hbl⟩ : ∃ b, b = x.cmd.any longB := ⟨_, rfl⟩
  obtain ⟨be, hbe⟩ : ∃ b, b = varsB x.env := ⟨_, rfl⟩
  obtain ⟨bm, hbm⟩ : ∃ b, b = validB x.mat := ⟨_, rfl⟩
  obtain ⟨bp, hbp⟩ : ∃ b, b = validB x.prod := ⟨_, rfl⟩
  rw [← hbs, ← hbl, ← hbe, ← hbm, ← hbp] at HF
  rw [← hbs] at HSc
  have HBL := Lib.hid hbl
  have HBE := Lib.hid hbe
  have HBM := Lib.hid hbm
  have HBP := Lib.hid hbp
  clear hbs hbl hbe hbm hbp
  go_enter Tryz.func25, Tryz.ntmps25
  go_upto_region 1 with (fail)
  refine wp_gen (hR.new (l := recC x sc se sm sp) _ 31 rfl rfl) ?_
  intro W hW
  have hm2 : Hid (W.cell? ⟨0, 0, none⟩ = some (.int .i64 m)) := Lib.hid (((hW.at_ 2 rfl : _ ∧ _).1.cell hgm).trans HM.out)
  have hb0 := Lib.hid (hW.at_ 2 rfl : _ ∧ _).1
  have c0 := cell_of (hW.at_ 0 rfl) (i := 0) rfl
  have c1 := cell_of (hW.at_ 0 rfl) (i := 1) rfl
  have c2 := cell_of (hW.at_ 0 rfl) (i := 2) rfl
  clear hR hgm HM
  cases e1 : nameB x.run with
  | false =>
    rw [e1] at HF
    go_wp2_with (first | (go_at_call 56; refine (Name_any _ _ (by first | exact z1 | exact z2)).mono ?_; rintro e w' ⟨rfl, rfl⟩))
    go_ret
    exact ⟨ret_bool (by rw [HF.out]; rfl), hb0.out⟩
  | true =>
    rw [e1] at HF
    cases e2 : nameB x.step with
    | false =>
      rw [e2] at HF
      go_wp2_with (first | (go_at_call 56; refine (Name_any _ _ (by first | exact z1 | exact z2)).mono ?_; rintro e w' ⟨rfl, rfl⟩))
      go_ret
      exact ⟨ret_bool (by rw [HF.out]; rfl), hb0.out⟩
    | true =>
      rw [e2] at HF
      cases bs with
      | false =>
        go_wp2_with (first | (go_at_call 56; refine (Name_any _ _ (by first | exact z1 | exact z2)).mono ?_; rintro e w' ⟨rfl, rfl⟩) | (go_at_call 33; refine (HSc.out _ hm2.out).mono ?_; rintro e w2 ⟨rfl, hb2⟩; have hW2 := hW.call hb2; have c3 := cell_of (hW2.at_ 0 rfl) (i := 3) rfl; have c4 := cell_of (hW2.at_ 0 rfl) (i := 4) rfl; have c5 := cell_of (hW2.at_ 0 rfl) (i := 5) rfl))
        go_ret
        exact ⟨ret_bool (by rw [HF.out]; rfl), (hW2.at_ 2 rfl : _ ∧ _).1⟩
      | true =>
        cases e4 : decide (x.t < 0) with
        | true =>
          rw [e4] at HF
          go_wp2_with (first | (go_at_call 56; refine (Name_any _ _ (by first | exact z1 | exact z2)).mono ?_; rintro e w' ⟨rfl, rfl⟩) | (go_at_call 33; refine (HSc.out _ hm2.out).mono ?_; rintro e w2 ⟨rfl, hb2⟩; have hW2 := hW.call hb2; have c3 := cell_of (hW2.at_ 0 rfl) (i := 3) rfl; have c4 := cell_of (hW2.at_ 0 rfl) (i := 4) rfl; have c5 := cell_of (hW2.at_ 0 rfl) (i := 5) rfl))
          go_ret
          exact ⟨ret_bool (by rw [HF.out]; rfl), (hW2.at_ 2 rfl : _ ∧ _).1⟩
        | false =>
          rw [e4] at HF
          cases e5 : decide (1099511627776 < x.t) with
          | true =>
            rw [e5] at HF
            go_wp2_with (first | (go_at_call 56; refine (Name_any _ _ (by first | exact z1 | exact z2)).mono ?_; rintro e w' ⟨rfl, rfl⟩) | (go_at_call 33; refine (HSc.out _ hm2.out).mono ?_; rintro e w2 ⟨rfl, hb2⟩; have hW2 := hW.call hb2; have c3 := cell_of (hW2.at_ 0 rfl) (i := 3) rfl; have c4 := cell_of (hW2.at_ 0 rfl) (i := 4) rfl; have c5 := cell_of (hW2.at_ 0 rfl) (i := 5) rfl))
            go_ret
            exact ⟨ret_bool (by rw [HF.out]; rfl), (hW2.at_ 2 rfl : _ ∧ _).1⟩
          | false =>
            rw [e5] at HF
            go_upto_region 4 with (first | (go_at_call 56; refine (Name_any _ _ (by first | exact z1 | exact z2)).mono ?_; rintro e w' ⟨rfl, rfl⟩) | (go_at_call 33; refine (HSc.out _ hm2.out).mono ?_; rintro e w2 ⟨rfl, hb2⟩; have hW2 := hW.call hb2; have c3 := cell_of (hW2.at_ 0 rfl) (i := 3) rfl; have c4 := cell_of (hW2.at_ 0 rfl) (i := 4) rfl; have c5 := cell_of (hW2.at_ 0 rfl) (i := 5) rfl))
            clear hW hb2 hm2 hb0 c0 c1 c2 c3 e1 e2 e4 e5 z1 z2
            have HCL : Hid (∀ W, RecIn W B x sc se sm sp → B ≤ W.heap.size → Calls Tryz.prog 58 #[sc.v, .func (.func 57) #[] #[]] W fun e w' => e = .returned (.bool bl) ∧ w' = W) := Lib.hid (fun W h hB => by rw [HBL.out]; exact ContainsLong_any W B sc.A sc.n sc.c x.cmd h.cmd (by rw [HNC.out]; exact HO.out.ncmd) hB)
            have HVA : Hid (∀ W, RecIn W B x sc se sm sp → B ≤ W.heap.size → Calls Tryz.prog 59 #[se.v] W fun e w' => e = .returned (.bool be) ∧ Below W.heap.size W w') := Lib.hid (fun W h hB => by rw [HBE.out]; exact variables_any W B se.A se.n se.c x.env h.env HO.out.env HNE.out.symm (by rw [HNE.out]; exact HO.out.nenv) hB)
            have HVM : Hid (∀ W, RecIn W B x sc se sm sp → B ≤ W.heap.size → Calls Tryz.prog 60 #[sm.v] W fun e w' => e = .returned (.bool bm) ∧ Below W.heap.size W w') := Lib.hid (fun W h hB => by rw [HBM.out]; exact Valid_any W B sm.A sm.n sm.c x.mat h.mat HO.out.mat HNM.out.symm (by rw [HNM.out]; exact HO.out.nmat) hB)
            have HVP : Hid (∀ W, RecIn W B x sc se sm sp → B ≤ W.heap.size → Calls Tryz.prog 60 #[sp.v] W fun e w' => e = .returned (.bool bp) ∧ Below W.heap.size W w') := Lib.hid (fun W h hB => by rw [HBP.out]; exact Valid_any W B sp.A sp.n sp.c x.prod h.prod HO.out.prod HNP.out.symm (by rw [HNP.out]; exact HO.out.nprod) hB)
            unfold Sl.v at c4 c5 HCL HVA HVM HVP
            change All w2 [.cells w.heap.size 31 [.string x.run, .string x.scope, .string x.step, .int .i64 x.t, .slice sc.A sc.n sc.c, .slice se.A se.n se.c, .slice sm.A sm.n sm.c, .slice sp.A sp.n sp.c], .low (Go.AdR.Low.recd B x sc se sm sp), .kept w w.heap.size] at hW2
            cases e6 : decide ((16 : Int) < (sc.n : Int)) with
            | true =>
              rw [e6] at HF
              go_wp2_with (first | (go_at_call 58; refine (HCL.out _ (hW2.at_ 1 rfl : _ ∧ _).1 (hW2.at_ 1 rfl : _ ∧ _).2).mono ?_; rintro e w' ⟨rfl, rfl⟩) | (go_at_call 59; refine (HVA.out _ (hW2.at_ 1 rfl : _ ∧ _).1 (hW2.at_ 1 rfl : _ ∧ _).2).mono ?_; rintro e w3 ⟨rfl, hb3⟩; have hW3 := hW2.call hb3; have c6 := cell_of (hW3.at_ 0 rfl) (i := 6) rfl; have c7 := cell_of (hW3.at_ 0 rfl) (i := 7) rfl))
              go_ret
              exact ⟨ret_bool (by rw [HF.out]; rfl), (hW2.at_ 2 rfl : _ ∧ _).1⟩
            | false =>
              rw [e6] at HF
              cases bl with
              | true =>
                go_wp2_with (first | (go_at_call 58; refine (HCL.out _ (hW2.at_ 1 rfl : _ ∧ _).1 (hW2.at_ 1 rfl : _ ∧ _).2).mono ?_; rintro e w' ⟨rfl, rfl⟩) | (go_at_call 59; refine (HVA.out _ (hW2.at_ 1 rfl : _ ∧ _).1 (hW2.at_ 1 rfl : _ ∧ _).2).mono ?_; rintro e w3 ⟨rfl, hb3⟩; have hW3 := hW2.call hb3; have c6 := cell_of (hW3.at_ 0 rfl) (i := 6) rfl; have c7 := cell_of (hW3.at_ 0 rfl) (i := 7) rfl))
                go_ret
                exact ⟨ret_bool (by rw [HF.out]; rfl), (hW2.at_ 2 rfl : _ ∧ _).1⟩
              | false =>
                cases be with
                | false =>
                  go_wp2_with (first | (go_at_call 58; refine (HCL.out _ (hW2.at_ 1 rfl : _ ∧ _).1 (hW2.at_ 1 rfl : _ ∧ _).2).mono ?_; rintro e w' ⟨rfl, rfl⟩) | (go_at_call 59; refine (HVA.out _ (hW2.at_ 1 rfl : _ ∧ _).1 (hW2.at_ 1 rfl : _ ∧ _).2).mono ?_; rintro e w3 ⟨rfl, hb3⟩; have hW3 := hW2.call hb3; have c6 := cell_of (hW3.at_ 0 rfl) (i := 6) rfl; have c7 := cell_of (hW3.at_ 0 rfl) (i := 7) rfl))
                  go_ret
                  exact ⟨ret_bool (by rw [HF.out]; rfl), (hW3.at_ 2 rfl : _ ∧ _).1⟩
                | true =>
                  go_upto_region 6 with (first | (go_at_call 58; refine (HCL.out _ (hW2.at_ 1 rfl : _ ∧ _).1 (hW2.at_ 1 rfl : _ ∧ _).2).mono ?_; rintro e w' ⟨rfl, rfl⟩) | (go_at_call 59; refine (HVA.out _ (hW2.at_ 1 rfl : _ ∧ _).1 (hW2.at_ 1 rfl : _ ∧ _).2).mono ?_; rintro e w3 ⟨rfl, hb3⟩; have hW3 := hW2.call hb3; have c6 := cell_of (hW3.at_ 0 rfl) (i := 6) rfl; have c7 := cell_of (hW3.at_ 0 rfl) (i := 7) rfl))
                  clear hW2 hb3 c4 c5 e6
                  cases bm with
                  | false =>
                    go_wp2_with fail
                    refine (HVM.out _ (hW3.at_ 1 rfl : _ ∧ _).1 (hW3.at_ 1 rfl : _ ∧ _).2).mono ?_
                    rintro e w4 ⟨rfl, hb4⟩
                    have hW4 := hW3.call hb4
                    clear hW3 hb4 c6 c7
                    go_wp2_with fail
                    go_ret
                    exact ⟨ret_bool (by rw [HF.out]; rfl), (hW4.at_ 2 rfl : _ ∧ _).1⟩
                  | true =>
                    go_wp2_with fail
                    refine (HVM.out _ (hW3.at_ 1 rfl : _ ∧ _).1 (hW3.at_ 1 rfl : _ ∧ _).2).mono ?_
                    rintro e w4 ⟨rfl, hb4⟩
                    have hW4 := hW3.call hb4
                    clear hW3 hb4 c6 c7
                    have c7 := cell_of (hW4.at_ 0 rfl) (i := 7) rfl
                    go_wp2_with fail
                    refine (HVP.out _ (hW4.at_ 1 rfl : _ ∧ _).1 (hW4.at_ 1 rfl : _ ∧ _).2).mono ?_
                    rintro e w5 ⟨rfl, hb5⟩
                    have hW5 := hW4.call hb5
                    clear hW4 hb5 c7
                    go_wp2_with fail
                    go_ret
                    exact ⟨ret_bool (by rw [HF.out]; simp), (hW5.at_ 2 rfl : _ ∧ _).1⟩
end Go.Proofs.YtjdinakdkdjocaaGreatDoor

/- Whether a record is not too large. -/
import Derived.Test.YtjdinakdkdjocaaGreatDoorOpenRec
import Derived.Test.YtjdinakdkdjocaaGreatDoorRec2
set_option linter.unusedSimpArgs false
set_option linter.unusedVariables false
set_option maxRecDepth 100000
namespace Go.Proofs.YtjdinakdkdjocaaGreatDoor
open Go Go.RowKit Go.Adm Go.AdR
def RLightPost (x : Rec) (w : World) (e : Ending) (w' : World) : Prop := ∃ b, e = .returned (.bool b) ∧ Below w.heap.size w w' ∧ (b = true → RecOk x)
set_option maxHeartbeats 6400000 in
theorem light_any (w : World) (B : Nat) (x : Rec) (sc se sm sp : Sl) (h : RecIn w B x sc se sm sp) (hr : RecRaw x) (hB : B ≤ w.heap.size) :
    Calls Tryz.prog 34 #[.agg (recC x sc se sm sp).toArray] w (RLightPost x w) := by
  have hR : All w [.low (Go.AdR.Low.recd B x sc se sm sp), .kept w w.heap.size] := ⟨⟨h, hB⟩, ⟨Below.refl _ _, Nat.le_refl _⟩, trivial⟩
  have HR := Lib.hid hr
  have HNC : Hid (x.cmd.length = sc.n) := Lib.hid h.cmd.len
  have HNE : Hid (x.env.length = se.n) := Lib.hid (by have := h.env.len; simpa using this)
  have HNM : Hid (x.mat.length = sm.n) := Lib.hid (by have := h.mat.len; simpa using this)
  have HNP : Hid (x.prod.length = sp.n) := Lib.hid (by have := h.prod.len; simpa using this)
  clear h hr hB
  go_enter Tryz.func34, Tryz.ntmps34
  go_upto_region 1 with (fail)
  refine wp_gen (hR.new (l := recC x sc se sm sp) _ 31 rfl rfl) ?_
  intro W hW
  clear hR
  change All W [.cells w.heap.size 31 [.string x.run, .string x.scope, .string x.step, .int .i64 x.t, .slice sc.A sc.n sc.c, .slice se.A se.n se.c, .slice sm.A sm.n sm.c, .slice sp.A sp.n sp.c], .low (Go.AdR.Low.recd B x sc se sm sp), .kept w w.heap.size] at hW
  have hb := Lib.hid (hW.at_ 2 rfl : _ ∧ _).1
  have hin := Lib.hid (hW.at_ 1 rfl : RecIn W B x sc se sm sp ∧ _).1
  have q0 := cell_of (hW.at_ 0 rfl) (i := 0) rfl
  have q1 := cell_of (hW.at_ 0 rfl) (i := 1) rfl
  have q2 := cell_of (hW.at_ 0 rfl) (i := 2) rfl
  have q4 := cell_of (hW.at_ 0 rfl) (i := 4) rfl
  have q5 := cell_of (hW.at_ 0 rfl) (i := 5) rfl
  have q6 := cell_of (hW.at_ 0 rfl) (i := 6) rfl
  have q7 := cell_of (hW.at_ 0 rfl) (i := 7) rfl
  clear hW
  obtain ⟨cA, cn, cc⟩ := sc
  obtain ⟨eA, en, ec⟩ := se
  obtain ⟨mA, mn, mc⟩ := sm
  obtain ⟨pA, pn, pc⟩ := sp
  simp only at HNC HNE HNM HNP q4 q5 q6 q7
  cases d1 : decide ((50 : Int) < (cn : Int)) with
  | true =>
    go_wp2_with fail
    go_ret
    exact ⟨false, rfl, hb.out, fun h => by cases h⟩
  | false =>
    cases d2 : decide ((50 : Int) < (en : Int)) with
    | true =>
      go_wp2_with fail
      go_ret
      exact ⟨false, rfl, hb.out, fun h => by cases h⟩
    | false =>
      cases d3 : decide ((100 : Int) < (mn : Int)) with
      | true =>
        go_wp2_with fail
        go_ret
        exact ⟨false, rfl, hb.out, fun h => by cases h⟩
      | false =>
        cases d4 : decide ((100 : Int) < (pn : Int)) with
        | true =>
          go_wp2_with fail
          go_ret
          exact ⟨false, rfl, hb.out, fun h => by cases h⟩
        | false =>
          have H1 := Lib.hid (of_decide_eq_false d1)
          have H2 := Lib.hid (of_decide_eq_false d2)
          have H3 := Lib.hid (of_decide_eq_false d3)
          have H4 := Lib.hid (of_decide_eq_false d4)
          go_upto_region 3 with (fail)
          clear d1 d2 d3 d4
          go_upto_region 4 with (fail)
          go_loop [3] (fun i => ∃ k : Nat, k ≤ cn ∧ i = .int .i64 k) (fun i => cn - (intOf i).toNat)
          case atStart => exact ⟨0, Nat.zero_le _, rfl⟩
          case round =>
            obtain ⟨k, hk, rfl⟩ := hrel
            by_cases hlt : k < cn
            · have d1 : decide ((k : Int) < (cn : Int)) = true := by simp; omega
              have hkl : k < x.cmd.length := by rw [HNC.out]; exact hlt
              obtain ⟨ad, hA, hadB, hc, hs⟩ := hin.out.cmd.at_ hkl
              simp only at hA
              subst hA
              have w1 : IntKind.i64.wrap ((k : Int) + 1) = ((k + 1 : Nat) : Int) := by rw [IntWalk.i64_in _ (by have := H1.out; omega)]; omega
              generalize x.cmd[k] = s at *
              clear hkl
              cases h0 : decide ((500 : Int) < (s.size : Int)) with
              | true =>
                go_wp2_with fail
                go_ret
                exact ⟨false, rfl, hb.out, fun h => by cases h⟩
              | false =>
                go_wp2_with fail
                exact ⟨⟨k + 1, by omega, by go_num⟩, by simp [intOf]; omega⟩
            · obtain rfl : k = cn := by omega
              have d1 : decide ((k : Int) < (k : Int)) = false := by simp
              go_upto_region 9 with (fail)
              clear d1
              go_loop [4] (fun i => ∃ j : Nat, j ≤ en ∧ i = .int .i64 j) (fun i => en - (intOf i).toNat)
              case atStart => exact ⟨0, Nat.zero_le _, rfl⟩
              case round =>
                obtain ⟨j, hj, rfl⟩ := hrel
                by_cases hlt2 : j < en
                · have d1 : decide ((j : Int) < (en : Int)) = true := by simp; omega
                  have hjl : j < x.env.length := by rw [HNE.out]; exact hlt2
                  have HJ := Lib.hid hlt2
                  obtain ⟨ad, hA, hadB, hc⟩ := Els.at_ hin.out.env (k := j) (by rw [List.length_map]; exact hjl)
                  simp only at hA
                  subst hA
                  rw [List.getElem_map] at hc
                  have hc1 := hc 1 (.string x.env[j].v) rfl
                  have q9 : W.cell? ⟨(ad.add (j * 2)).block, (ad.add (j * 2)).off + 1, none⟩ = some (.string x.env[j].v) := hc1
                  clear hc hc1
                  have wj1 : (0 : Int) ≤ (j : Int) := by omega
                  have wj2 : (j : Int) < (en : Int) := by omega
                  have wj3 : ((j : Int)).toNat = j := by omega
                  have w2 : IntKind.i64.wrap ((j : Int) + 1) = ((j + 1 : Nat) : Int) := by rw [IntWalk.i64_in _ (by have := H2.out; omega)]; omega
                  generalize x.env[j].v = s at *
                  clear hjl
                  cases h0 : decide ((500 : Int) < (s.size : Int)) with
                  | true =>
                    go_wp2_with fail
                    go_ret
                    exact ⟨false, rfl, hb.out, fun h => by cases h⟩
                  | false =>
                    go_wp2_with fail
                    exact ⟨⟨j + 1, HJ.out, rfl⟩, by have h7 : j < en := HJ.out; simp only [intOf]; exact Nat.sub_lt_sub_left h7 (by omega)⟩
                · obtain rfl : j = en := by omega
                  have d1 : decide ((j : Int) < (j : Int)) = false := by simp
                  go_upto_region 13 with (fail)
                  clear d1
                  cases e1 : decide ((x.run.size : Int) ≤ 300) with
                  | false =>
                    go_wp2_with fail
                    go_ret
                    exact ⟨false, rfl, hb.out, fun h => by cases h⟩
                  | true =>
                    cases e2 : decide ((x.scope.size : Int) ≤ 500) with
                    | false =>
                      go_wp2_with fail
                      go_ret
                      exact ⟨false, rfl, hb.out, fun h => by cases h⟩
                    | true =>
                      cases e3 : decide ((x.step.size : Int) ≤ 300) with
                      | false =>
                        go_wp2_with fail
                        go_ret
                        exact ⟨false, rfl, hb.out, fun h => by cases h⟩
                      | true =>
                        have HS := Lib.hid (of_decide_eq_true e2)
                        go_wp2_with fail
                        go_ret
                        refine ⟨true, rfl, hb.out, fun _ => ⟨HR.out.run, HR.out.step, by have := HS.out; omega, HR.out.env, HR.out.mat, HR.out.prod, ?_, ?_, ?_, ?_⟩⟩
                        · have := HNC.out; have := H1.out; omega
                        · have := HNE.out; have := H2.out; omega
                        · have := HNM.out; have := H3.out; omega
                        · have := HNP.out; have := H4.out; omega
end Go.Proofs.YtjdinakdkdjocaaGreatDoor

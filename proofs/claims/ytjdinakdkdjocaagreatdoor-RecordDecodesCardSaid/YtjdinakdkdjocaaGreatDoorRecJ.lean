/- Whether a command is allowed: the reference. Which records are valid: the reference. -/
import Derived.Test.YtjdinakdkdjocaaGreatDoorRecF
import Derived.Test.YtjdinakdkdjocaaGreatDoorRec6
import Derived.Test.YtjdinakdkdjocaaGreatDoorRef2
set_option linter.unusedSimpArgs false
set_option linter.unusedVariables false
set_option maxRecDepth 100000
namespace Go.Proofs.YtjdinakdkdjocaaGreatDoor
open Go Go.RowKit Go.Adm Go.AdR
set_option maxHeartbeats 3200000 in
theorem Short_any (w : World) (B : Nat) (A : Option Addr) (n c : Nat) (l : List ByteArray) (h : Strs w B A n l) (hn2 : n ≤ 1000000) (hB : B ≤ w.heap.size) :
    Calls Tryz.prog 41 #[.slice A n c] w fun e w' => e = .returned (.bool (!l.any longB && decide ((n : Int) ≤ 16))) ∧ w' = w := by
  have HN := Lib.hid h.len
  have H := Lib.hid h
  clear h
  go_enter Tryz.func41, Tryz.ntmps41
  go_wp2_with fail
  go_loop [3] (fun i => ∃ k : Nat, k ≤ n ∧ i = .int .i64 k ∧ ∀ j (hj : j < l.length), j < k → longB l[j] = false) (fun i => n - (intOf i).toNat)
  case atStart => exact ⟨0, Nat.zero_le _, rfl, fun _ _ h => absurd h (by omega)⟩
  case round =>
    obtain ⟨k, hk, rfl, hall⟩ := hrel
    have HA := Lib.hid hall
    clear hall
    by_cases hlt : k < n
    · have d1 : decide ((k : Int) < (n : Int)) = true := by simp; omega
      have hkl : k < l.length := by rw [HN.out]; exact hlt
      obtain ⟨ad, rfl, hadB, hc, hs⟩ := H.out.at_ hkl
      have HX : Hid (longB l[k] = true → l.any longB = true) := Lib.hid (fun h => List.any_eq_true.2 ⟨_, List.getElem_mem hkl, h⟩)
      have HY : Hid (longB l[k] = false → ∀ j (hj : j < l.length), j < k + 1 → longB l[j] = false) := Lib.hid (fun h j hj h2 => by
        rcases Nat.lt_succ_iff_lt_or_eq.1 h2 with h4 | h4
        · exact HA.out j hj h4
        · subst h4; exact h)
      generalize l[k] = x at *
      clear hkl
      cases h0 : decide ((200 : Int) < (x.size : Int)) with
      | true =>
        have hv := Lib.hid (HX.out h0)
        clear HX HY
        go_wp2_with fail
        go_ret
        exact ⟨ret_bool (by rw [hv.out]; rfl), rfl⟩
      | false =>
        have hv := Lib.hid (HY.out h0)
        clear HX HY
        go_wp2_with fail
        exact ⟨⟨k + 1, by omega, by go_num, hv.out⟩, by simp [intOf]; omega⟩
    · have d1 : decide ((k : Int) < (n : Int)) = false := by simp; omega
      have hv : Hid (l.any longB = false) := Lib.hid (by
        rw [List.any_eq_false]
        intro x hx
        obtain ⟨j, hj, rfl⟩ := List.getElem_of_mem hx
        rw [HA.out j hj (by have := HN.out; omega)]
        decide)
      go_wp2_with fail
      go_ret
      exact ⟨ret_bool (by rw [hv.out]; rfl), rfl⟩
end Go.Proofs.YtjdinakdkdjocaaGreatDoor
set_option linter.unusedSimpArgs false
set_option linter.unusedVariables false
set_option maxRecDepth 100000
namespace Go.Proofs.YtjdinakdkdjocaaGreatDoor
open Go Go.RowKit Go.Adm Go.AdR
theorem Instant_any (t : Int) (w : World) : Calls Tryz.prog 40 #[.int .i64 t] w fun e w' => e = .returned (.bool (decide (0 ≤ t) && decide (t ≤ 1099511627776))) ∧ w' = w := by
  cases e2 : decide (0 ≤ t) with
  | false =>
    go_enter Tryz.func40, Tryz.ntmps40
    go_wp2_with fail
    go_ret
    exact ⟨rfl, rfl⟩
  | true =>
    cases e3 : decide (t ≤ 1099511627776) with
    | false =>
      go_enter Tryz.func40, Tryz.ntmps40
      go_wp2_with fail
      go_ret
      exact ⟨rfl, rfl⟩
    | true =>
      go_enter Tryz.func40, Tryz.ntmps40
      go_wp2_with fail
      go_ret
      exact ⟨rfl, rfl⟩
theorem recB_eq (x : Rec) : recB x = (nameB x.run && (scopeB x.scope && (nameB x.step && ((decide (0 ≤ x.t) && decide (x.t ≤ 1099511627776)) && ((!x.cmd.any longB && decide ((x.cmd.length : Int) ≤ 16)) && (varsB x.env && (validB x.mat && validB x.prod))))))) := by
  have h1 : (!decide (x.t < 0)) = decide (0 ≤ x.t) := by by_cases h : x.t < 0 <;> simp [h] <;> omega
  have h2 : (!decide (1099511627776 < x.t)) = decide (x.t ≤ 1099511627776) := by by_cases h : 1099511627776 < x.t <;> simp [h] <;> omega
  have h3 : (!decide ((16 : Int) < (x.cmd.length : Int))) = decide ((x.cmd.length : Int) ≤ 16) := by by_cases h : (16 : Int) < (x.cmd.length : Int) <;> simp [h] <;> omega
  rw [recB, h1, h2, h3]
  cases nameB x.run <;> cases scopeB x.scope <;> cases nameB x.step <;> cases decide (0 ≤ x.t) <;> cases decide (x.t ≤ 1099511627776) <;> cases x.cmd.any longB <;> cases decide ((x.cmd.length : Int) ≤ 16) <;> rfl
set_option maxHeartbeats 12800000 in
theorem rrValid_any (w : World) (B : Nat) (x : Rec) (sc se sm sp : Sl) (h : RecIn w B x sc se sm sp) (ho : RecOk x) (hB : B ≤ w.heap.size) (m : Int) (hm : w.cell? ⟨0, 0, none⟩ = some (.int .i64 m)) :
    Calls Tryz.prog 13 #[.agg (recC x sc se sm sp).toArray] w fun e w' => e = .returned (.bool (recB x)) ∧ Below w.heap.size w w' := by
  have hgm : 0 < w.heap.size := World.block_lt_of_cell? w _ hm
  have hR : All w [.low (Go.AdR.Low.recd B x sc se sm sp), .kept w w.heap.size] := ⟨⟨h, hB⟩, ⟨Below.refl _ _, Nat.le_refl _⟩, trivial⟩
  have HM : Hid (∀ W, Below w.heap.size w W → W.cell? ⟨0, 0, none⟩ = some (.int .i64 m)) := Lib.hid (fun W hb => (hb.cell hgm).trans hm)
  have z1 := ho.run
  have z2 := ho.step
  have HO := Lib.hid ho
  have hnc : sc.n = x.cmd.length := h.cmd.len.symm
  have hne : x.env.length = se.n := by have := h.env.len; simpa using this
  have hnm : x.mat.length = sm.n := by have := h.mat.len; simpa using this
  have hnp : x.prod.length = sp.n := by have := h.prod.len; simpa using this
  have HNE := Lib.hid hne
  have hne6 : se.n ≤ 1000000 := by rw [← hne]; exact ho.nenv
  have HSc : Hid (∀ W, W.cell? ⟨0, 0, none⟩ = some (.int .i64 m) → Calls Tryz.prog 39 #[.string x.scope] W fun e w' => e = .returned (.bool (scopeB x.scope)) ∧ Below W.heap.size W w') := Lib.hid (fun W hm => refScope_any x.scope W ho.scope m hm)
  have HI := Lib.hid (fun w => Instant_any x.t w)
  have HSH : Hid (∀ W, RecIn W B x sc se sm sp → B ≤ W.heap.size → Calls Tryz.prog 41 #[.slice sc.A sc.n sc.c] W fun e w' => e = .returned (.bool (!x.cmd.any longB && decide ((x.cmd.length : Int) ≤ 16))) ∧ w' = W) := Lib.hid (fun W h hB => by rw [← hnc]; exact Short_any W B sc.A sc.n sc.c x.cmd h.cmd (by rw [hnc]; exact ho.ncmd) hB)
  have HVM : Hid (∀ W, Below w.heap.size w W → RecIn W B x sc se sm sp → B ≤ W.heap.size → Calls Tryz.prog 42 #[.slice sm.A sm.n sm.c] W fun e w' => e = .returned (.bool (validB x.mat)) ∧ Below W.heap.size W w') := Lib.hid (fun W hb h hB => refValid_any W m (HM.out W hb) B sm.A sm.n sm.c x.mat h.mat ho.mat hnm (by rw [← hnm]; exact ho.nmat) hB)
  have HVP : Hid (∀ W, Below w.heap.size w W → RecIn W B x sc se sm sp → B ≤ W.heap.size → Calls Tryz.prog 42 #[.slice sp.A sp.n sp.c] W fun e w' => e = .returned (.bool (validB x.prod)) ∧ Below W.heap.size W w') := Lib.hid (fun W hb h hB => refValid_any W m (HM.out W hb) B sp.A sp.n sp.c x.prod h.prod ho.prod hnp (by rw [← hnp]; exact ho.nprod) hB)
  have HBE16 : Hid (decide ((16 : Int) < (se.n : Int)) = true → varsB x.env = false) := Lib.hid (fun h => by
    have h2 : ¬ x.env.length ≤ 16 := by rw [hne]; have := of_decide_eq_true h; omega
    rw [varsB, vAll, decide_eq_false h2]; rfl)
  have HF := Lib.hid (recB_eq x)
  clear h ho hB hm hnc hne hnm hnp hgm
  obtain ⟨bs, hbs⟩ : ∃ b, b = scopeB x.scope := ⟨_, rfl⟩
  obtain ⟨bi, hbi⟩ : ∃ b, b = (decide (0 ≤ x.t) && decide (x.t ≤ 1099511627776)) := ⟨_, rfl⟩
  obtain ⟨bh, hbh⟩ : ∃ b, b = (!x.cmd.any longB && decide ((x.cmd.length : Int) ≤ 16)) := ⟨_, rfl⟩
  obtain ⟨bm, hbm⟩ : ∃ b, b = validB x.mat := ⟨_, rfl⟩
  obtain ⟨bp, hbp⟩ : ∃ b, b = validB x.prod := ⟨_, rfl⟩
  rw [← hbs, ← hbi, ← hbh, ← hbm, ← hbp] at HF
  rw [← hbs] at HSc
  rw [← hbi] at HI
  rw [← hbh] at HSH
  rw [← hbm] at HVM
  rw [← hbp] at HVP
  clear hbs hbi hbh hbm hbp
  go_enter Tryz.func13, Tryz.ntmps13
  go_upto_region 1 with (fail)
  refine wp_gen (hR.new (l := recC x sc se sm sp) _ 31 rfl rfl) ?_
  intro W hW
  clear hR
  change All W [.cells w.heap.size 31 [.string x.run, .string x.scope, .string x.step, .int .i64 x.t, .slice sc.A sc.n sc.c, .slice se.A se.n se.c, .slice sm.A sm.n sm.c, .slice sp.A sp.n sp.c], .low (Go.AdR.Low.recd B x sc se sm sp), .kept w w.heap.size] at hW
  obtain ⟨eA, en, ec⟩ := se
  have hm2 := Lib.hid (HM.out W (hW.at_ 2 rfl : _ ∧ _).1)
  have hb0 := Lib.hid (hW.at_ 2 rfl : _ ∧ _).1
  have c0 := cell_of (hW.at_ 0 rfl) (i := 0) rfl
  have c1 := cell_of (hW.at_ 0 rfl) (i := 1) rfl
  simp only at HNE hne6 HBE16 c0 c1
  clear HM
  cases e1 : nameB x.run with
  | false =>
    rw [e1] at HF
    go_wp2_with (first
      | (go_at_call 38; refine (refName_any _ _ (by first | exact z1 | exact z2)).mono ?_; rintro e w' ⟨rfl, rfl⟩)
      | (go_at_call 39; refine (HSc.out _ hm2.out).mono ?_; rintro e w2 ⟨rfl, hb2⟩; have hW2 := hW.call hb2; have c2 := cell_of (hW2.at_ 0 rfl) (i := 2) rfl; have c3 := cell_of (hW2.at_ 0 rfl) (i := 3) rfl; have c4 := cell_of (hW2.at_ 0 rfl) (i := 4) rfl; have c5 := cell_of (hW2.at_ 0 rfl) (i := 5) rfl)
      | (go_at_call 40; refine (HI.out _).mono ?_; rintro e w' ⟨rfl, rfl⟩)
      | (go_at_call 41; refine (HSH.out _ (hW2.at_ 1 rfl : _ ∧ _).1 (hW2.at_ 1 rfl : _ ∧ _).2).mono ?_; rintro e w' ⟨rfl, rfl⟩))
    go_ret
    exact ⟨ret_bool (by rw [HF.out]; first | rfl | (simp; done)), hb0.out⟩
  | true =>
    rw [e1] at HF
    cases bs with
    | false =>
      go_wp2_with (first
        | (go_at_call 38; refine (refName_any _ _ (by first | exact z1 | exact z2)).mono ?_; rintro e w' ⟨rfl, rfl⟩)
        | (go_at_call 39; refine (HSc.out _ hm2.out).mono ?_; rintro e w2 ⟨rfl, hb2⟩; have hW2 := hW.call hb2; have c2 := cell_of (hW2.at_ 0 rfl) (i := 2) rfl; have c3 := cell_of (hW2.at_ 0 rfl) (i := 3) rfl; have c4 := cell_of (hW2.at_ 0 rfl) (i := 4) rfl; have c5 := cell_of (hW2.at_ 0 rfl) (i := 5) rfl)
        | (go_at_call 40; refine (HI.out _).mono ?_; rintro e w' ⟨rfl, rfl⟩)
        | (go_at_call 41; refine (HSH.out _ (hW2.at_ 1 rfl : _ ∧ _).1 (hW2.at_ 1 rfl : _ ∧ _).2).mono ?_; rintro e w' ⟨rfl, rfl⟩))
      go_ret
      exact ⟨ret_bool (by rw [HF.out]; first | rfl | (simp; done)), (hW2.at_ 2 rfl : _ ∧ _).1⟩
    | true =>
      cases e2 : nameB x.step with
      | false =>
        rw [e2] at HF
        go_wp2_with (first
          | (go_at_call 38; refine (refName_any _ _ (by first | exact z1 | exact z2)).mono ?_; rintro e w' ⟨rfl, rfl⟩)
          | (go_at_call 39; refine (HSc.out _ hm2.out).mono ?_; rintro e w2 ⟨rfl, hb2⟩; have hW2 := hW.call hb2; have c2 := cell_of (hW2.at_ 0 rfl) (i := 2) rfl; have c3 := cell_of (hW2.at_ 0 rfl) (i := 3) rfl; have c4 := cell_of (hW2.at_ 0 rfl) (i := 4) rfl; have c5 := cell_of (hW2.at_ 0 rfl) (i := 5) rfl)
          | (go_at_call 40; refine (HI.out _).mono ?_; rintro e w' ⟨rfl, rfl⟩)
          | (go_at_call 41; refine (HSH.out _ (hW2.at_ 1 rfl : _ ∧ _).1 (hW2.at_ 1 rfl : _ ∧ _).2).mono ?_; rintro e w' ⟨rfl, rfl⟩))
        go_ret
        exact ⟨ret_bool (by rw [HF.out]; first | rfl | (simp; done)), (hW2.at_ 2 rfl : _ ∧ _).1⟩
      | true =>
        rw [e2] at HF
        cases bi with
        | false =>
          go_wp2_with (first
            | (go_at_call 38; refine (refName_any _ _ (by first | exact z1 | exact z2)).mono ?_; rintro e w' ⟨rfl, rfl⟩)
            | (go_at_call 39; refine (HSc.out _ hm2.out).mono ?_; rintro e w2 ⟨rfl, hb2⟩; have hW2 := hW.call hb2; have c2 := cell_of (hW2.at_ 0 rfl) (i := 2) rfl; have c3 := cell_of (hW2.at_ 0 rfl) (i := 3) rfl; have c4 := cell_of (hW2.at_ 0 rfl) (i := 4) rfl; have c5 := cell_of (hW2.at_ 0 rfl) (i := 5) rfl)
            | (go_at_call 40; refine (HI.out _).mono ?_; rintro e w' ⟨rfl, rfl⟩)
            | (go_at_call 41; refine (HSH.out _ (hW2.at_ 1 rfl : _ ∧ _).1 (hW2.at_ 1 rfl : _ ∧ _).2).mono ?_; rintro e w' ⟨rfl, rfl⟩))
          go_ret
          exact ⟨ret_bool (by rw [HF.out]; first | rfl | (simp; done)), (hW2.at_ 2 rfl : _ ∧ _).1⟩
        | true =>
          cases bh with
          | false =>
            go_wp2_with (first
              | (go_at_call 38; refine (refName_any _ _ (by first | exact z1 | exact z2)).mono ?_; rintro e w' ⟨rfl, rfl⟩)
              | (go_at_call 39; refine (HSc.out _ hm2.out).mono ?_; rintro e w2 ⟨rfl, hb2⟩; have hW2 := hW.call hb2; have c2 := cell_of (hW2.at_ 0 rfl) (i := 2) rfl; have c3 := cell_of (hW2.at_ 0 rfl) (i := 3) rfl; have c4 := cell_of (hW2.at_ 0 rfl) (i := 4) rfl; have c5 := cell_of (hW2.at_ 0 rfl) (i := 5) rfl)
              | (go_at_call 40; refine (HI.out _).mono ?_; rintro e w' ⟨rfl, rfl⟩)
              | (go_at_call 41; refine (HSH.out _ (hW2.at_ 1 rfl : _ ∧ _).1 (hW2.at_ 1 rfl : _ ∧ _).2).mono ?_; rintro e w' ⟨rfl, rfl⟩))
            go_ret
            exact ⟨ret_bool (by rw [HF.out]; first | rfl | (simp; done)), (hW2.at_ 2 rfl : _ ∧ _).1⟩
          | true =>
            cases d16 : decide ((16 : Int) < (en : Int)) with
            | true =>
              have hbe := HBE16.out d16
              go_wp2_with (first
                | (go_at_call 38; refine (refName_any _ _ (by first | exact z1 | exact z2)).mono ?_; rintro e w' ⟨rfl, rfl⟩)
                | (go_at_call 39; refine (HSc.out _ hm2.out).mono ?_; rintro e w2 ⟨rfl, hb2⟩; have hW2 := hW.call hb2; have c2 := cell_of (hW2.at_ 0 rfl) (i := 2) rfl; have c3 := cell_of (hW2.at_ 0 rfl) (i := 3) rfl; have c4 := cell_of (hW2.at_ 0 rfl) (i := 4) rfl; have c5 := cell_of (hW2.at_ 0 rfl) (i := 5) rfl)
                | (go_at_call 40; refine (HI.out _).mono ?_; rintro e w' ⟨rfl, rfl⟩)
                | (go_at_call 41; refine (HSH.out _ (hW2.at_ 1 rfl : _ ∧ _).1 (hW2.at_ 1 rfl : _ ∧ _).2).mono ?_; rintro e w' ⟨rfl, rfl⟩))
              go_ret
              exact ⟨ret_bool (by rw [HF.out, hbe]; first | rfl | (simp; done)), (hW2.at_ 2 rfl : _ ∧ _).1⟩
            | false =>
              have d17 := d16
              go_upto_region 3 with (first
                | (go_at_call 38; refine (refName_any _ _ (by first | exact z1 | exact z2)).mono ?_; rintro e w' ⟨rfl, rfl⟩)
                | (go_at_call 39; refine (HSc.out _ hm2.out).mono ?_; rintro e w2 ⟨rfl, hb2⟩; have hW2 := hW.call hb2; have c2 := cell_of (hW2.at_ 0 rfl) (i := 2) rfl; have c3 := cell_of (hW2.at_ 0 rfl) (i := 3) rfl; have c4 := cell_of (hW2.at_ 0 rfl) (i := 4) rfl; have c5 := cell_of (hW2.at_ 0 rfl) (i := 5) rfl)
                | (go_at_call 40; refine (HI.out _).mono ?_; rintro e w' ⟨rfl, rfl⟩)
                | (go_at_call 41; refine (HSH.out _ (hW2.at_ 1 rfl : _ ∧ _).1 (hW2.at_ 1 rfl : _ ∧ _).2).mono ?_; rintro e w' ⟨rfl, rfl⟩))
              clear hW hb2 hm2 hb0 c0 c1 c2 c3 c4 c5 d17 HSc HI HSH e1 e2 z1 z2
              go_wp2_with fail
              go_loopw [3] (fun i wr => ∃ (k : Nat), k ≤ en ∧ i = .int .i64 k ∧ (∀ i < k, vAt Var.n goodV x.env i = true) ∧ All wr [.cells w.heap.size 31 [.string x.run, .string x.scope, .string x.step, .int .i64 x.t, .slice sc.A sc.n sc.c, .slice eA en ec, .slice sm.A sm.n sm.c, .slice sp.A sp.n sp.c], .low (Go.AdR.Low.recd B x sc ⟨eA, en, ec⟩ sm sp), .kept w w.heap.size]) (fun i _ => en - (intOf i).toNat)
              case atStart => exact ⟨0, by omega, rfl, fun i hi => absurd hi (by omega), hW2⟩
              case round =>
                obtain ⟨k, hk, rfl, hA, hI⟩ := hrel
                have HA := Lib.hid hA
                clear hA hW2
                have c5 := cell_of (hI.at_ 0 rfl) (i := 5) rfl
                by_cases hlt : k < en
                · have hkl : k < x.env.length := by rw [HNE.out]; exact hlt
                  obtain ⟨ad, hA', hadB, -⟩ := Els.at_ (hI.at_ 1 rfl : RecIn wr B x sc ⟨eA, en, ec⟩ sm sp ∧ B ≤ wr.heap.size).1.env (k := k) (by rw [List.length_map]; exact hkl)
                  simp only at hA'
                  subst hA'
                  have HC : Hid (∀ W, All W [.cells w.heap.size 31 [.string x.run, .string x.scope, .string x.step, .int .i64 x.t, .slice sc.A sc.n sc.c, .slice (some ad) en ec, .slice sm.A sm.n sm.c, .slice sp.A sp.n sp.c], .low (Go.AdR.Low.recd B x sc ⟨(some ad), en, ec⟩ sm sp), .kept w w.heap.size] → W.cell? (ad.add (k * 2)) = some (.string x.env[k].n) ∧ W.cell? ((ad.add (k * 2)).add 1) = some (.string x.env[k].v)) := Lib.hid (fun W hW => by
                    obtain ⟨ad', e, _, hc⟩ := Els.at_ (hW.at_ 1 rfl : RecIn W B x sc ⟨some ad, en, ec⟩ sm sp ∧ B ≤ W.heap.size).1.env (k := k) (by rw [List.length_map]; exact hkl)
                    obtain rfl := Option.some.inj e
                    rw [List.getElem_map] at hc
                    have h0 := hc 0 (.string x.env[k].n) rfl
                    have h1 := hc 1 (.string x.env[k].v) rfl
                    rw [add_zero] at h0
                    exact ⟨h0, h1⟩)
                  have hx := Lib.hid (HO.out.env _ (List.getElem_mem hkl))
                  have HOO : Hid (∀ v, vAt1 Var.n goodV x.env k x.env[k] = v → vAt Var.n goodV x.env k = v) := Lib.hid (fun v hv => by rw [vAt_at _ _ _ _ hkl]; exact hv)
                  have HNO : Hid (vAt Var.n goodV x.env k = false → recB x = false) := Lib.hid (fun h => by rw [HF.out, show varsB x.env = false from vAll_no _ _ _ x.env k hkl h]; rfl)
                  obtain ⟨l, hl⟩ : ∃ l, l = x.env := ⟨_, rfl⟩
                  generalize hxk : x.env[k] = x' at *
                  have hsz : w.heap.size ≤ wr.heap.size := hI.size_kept 2 rfl
                  have d1 : decide ((k : Int) < (en : Int)) = true := by simp; omega
                  have wk1 : (0 : Int) ≤ (k : Int) := by omega
                  have wk2 : (k : Int) < (en : Int) := by omega
                  have wk3 : ((k : Int)).toNat = k := by omega
                  go_upto_region 6 with (fail)
                  clear d1 c5 hl hxk
                  cases hp : nameB x'.n with
                  | false =>
                    have HP := Lib.hid hp
                    have HF : Hid (recB x = false) := Lib.hid (HNO.out (HOO.out _ (vAt1_bad _ _ _ _ _ (by rw [goodV, hp]; rfl))))
                    clear hp
                    refine wp_region_hopsH 37 (45 :: 46 :: 47 :: 48 :: 49 :: 50 :: 51 :: 52 :: 53 :: 54 :: 55 :: 56 :: 57 :: 58 :: 59 :: 60 :: 61 :: 62 :: 63 :: 64 :: 65 :: 66 :: 67 :: 68 :: 69 :: 70 :: 71 :: 72 :: 73 :: 74 :: 75 :: 76 :: 77 :: 78 :: 79 :: 80 :: 81 :: []) [.cells w.heap.size 31 [.string x.run, .string x.scope, .string x.step, .int .i64 x.t, .slice sc.A sc.n sc.c, .slice (some ad) en ec, .slice sm.A sm.n sm.c, .slice sp.A sp.n sp.c], .low (Go.AdR.Low.recd B x sc ⟨(some ad), en, ec⟩ sm sp), .kept w w.heap.size]
                      (.eq (.pointer (some ⟨w.heap.size, 5, none⟩)) :: .eq (.slice (some ad) en ec) :: .eq (.int .i64 k) :: .eq (.pointer (some (ad.add (k * 2)))) :: .eq (.pointer (some (ad.add (k * 2)))) :: .eq (.string x'.n) :: .eq (.bool false) :: .eq (.bool true) :: .eq (.bool true) :: .eq undef :: .eq undef :: .eq undef :: .eq undef :: .eq undef :: .eq undef :: .eq undef :: .eq undef :: .eq (.bool true) :: .eq (.bool true) :: .eq undef :: .eq undef :: .eq undef :: .eq undef :: .eq undef :: .eq undef :: .eq undef :: .eq undef :: .eq undef :: .eq undef :: .eq undef :: .eq undef :: .eq undef :: .eq undef :: .eq undef :: .eq undef :: .eq undef :: .eq undef :: [])
                      (by kernel_rfl) (by kernel_rfl) hI rfl ?hops ?fin
                    case hops =>
                      refine ⟨?_, ?_, ?_, ?_, ?_, ?_, ?_, ?_, ?_, ?_, ?_, ?_, ?_, ?_, ?_, ?_, ?_, ?_, ?_, ?_, ?_, ?_, ?_, ?_, ?_, ?_, ?_, ?_, ?_, ?_, ?_, ?_, ?_, ?_, ?_, ?_, ?_, trivial⟩
                      · intro a W hW hb hd K hK
                        have b1 := hb 1 rfl
                        go_simp
                        exact hK _ _ (World.grownBy.refl _ _) rfl
                      · intro a W hW hb hd K hK
                        have b45 : a.tmps[45]?.getD undef = _ := hd ⟨0, .data⟩ (by simp) rfl
                        have q1 : W.cell? ⟨w.heap.size, 5, none⟩ = some (.slice (some ad) en ec) := cell_of (hW.at_ 0 rfl) (i := 5) rfl
                        go_simp
                        exact hK _ _ (World.grownBy.refl _ _) rfl
                      · intro a W hW hb hd K hK
                        have b3 := hb 3 rfl
                        go_simp
                        exact hK _ _ (World.grownBy.refl _ _) rfl
                      · intro a W hW hb hd K hK
                        have b46 : a.tmps[46]?.getD undef = _ := hd ⟨1, .data⟩ (by simp) rfl
                        have b47 : a.tmps[47]?.getD undef = _ := hd ⟨2, .data⟩ (by simp) rfl
                        go_simp
                        exact hK _ _ (World.grownBy.refl _ _) rfl
                      · intro a W hW hb hd K hK
                        have b48 : a.tmps[48]?.getD undef = _ := hd ⟨3, .data⟩ (by simp) rfl
                        go_simp
                        exact hK _ _ (World.grownBy.refl _ _) (by first | rfl | (rw [add_zero]; rfl) | (simp [add_zero]; rfl))
                      · intro a W hW hb hd K hK
                        have b49 : a.tmps[49]?.getD undef = _ := hd ⟨4, .data⟩ (by simp) rfl
                        have q1 : W.cell? (ad.add (k * 2)) = some (.string x'.n) := (HC.out W hW).1
                        go_simp
                        exact hK _ _ (World.grownBy.refl _ _) rfl
                      · intro a W hW hb hd K hK
                        have b50 : a.tmps[50]?.getD undef = _ := hd ⟨5, .data⟩ (by simp) rfl
                        go_simp
                        refine (refName_any x'.n W hx.out.1).mono ?_
                        rintro e w' ⟨rfl, rfl⟩
                        exact hK _ _ (World.grownBy.refl _ _) (congrArg Value.bool HP.out)
                      · intro a W hW hb hd K hK
                        have b51 : a.tmps[51]?.getD undef = _ := hd ⟨6, .data⟩ (by simp) rfl
                        go_simp
                        exact hK _ _ (World.grownBy.refl _ _) rfl
                      · intro a W hW hb hd K hK
                        have b52 : a.tmps[52]?.getD undef = _ := hd ⟨7, .data⟩ (by simp) rfl
                        go_simp
                        exact hK _ _ (World.grownBy.refl _ _) rfl
                      · exact Or.inr ⟨fun v w h => by rw [show v = _ from h]; first | (intro h2; cases h2) | (simp [undef]), fun w => rfl⟩
                      · exact Or.inr ⟨fun v w h => by rw [show v = _ from h]; first | (intro h2; cases h2) | (simp [undef]), fun w => rfl⟩
                      · exact Or.inr ⟨fun v w h => by rw [show v = _ from h]; first | (intro h2; cases h2) | (simp [undef]), fun w => rfl⟩
                      · exact Or.inr ⟨fun v w h => by rw [show v = _ from h]; first | (intro h2; cases h2) | (simp [undef]), fun w => rfl⟩
                      · exact Or.inr ⟨fun v w h => by rw [show v = _ from h]; first | (intro h2; cases h2) | (simp [undef]), fun w => rfl⟩
                      · exact Or.inr ⟨fun v w h => by rw [show v = _ from h]; first | (intro h2; cases h2) | (simp [undef]), fun w => rfl⟩
                      · exact Or.inr ⟨fun v w h => by rw [show v = _ from h]; first | (intro h2; cases h2) | (simp [undef]), fun w => rfl⟩
                      · exact Or.inr ⟨fun v w h => by rw [show v = _ from h]; first | (intro h2; cases h2) | (simp [undef]), fun w => rfl⟩
                      · intro a W hW hb hd K hK
                        have b53 : a.tmps[53]?.getD undef = _ := hd ⟨8, .data⟩ (by simp) rfl
                        have b61 : a.tmps[61]?.getD undef = _ := hd ⟨16, .data⟩ (by simp) rfl
                        go_simp
                        exact hK _ _ (World.grownBy.refl _ _) rfl
                      · intro a W hW hb hd K hK
                        have b62 : a.tmps[62]?.getD undef = _ := hd ⟨17, .data⟩ (by simp) rfl
                        go_simp
                        exact hK _ _ (World.grownBy.refl _ _) rfl
                      · exact Or.inr ⟨fun v w h => by rw [show v = _ from h]; first | (intro h2; cases h2) | (simp [undef]), fun w => rfl⟩
                      · exact Or.inr ⟨fun v w h => by rw [show v = _ from h]; first | (intro h2; cases h2) | (simp [undef]), fun w => rfl⟩
                      · exact Or.inr ⟨fun v w h => by rw [show v = _ from h]; first | (intro h2; cases h2) | (simp [undef]), fun w => rfl⟩
                      · exact Or.inr ⟨fun v w h => by rw [show v = _ from h]; first | (intro h2; cases h2) | (simp [undef]), fun w => rfl⟩
                      · exact Or.inr ⟨fun v w h => by rw [show v = _ from h]; first | (intro h2; cases h2) | (simp [undef]), fun w => rfl⟩
                      · exact Or.inr ⟨fun v w h => by rw [show v = _ from h]; first | (intro h2; cases h2) | (simp [undef]), fun w => rfl⟩
                      · exact Or.inr ⟨fun v w h => by rw [show v = _ from h]; first | (intro h2; cases h2) | (simp [undef]), fun w => rfl⟩
                      · exact Or.inr ⟨fun v w h => by rw [show v = _ from h]; first | (intro h2; cases h2) | (simp [undef]), fun w => rfl⟩
                      · exact Or.inr ⟨fun v w h => by rw [show v = _ from h]; first | (intro h2; cases h2) | (simp [undef]), fun w => rfl⟩
                      · exact Or.inr ⟨fun v w h => by rw [show v = _ from h]; first | (intro h2; cases h2) | (simp [undef]), fun w => rfl⟩
                      · exact Or.inr ⟨fun v w h => by rw [show v = _ from h]; first | (intro h2; cases h2) | (simp [undef]), fun w => rfl⟩
                      · exact Or.inr ⟨fun v w h => by rw [show v = _ from h]; first | (intro h2; cases h2) | (simp [undef]), fun w => rfl⟩
                      · exact Or.inr ⟨fun v w h => by rw [show v = _ from h]; first | (intro h2; cases h2) | (simp [undef]), fun w => rfl⟩
                      · exact Or.inr ⟨fun v w h => by rw [show v = _ from h]; first | (intro h2; cases h2) | (simp [undef]), fun w => rfl⟩
                      · exact Or.inr ⟨fun v w h => by rw [show v = _ from h]; first | (intro h2; cases h2) | (simp [undef]), fun w => rfl⟩
                      · exact Or.inr ⟨fun v w h => by rw [show v = _ from h]; first | (intro h2; cases h2) | (simp [undef]), fun w => rfl⟩
                      · exact Or.inr ⟨fun v w h => by rw [show v = _ from h]; first | (intro h2; cases h2) | (simp [undef]), fun w => rfl⟩
                      · exact Or.inr ⟨fun v w h => by rw [show v = _ from h]; first | (intro h2; cases h2) | (simp [undef]), fun w => rfl⟩
                    case fin =>
                      intro vs W hW hv
                      have e18 : vs 18 = _ := hv 18 (by decide)
                      have e36 : vs 36 = _ := hv 36 (by decide)
                      clear hv
                      simp only [putAll, List.drop_succ_cons, List.drop_zero, e18, e36, Act.put, List.setIfInBounds_toArray, List.set_cons_succ, List.set_cons_zero]
                      clear e18 e36 hI
                      go_wp2_with fail
                      go_ret
                      exact ⟨ret_bool (by rw [HF.out]), (hW.at_ 2 rfl : _ ∧ _).1⟩
                  | true =>
                    have HP := Lib.hid hp
                    cases hz : decide ((200 : Int) < (x'.v.size : Int)) with
                    | true =>
                      have HZ := Lib.hid hz
                      have HF : Hid (recB x = false) := Lib.hid (HNO.out (HOO.out _ (vAt1_bad _ _ _ _ _ (by rw [goodV, hz]; simp))))
                      clear hp hz
                      refine wp_region_hopsH 37 (45 :: 46 :: 47 :: 48 :: 49 :: 50 :: 51 :: 52 :: 53 :: 54 :: 55 :: 56 :: 57 :: 58 :: 59 :: 60 :: 61 :: 62 :: 63 :: 64 :: 65 :: 66 :: 67 :: 68 :: 69 :: 70 :: 71 :: 72 :: 73 :: 74 :: 75 :: 76 :: 77 :: 78 :: 79 :: 80 :: 81 :: []) [.cells w.heap.size 31 [.string x.run, .string x.scope, .string x.step, .int .i64 x.t, .slice sc.A sc.n sc.c, .slice (some ad) en ec, .slice sm.A sm.n sm.c, .slice sp.A sp.n sp.c], .low (Go.AdR.Low.recd B x sc ⟨(some ad), en, ec⟩ sm sp), .kept w w.heap.size]
                        (.eq (.pointer (some ⟨w.heap.size, 5, none⟩)) :: .eq (.slice (some ad) en ec) :: .eq (.int .i64 k) :: .eq (.pointer (some (ad.add (k * 2)))) :: .eq (.pointer (some (ad.add (k * 2)))) :: .eq (.string x'.n) :: .eq (.bool true) :: .eq (.bool false) :: .eq (.bool false) :: .eq (.pointer (some ⟨w.heap.size, 5, none⟩)) :: .eq (.slice (some ad) en ec) :: .eq (.int .i64 k) :: .eq (.pointer (some (ad.add (k * 2)))) :: .eq (.pointer (some ((ad.add (k * 2)).add 1))) :: .eq (.string x'.v) :: .eq (.int .i64 (x'.v.size : Int)) :: .eq (.bool true) :: .eq (.bool true) :: .eq (.bool true) :: .eq undef :: .eq undef :: .eq undef :: .eq undef :: .eq undef :: .eq undef :: .eq undef :: .eq undef :: .eq undef :: .eq undef :: .eq undef :: .eq undef :: .eq undef :: .eq undef :: .eq undef :: .eq undef :: .eq undef :: .eq undef :: [])
                        (by kernel_rfl) (by kernel_rfl) hI rfl ?hops ?fin
                      case hops =>
                        refine ⟨?_, ?_, ?_, ?_, ?_, ?_, ?_, ?_, ?_, ?_, ?_, ?_, ?_, ?_, ?_, ?_, ?_, ?_, ?_, ?_, ?_, ?_, ?_, ?_, ?_, ?_, ?_, ?_, ?_, ?_, ?_, ?_, ?_, ?_, ?_, ?_, ?_, trivial⟩
                        · intro a W hW hb hd K hK
                          have b1 := hb 1 rfl
                          go_simp
                          exact hK _ _ (World.grownBy.refl _ _) rfl
                        · intro a W hW hb hd K hK
                          have b45 : a.tmps[45]?.getD undef = _ := hd ⟨0, .data⟩ (by simp) rfl
                          have q1 : W.cell? ⟨w.heap.size, 5, none⟩ = some (.slice (some ad) en ec) := cell_of (hW.at_ 0 rfl) (i := 5) rfl
                          go_simp
                          exact hK _ _ (World.grownBy.refl _ _) rfl
                        · intro a W hW hb hd K hK
                          have b3 := hb 3 rfl
                          go_simp
                          exact hK _ _ (World.grownBy.refl _ _) rfl
                        · intro a W hW hb hd K hK
                          have b46 : a.tmps[46]?.getD undef = _ := hd ⟨1, .data⟩ (by simp) rfl
                          have b47 : a.tmps[47]?.getD undef = _ := hd ⟨2, .data⟩ (by simp) rfl
                          go_simp
                          exact hK _ _ (World.grownBy.refl _ _) rfl
                        · intro a W hW hb hd K hK
                          have b48 : a.tmps[48]?.getD undef = _ := hd ⟨3, .data⟩ (by simp) rfl
                          go_simp
                          exact hK _ _ (World.grownBy.refl _ _) (by first | rfl | (rw [add_zero]; rfl) | (simp [add_zero]; rfl))
                        · intro a W hW hb hd K hK
                          have b49 : a.tmps[49]?.getD undef = _ := hd ⟨4, .data⟩ (by simp) rfl
                          have q1 : W.cell? (ad.add (k * 2)) = some (.string x'.n) := (HC.out W hW).1
                          go_simp
                          exact hK _ _ (World.grownBy.refl _ _) rfl
                        · intro a W hW hb hd K hK
                          have b50 : a.tmps[50]?.getD undef = _ := hd ⟨5, .data⟩ (by simp) rfl
                          go_simp
                          refine (refName_any x'.n W hx.out.1).mono ?_
                          rintro e w' ⟨rfl, rfl⟩
                          exact hK _ _ (World.grownBy.refl _ _) (congrArg Value.bool HP.out)
                        · intro a W hW hb hd K hK
                          have b51 : a.tmps[51]?.getD undef = _ := hd ⟨6, .data⟩ (by simp) rfl
                          go_simp
                          exact hK _ _ (World.grownBy.refl _ _) rfl
                        · intro a W hW hb hd K hK
                          have b52 : a.tmps[52]?.getD undef = _ := hd ⟨7, .data⟩ (by simp) rfl
                          go_simp
                          exact hK _ _ (World.grownBy.refl _ _) rfl
                        · refine Or.inl ⟨fun v w h => h, ?_⟩
                          intro a W hW hb hd K hK
                          have b1 := hb 1 rfl
                          go_simp
                          exact hK _ _ (World.grownBy.refl _ _) rfl
                        · refine Or.inl ⟨fun v w h => h, ?_⟩
                          intro a W hW hb hd K hK
                          have b54 : a.tmps[54]?.getD undef = _ := hd ⟨9, .data⟩ (by simp) rfl
                          have q1 : W.cell? ⟨w.heap.size, 5, none⟩ = some (.slice (some ad) en ec) := cell_of (hW.at_ 0 rfl) (i := 5) rfl
                          go_simp
                          exact hK _ _ (World.grownBy.refl _ _) rfl
                        · refine Or.inl ⟨fun v w h => h, ?_⟩
                          intro a W hW hb hd K hK
                          have b3 := hb 3 rfl
                          go_simp
                          exact hK _ _ (World.grownBy.refl _ _) rfl
                        · refine Or.inl ⟨fun v w h => h, ?_⟩
                          intro a W hW hb hd K hK
                          have b55 : a.tmps[55]?.getD undef = _ := hd ⟨10, .data⟩ (by simp) rfl
                          have b56 : a.tmps[56]?.getD undef = _ := hd ⟨11, .data⟩ (by simp) rfl
                          go_simp
                          exact hK _ _ (World.grownBy.refl _ _) rfl
                        · refine Or.inl ⟨fun v w h => h, ?_⟩
                          intro a W hW hb hd K hK
                          have b57 : a.tmps[57]?.getD undef = _ := hd ⟨12, .data⟩ (by simp) rfl
                          go_simp
                          exact hK _ _ (World.grownBy.refl _ _) rfl
                        · refine Or.inl ⟨fun v w h => h, ?_⟩
                          intro a W hW hb hd K hK
                          have b58 : a.tmps[58]?.getD undef = _ := hd ⟨13, .data⟩ (by simp) rfl
                          have q1 : W.cell? ⟨(ad.add (k * 2)).block, (ad.add (k * 2)).off + 1, none⟩ = some (.string x'.v) := (HC.out W hW).2
                          go_simp
                          exact hK _ _ (World.grownBy.refl _ _) rfl
                        · refine Or.inl ⟨fun v w h => h, ?_⟩
                          intro a W hW hb hd K hK
                          have b59 : a.tmps[59]?.getD undef = _ := hd ⟨14, .data⟩ (by simp) rfl
                          go_simp
                          exact hK _ _ (World.grownBy.refl _ _) rfl
                        · refine Or.inl ⟨fun v w h => h, ?_⟩
                          intro a W hW hb hd K hK
                          have b60 : a.tmps[60]?.getD undef = _ := hd ⟨15, .data⟩ (by simp) rfl
                          have q1 := HZ.out
                          go_simp
                          exact hK _ _ (World.grownBy.refl _ _) rfl
                        · intro a W hW hb hd K hK
                          have b53 : a.tmps[53]?.getD undef = _ := hd ⟨8, .data⟩ (by simp) rfl
                          have b61 : a.tmps[61]?.getD undef = _ := hd ⟨16, .data⟩ (by simp) rfl
                          go_simp
                          exact hK _ _ (World.grownBy.refl _ _) rfl
                        · intro a W hW hb hd K hK
                          have b62 : a.tmps[62]?.getD undef = _ := hd ⟨17, .data⟩ (by simp) rfl
                          go_simp
                          exact hK _ _ (World.grownBy.refl _ _) rfl
                        · exact Or.inr ⟨fun v w h => by rw [show v = _ from h]; first | (intro h2; cases h2) | (simp [undef]), fun w => rfl⟩
                        · exact Or.inr ⟨fun v w h => by rw [show v = _ from h]; first | (intro h2; cases h2) | (simp [undef]), fun w => rfl⟩
                        · exact Or.inr ⟨fun v w h => by rw [show v = _ from h]; first | (intro h2; cases h2) | (simp [undef]), fun w => rfl⟩
                        · exact Or.inr ⟨fun v w h => by rw [show v = _ from h]; first | (intro h2; cases h2) | (simp [undef]), fun w => rfl⟩
                        · exact Or.inr ⟨fun v w h => by rw [show v = _ from h]; first | (intro h2; cases h2) | (simp [undef]), fun w => rfl⟩
                        · exact Or.inr ⟨fun v w h => by rw [show v = _ from h]; first | (intro h2; cases h2) | (simp [undef]), fun w => rfl⟩
                        · exact Or.inr ⟨fun v w h => by rw [show v = _ from h]; first | (intro h2; cases h2) | (simp [undef]), fun w => rfl⟩
                        · exact Or.inr ⟨fun v w h => by rw [show v = _ from h]; first | (intro h2; cases h2) | (simp [undef]), fun w => rfl⟩
                        · exact Or.inr ⟨fun v w h => by rw [show v = _ from h]; first | (intro h2; cases h2) | (simp [undef]), fun w => rfl⟩
                        · exact Or.inr ⟨fun v w h => by rw [show v = _ from h]; first | (intro h2; cases h2) | (simp [undef]), fun w => rfl⟩
                        · exact Or.inr ⟨fun v w h => by rw [show v = _ from h]; first | (intro h2; cases h2) | (simp [undef]), fun w => rfl⟩
                        · exact Or.inr ⟨fun v w h => by rw [show v = _ from h]; first | (intro h2; cases h2) | (simp [undef]), fun w => rfl⟩
                        · exact Or.inr ⟨fun v w h => by rw [show v = _ from h]; first | (intro h2; cases h2) | (simp [undef]), fun w => rfl⟩
                        · exact Or.inr ⟨fun v w h => by rw [show v = _ from h]; first | (intro h2; cases h2) | (simp [undef]), fun w => rfl⟩
                        · exact Or.inr ⟨fun v w h => by rw [show v = _ from h]; first | (intro h2; cases h2) | (simp [undef]), fun w => rfl⟩
                        · exact Or.inr ⟨fun v w h => by rw [show v = _ from h]; first | (intro h2; cases h2) | (simp [undef]), fun w => rfl⟩
                        · exact Or.inr ⟨fun v w h => by rw [show v = _ from h]; first | (intro h2; cases h2) | (simp [undef]), fun w => rfl⟩
                        · exact Or.inr ⟨fun v w h => by rw [show v = _ from h]; first | (intro h2; cases h2) | (simp [undef]), fun w => rfl⟩
                      case fin =>
                        intro vs W hW hv
                        have e18 : vs 18 = _ := hv 18 (by decide)
                        have e36 : vs 36 = _ := hv 36 (by decide)
                        clear hv
                        simp only [putAll, List.drop_succ_cons, List.drop_zero, e18, e36, Act.put, List.setIfInBounds_toArray, List.set_cons_succ, List.set_cons_zero]
                        clear e18 e36 hI
                        go_wp2_with fail
                        go_ret
                        exact ⟨ret_bool (by rw [HF.out]), (hW.at_ 2 rfl : _ ∧ _).1⟩
                    | false =>
                      have HZ := Lib.hid hz
                      have HG : Hid (goodV x' = true) := Lib.hid (by rw [goodV, hp, hz]; rfl)
                      clear hp hz
                      by_cases hk0 : k = 0
                      · have HF : Hid (vAt Var.n goodV x.env k = true) := Lib.hid (HOO.out _ (vAt1_zero _ _ _ _ _ HG.out hk0))
                        have d2 : decide (0 < (k : Int)) = false := by simp; omega
                        have d3 : decide (0 < k) = false := by simp; omega
                        clear hk0
                        refine wp_region_hopsH 37 (45 :: 46 :: 47 :: 48 :: 49 :: 50 :: 51 :: 52 :: 53 :: 54 :: 55 :: 56 :: 57 :: 58 :: 59 :: 60 :: 61 :: 62 :: 63 :: 64 :: 65 :: 66 :: 67 :: 68 :: 69 :: 70 :: 71 :: 72 :: 73 :: 74 :: 75 :: 76 :: 77 :: 78 :: 79 :: 80 :: 81 :: []) [.cells w.heap.size 31 [.string x.run, .string x.scope, .string x.step, .int .i64 x.t, .slice sc.A sc.n sc.c, .slice (some ad) en ec, .slice sm.A sm.n sm.c, .slice sp.A sp.n sp.c], .low (Go.AdR.Low.recd B x sc ⟨(some ad), en, ec⟩ sm sp), .kept w w.heap.size]
                          (.eq (.pointer (some ⟨w.heap.size, 5, none⟩)) :: .eq (.slice (some ad) en ec) :: .eq (.int .i64 k) :: .eq (.pointer (some (ad.add (k * 2)))) :: .eq (.pointer (some (ad.add (k * 2)))) :: .eq (.string x'.n) :: .eq (.bool true) :: .eq (.bool false) :: .eq (.bool false) :: .eq (.pointer (some ⟨w.heap.size, 5, none⟩)) :: .eq (.slice (some ad) en ec) :: .eq (.int .i64 k) :: .eq (.pointer (some (ad.add (k * 2)))) :: .eq (.pointer (some ((ad.add (k * 2)).add 1))) :: .eq (.string x'.v) :: .eq (.int .i64 (x'.v.size : Int)) :: .eq (.bool false) :: .eq (.bool false) :: .eq (.bool false) :: .eq (.int .i64 k) :: .eq (.bool false) :: .eq (.bool false) :: .eq undef :: .eq undef :: .eq undef :: .eq undef :: .eq undef :: .eq undef :: .eq undef :: .eq undef :: .eq undef :: .eq undef :: .eq undef :: .eq undef :: .eq undef :: .eq undef :: .eq (.bool false) :: [])
                          (by kernel_rfl) (by kernel_rfl) hI rfl ?hops ?fin
                        case hops =>
                          refine ⟨?_, ?_, ?_, ?_, ?_, ?_, ?_, ?_, ?_, ?_, ?_, ?_, ?_, ?_, ?_, ?_, ?_, ?_, ?_, ?_, ?_, ?_, ?_, ?_, ?_, ?_, ?_, ?_, ?_, ?_, ?_, ?_, ?_, ?_, ?_, ?_, ?_, trivial⟩
                          · intro a W hW hb hd K hK
                            have b1 := hb 1 rfl
                            go_simp
                            exact hK _ _ (World.grownBy.refl _ _) rfl
                          · intro a W hW hb hd K hK
                            have b45 : a.tmps[45]?.getD undef = _ := hd ⟨0, .data⟩ (by simp) rfl
                            have q1 : W.cell? ⟨w.heap.size, 5, none⟩ = some (.slice (some ad) en ec) := cell_of (hW.at_ 0 rfl) (i := 5) rfl
                            go_simp
                            exact hK _ _ (World.grownBy.refl _ _) rfl
                          · intro a W hW hb hd K hK
                            have b3 := hb 3 rfl
                            go_simp
                            exact hK _ _ (World.grownBy.refl _ _) rfl
                          · intro a W hW hb hd K hK
                            have b46 : a.tmps[46]?.getD undef = _ := hd ⟨1, .data⟩ (by simp) rfl
                            have b47 : a.tmps[47]?.getD undef = _ := hd ⟨2, .data⟩ (by simp) rfl
                            go_simp
                            exact hK _ _ (World.grownBy.refl _ _) rfl
                          · intro a W hW hb hd K hK
                            have b48 : a.tmps[48]?.getD undef = _ := hd ⟨3, .data⟩ (by simp) rfl
                            go_simp
                            exact hK _ _ (World.grownBy.refl _ _) (by first | rfl | (rw [add_zero]; rfl) | (simp [add_zero]; rfl))
                          · intro a W hW hb hd K hK
                            have b49 : a.tmps[49]?.getD undef = _ := hd ⟨4, .data⟩ (by simp) rfl
                            have q1 : W.cell? (ad.add (k * 2)) = some (.string x'.n) := (HC.out W hW).1
                            go_simp
                            exact hK _ _ (World.grownBy.refl _ _) rfl
                          · intro a W hW hb hd K hK
                            have b50 : a.tmps[50]?.getD undef = _ := hd ⟨5, .data⟩ (by simp) rfl
                            go_simp
                            refine (refName_any x'.n W hx.out.1).mono ?_
                            rintro e w' ⟨rfl, rfl⟩
                            exact hK _ _ (World.grownBy.refl _ _) (congrArg Value.bool HP.out)
                          · intro a W hW hb hd K hK
                            have b51 : a.tmps[51]?.getD undef = _ := hd ⟨6, .data⟩ (by simp) rfl
                            go_simp
                            exact hK _ _ (World.grownBy.refl _ _) rfl
                          · intro a W hW hb hd K hK
                            have b52 : a.tmps[52]?.getD undef = _ := hd ⟨7, .data⟩ (by simp) rfl
                            go_simp
                            exact hK _ _ (World.grownBy.refl _ _) rfl
                          · refine Or.inl ⟨fun v w h => h, ?_⟩
                            intro a W hW hb hd K hK
                            have b1 := hb 1 rfl
                            go_simp
                            exact hK _ _ (World.grownBy.refl _ _) rfl
                          · refine Or.inl ⟨fun v w h => h, ?_⟩
                            intro a W hW hb hd K hK
                            have b54 : a.tmps[54]?.getD undef = _ := hd ⟨9, .data⟩ (by simp) rfl
                            have q1 : W.cell? ⟨w.heap.size, 5, none⟩ = some (.slice (some ad) en ec) := cell_of (hW.at_ 0 rfl) (i := 5) rfl
                            go_simp
                            exact hK _ _ (World.grownBy.refl _ _) rfl
                          · refine Or.inl ⟨fun v w h => h, ?_⟩
                            intro a W hW hb hd K hK
                            have b3 := hb 3 rfl
                            go_simp
                            exact hK _ _ (World.grownBy.refl _ _) rfl
                          · refine Or.inl ⟨fun v w h => h, ?_⟩
                            intro a W hW hb hd K hK
                            have b55 : a.tmps[55]?.getD undef = _ := hd ⟨10, .data⟩ (by simp) rfl
                            have b56 : a.tmps[56]?.getD undef = _ := hd ⟨11, .data⟩ (by simp) rfl
                            go_simp
                            exact hK _ _ (World.grownBy.refl _ _) rfl
                          · refine Or.inl ⟨fun v w h => h, ?_⟩
                            intro a W hW hb hd K hK
                            have b57 : a.tmps[57]?.getD undef = _ := hd ⟨12, .data⟩ (by simp) rfl
                            go_simp
                            exact hK _ _ (World.grownBy.refl _ _) rfl
                          · refine Or.inl ⟨fun v w h => h, ?_⟩
                            intro a W hW hb hd K hK
                            have b58 : a.tmps[58]?.getD undef = _ := hd ⟨13, .data⟩ (by simp) rfl
                            have q1 : W.cell? ⟨(ad.add (k * 2)).block, (ad.add (k * 2)).off + 1, none⟩ = some (.string x'.v) := (HC.out W hW).2
                            go_simp
                            exact hK _ _ (World.grownBy.refl _ _) rfl
                          · refine Or.inl ⟨fun v w h => h, ?_⟩
                            intro a W hW hb hd K hK
                            have b59 : a.tmps[59]?.getD undef = _ := hd ⟨14, .data⟩ (by simp) rfl
                            go_simp
                            exact hK _ _ (World.grownBy.refl _ _) rfl
                          · refine Or.inl ⟨fun v w h => h, ?_⟩
                            intro a W hW hb hd K hK
                            have b60 : a.tmps[60]?.getD undef = _ := hd ⟨15, .data⟩ (by simp) rfl
                            have q1 := HZ.out
                            go_simp
                            exact hK _ _ (World.grownBy.refl _ _) rfl
                          · intro a W hW hb hd K hK
                            have b53 : a.tmps[53]?.getD undef = _ := hd ⟨8, .data⟩ (by simp) rfl
                            have b61 : a.tmps[61]?.getD undef = _ := hd ⟨16, .data⟩ (by simp) rfl
                            go_simp
                            exact hK _ _ (World.grownBy.refl _ _) rfl
                          · intro a W hW hb hd K hK
                            have b62 : a.tmps[62]?.getD undef = _ := hd ⟨17, .data⟩ (by simp) rfl
                            go_simp
                            exact hK _ _ (World.grownBy.refl _ _) rfl
                          · refine Or.inl ⟨fun v w h => h, ?_⟩
                            intro a W hW hb hd K hK
                            have b3 := hb 3 rfl
                            go_simp
                            exact hK _ _ (World.grownBy.refl _ _) rfl
                          · refine Or.inl ⟨fun v w h => h, ?_⟩
                            intro a W hW hb hd K hK
                            have b64 : a.tmps[64]?.getD undef = _ := hd ⟨19, .data⟩ (by simp) rfl
                            go_simp
                            exact hK _ _ (World.grownBy.refl _ _) rfl
                          · refine Or.inl ⟨fun v w h => h, ?_⟩
                            intro a W hW hb hd K hK
                            have b65 : a.tmps[65]?.getD undef = _ := hd ⟨20, .data⟩ (by simp) rfl
                            go_simp
                            exact hK _ _ (World.grownBy.refl _ _) rfl
                          · exact Or.inr ⟨fun v w h => by rw [show v = _ from h]; first | (intro h2; cases h2) | (simp [undef]), fun w => rfl⟩
                          · exact Or.inr ⟨fun v w h => by rw [show v = _ from h]; first | (intro h2; cases h2) | (simp [undef]), fun w => rfl⟩
                          · exact Or.inr ⟨fun v w h => by rw [show v = _ from h]; first | (intro h2; cases h2) | (simp [undef]), fun w => rfl⟩
                          · exact Or.inr ⟨fun v w h => by rw [show v = _ from h]; first | (intro h2; cases h2) | (simp [undef]), fun w => rfl⟩
                          · exact Or.inr ⟨fun v w h => by rw [show v = _ from h]; first | (intro h2; cases h2) | (simp [undef]), fun w => rfl⟩
                          · exact Or.inr ⟨fun v w h => by rw [show v = _ from h]; first | (intro h2; cases h2) | (simp [undef]), fun w => rfl⟩
                          · exact Or.inr ⟨fun v w h => by rw [show v = _ from h]; first | (intro h2; cases h2) | (simp [undef]), fun w => rfl⟩
                          · exact Or.inr ⟨fun v w h => by rw [show v = _ from h]; first | (intro h2; cases h2) | (simp [undef]), fun w => rfl⟩
                          · exact Or.inr ⟨fun v w h => by rw [show v = _ from h]; first | (intro h2; cases h2) | (simp [undef]), fun w => rfl⟩
                          · exact Or.inr ⟨fun v w h => by rw [show v = _ from h]; first | (intro h2; cases h2) | (simp [undef]), fun w => rfl⟩
                          · exact Or.inr ⟨fun v w h => by rw [show v = _ from h]; first | (intro h2; cases h2) | (simp [undef]), fun w => rfl⟩
                          · exact Or.inr ⟨fun v w h => by rw [show v = _ from h]; first | (intro h2; cases h2) | (simp [undef]), fun w => rfl⟩
                          · exact Or.inr ⟨fun v w h => by rw [show v = _ from h]; first | (intro h2; cases h2) | (simp [undef]), fun w => rfl⟩
                          · exact Or.inr ⟨fun v w h => by rw [show v = _ from h]; first | (intro h2; cases h2) | (simp [undef]), fun w => rfl⟩
                          · refine Or.inl ⟨fun v w h => h, ?_⟩
                            intro a W hW hb hd K hK
                            have b66 : a.tmps[66]?.getD undef = _ := hd ⟨21, .data⟩ (by simp) rfl
                            have b80 : a.tmps[80]?.getD undef = _ := hd ⟨35, .data⟩ (by simp) rfl
                            go_simp
                            exact hK _ _ (World.grownBy.refl _ _) rfl
                        case fin =>
                          intro vs W hW hv
                          have e18 : vs 18 = _ := hv 18 (by decide)
                          have e36 : vs 36 = _ := hv 36 (by decide)
                          clear hv
                          simp only [putAll, List.drop_succ_cons, List.drop_zero, e18, e36, Act.put, List.setIfInBounds_toArray, List.set_cons_succ, List.set_cons_zero]
                          clear e18 e36 hI
                          go_wp2_with fail
                          refine ⟨⟨k + 1, by omega, by go_num, fun i hi => ?_, hW⟩, by simp [intOf]; omega⟩
                          by_cases hik : i = k
                          · rw [hik]; exact HF.out
                          · exact HA.out i (by omega)
                      · obtain ⟨j, hj⟩ : ∃ j, k = j + 1 := ⟨k - 1, by omega⟩
                        have hjl : j < x.env.length := by omega
                        have HJ : Hid (∀ W, All W [.cells w.heap.size 31 [.string x.run, .string x.scope, .string x.step, .int .i64 x.t, .slice sc.A sc.n sc.c, .slice (some ad) en ec, .slice sm.A sm.n sm.c, .slice sp.A sp.n sp.c], .low (Go.AdR.Low.recd B x sc ⟨(some ad), en, ec⟩ sm sp), .kept w w.heap.size] → W.cell? (ad.add (j * 2)) = some (.string x.env[j].n)) := Lib.hid (fun W hW => by
                          obtain ⟨ad', e, _, hc⟩ := Els.at_ (hW.at_ 1 rfl : RecIn W B x sc ⟨some ad, en, ec⟩ sm sp ∧ B ≤ W.heap.size).1.env (k := j) (by rw [List.length_map]; exact hjl)
                          obtain rfl := Option.some.inj e
                          rw [List.getElem_map] at hc
                          have := hc 0 (.string x.env[j].n) rfl
                          rwa [add_zero] at this)
                        have HO2 : Hid (∀ v, Go.AdR.blt x.env[j].n x'.n = v → vAt Var.n goodV x.env k = v) := Lib.hid (fun v hv => HOO.out _ (vAt1_succ _ _ _ _ _ _ HG.out hj hjl hv))
                        generalize x.env[j] = y at *
                        have HY := HJ
                        have d2 : decide (0 < (k : Int)) = true := by simp; omega
                        have d3 : decide (0 < k) = true := by simp; omega
                        have w1 : IntKind.i64.wrap ((k : Int) - 1) = (j : Int) := by rw [IntWalk.i64_in _ (by omega)]; omega
                        have wj1 : (0 : Int) ≤ (j : Int) := by omega
                        have wj2 : (j : Int) < (en : Int) := by omega
                        have wj3 : ((j : Int)).toNat = j := by omega
                        have HK := Lib.hid hj
                        clear hj
                        cases hb : Op.bytesLess y.n.toList x'.n.toList with
                        | false =>
                          have HF : Hid (recB x = false) := Lib.hid (HNO.out (HO2.out _ hb))
                          refine wp_region_hopsH 37 (45 :: 46 :: 47 :: 48 :: 49 :: 50 :: 51 :: 52 :: 53 :: 54 :: 55 :: 56 :: 57 :: 58 :: 59 :: 60 :: 61 :: 62 :: 63 :: 64 :: 65 :: 66 :: 67 :: 68 :: 69 :: 70 :: 71 :: 72 :: 73 :: 74 :: 75 :: 76 :: 77 :: 78 :: 79 :: 80 :: 81 :: []) [.cells w.heap.size 31 [.string x.run, .string x.scope, .string x.step, .int .i64 x.t, .slice sc.A sc.n sc.c, .slice (some ad) en ec, .slice sm.A sm.n sm.c, .slice sp.A sp.n sp.c], .low (Go.AdR.Low.recd B x sc ⟨(some ad), en, ec⟩ sm sp), .kept w w.heap.size]
                            (.eq (.pointer (some ⟨w.heap.size, 5, none⟩)) :: .eq (.slice (some ad) en ec) :: .eq (.int .i64 k) :: .eq (.pointer (some (ad.add (k * 2)))) :: .eq (.pointer (some (ad.add (k * 2)))) :: .eq (.string x'.n) :: .eq (.bool true) :: .eq (.bool false) :: .eq (.bool false) :: .eq (.pointer (some ⟨w.heap.size, 5, none⟩)) :: .eq (.slice (some ad) en ec) :: .eq (.int .i64 k) :: .eq (.pointer (some (ad.add (k * 2)))) :: .eq (.pointer (some ((ad.add (k * 2)).add 1))) :: .eq (.string x'.v) :: .eq (.int .i64 (x'.v.size : Int)) :: .eq (.bool false) :: .eq (.bool false) :: .eq (.bool false) :: .eq (.int .i64 k) :: .eq (.bool true) :: .eq (.bool true) :: .eq (.pointer (some ⟨w.heap.size, 5, none⟩)) :: .eq (.slice (some ad) en ec) :: .eq (.int .i64 k) :: .eq (.int .i64 j) :: .eq (.pointer (some (ad.add (j * 2)))) :: .eq (.pointer (some (ad.add (j * 2)))) :: .eq (.string y.n) :: .eq (.pointer (some ⟨w.heap.size, 5, none⟩)) :: .eq (.slice (some ad) en ec) :: .eq (.int .i64 k) :: .eq (.pointer (some (ad.add (k * 2)))) :: .eq (.pointer (some (ad.add (k * 2)))) :: .eq (.string x'.n) :: .eq (.bool true) :: .eq (.bool true) :: [])
                            (by kernel_rfl) (by kernel_rfl) hI rfl ?hops ?fin
                          case hops =>
                            refine ⟨?_, ?_, ?_, ?_, ?_, ?_, ?_, ?_, ?_, ?_, ?_, ?_, ?_, ?_, ?_, ?_, ?_, ?_, ?_, ?_, ?_, ?_, ?_, ?_, ?_, ?_, ?_, ?_, ?_, ?_, ?_, ?_, ?_, ?_, ?_, ?_, ?_, trivial⟩
                            · intro a W hW hb hd K hK
                              have b1 := hb 1 rfl
                              go_simp
                              exact hK _ _ (World.grownBy.refl _ _) rfl
                            · intro a W hW hb hd K hK
                              have b45 : a.tmps[45]?.getD undef = _ := hd ⟨0, .data⟩ (by simp) rfl
                              have q1 : W.cell? ⟨w.heap.size, 5, none⟩ = some (.slice (some ad) en ec) := cell_of (hW.at_ 0 rfl) (i := 5) rfl
                              go_simp
                              exact hK _ _ (World.grownBy.refl _ _) rfl
                            · intro a W hW hb hd K hK
                              have b3 := hb 3 rfl
                              go_simp
                              exact hK _ _ (World.grownBy.refl _ _) rfl
                            · intro a W hW hb hd K hK
                              have b46 : a.tmps[46]?.getD undef = _ := hd ⟨1, .data⟩ (by simp) rfl
                              have b47 : a.tmps[47]?.getD undef = _ := hd ⟨2, .data⟩ (by simp) rfl
                              go_simp
                              exact hK _ _ (World.grownBy.refl _ _) rfl
                            · intro a W hW hb hd K hK
                              have b48 : a.tmps[48]?.getD undef = _ := hd ⟨3, .data⟩ (by simp) rfl
                              go_simp
                              exact hK _ _ (World.grownBy.refl _ _) (by first | rfl | (rw [add_zero]; rfl) | (simp [add_zero]; rfl))
                            · intro a W hW hb hd K hK
                              have b49 : a.tmps[49]?.getD undef = _ := hd ⟨4, .data⟩ (by simp) rfl
                              have q1 : W.cell? (ad.add (k * 2)) = some (.string x'.n) := (HC.out W hW).1
                              go_simp
                              exact hK _ _ (World.grownBy.refl _ _) rfl
                            · intro a W hW hb hd K hK
                              have b50 : a.tmps[50]?.getD undef = _ := hd ⟨5, .data⟩ (by simp) rfl
                              go_simp
                              refine (refName_any x'.n W hx.out.1).mono ?_
                              rintro e w' ⟨rfl, rfl⟩
                              exact hK _ _ (World.grownBy.refl _ _) (congrArg Value.bool HP.out)
                            · intro a W hW hb hd K hK
                              have b51 : a.tmps[51]?.getD undef = _ := hd ⟨6, .data⟩ (by simp) rfl
                              go_simp
                              exact hK _ _ (World.grownBy.refl _ _) rfl
                            · intro a W hW hb hd K hK
                              have b52 : a.tmps[52]?.getD undef = _ := hd ⟨7, .data⟩ (by simp) rfl
                              go_simp
                              exact hK _ _ (World.grownBy.refl _ _) rfl
                            · refine Or.inl ⟨fun v w h => h, ?_⟩
                              intro a W hW hb hd K hK
                              have b1 := hb 1 rfl
                              go_simp
                              exact hK _ _ (World.grownBy.refl _ _) rfl
                            · refine Or.inl ⟨fun v w h => h, ?_⟩
                              intro a W hW hb hd K hK
                              have b54 : a.tmps[54]?.getD undef = _ := hd ⟨9, .data⟩ (by simp) rfl
                              have q1 : W.cell? ⟨w.heap.size, 5, none⟩ = some (.slice (some ad) en ec) := cell_of (hW.at_ 0 rfl) (i := 5) rfl
                              go_simp
                              exact hK _ _ (World.grownBy.refl _ _) rfl
                            · refine Or.inl ⟨fun v w h => h, ?_⟩
                              intro a W hW hb hd K hK
                              have b3 := hb 3 rfl
                              go_simp
                              exact hK _ _ (World.grownBy.refl _ _) rfl
                            · refine Or.inl ⟨fun v w h => h, ?_⟩
                              intro a W hW hb hd K hK
                              have b55 : a.tmps[55]?.getD undef = _ := hd ⟨10, .data⟩ (by simp) rfl
                              have b56 : a.tmps[56]?.getD undef = _ := hd ⟨11, .data⟩ (by simp) rfl
                              go_simp
                              exact hK _ _ (World.grownBy.refl _ _) rfl
                            · refine Or.inl ⟨fun v w h => h, ?_⟩
                              intro a W hW hb hd K hK
                              have b57 : a.tmps[57]?.getD undef = _ := hd ⟨12, .data⟩ (by simp) rfl
                              go_simp
                              exact hK _ _ (World.grownBy.refl _ _) rfl
                            · refine Or.inl ⟨fun v w h => h, ?_⟩
                              intro a W hW hb hd K hK
                              have b58 : a.tmps[58]?.getD undef = _ := hd ⟨13, .data⟩ (by simp) rfl
                              have q1 : W.cell? ⟨(ad.add (k * 2)).block, (ad.add (k * 2)).off + 1, none⟩ = some (.string x'.v) := (HC.out W hW).2
                              go_simp
                              exact hK _ _ (World.grownBy.refl _ _) rfl
                            · refine Or.inl ⟨fun v w h => h, ?_⟩
                              intro a W hW hb hd K hK
                              have b59 : a.tmps[59]?.getD undef = _ := hd ⟨14, .data⟩ (by simp) rfl
                              go_simp
                              exact hK _ _ (World.grownBy.refl _ _) rfl
                            · refine Or.inl ⟨fun v w h => h, ?_⟩
                              intro a W hW hb hd K hK
                              have b60 : a.tmps[60]?.getD undef = _ := hd ⟨15, .data⟩ (by simp) rfl
                              have q1 := HZ.out
                              go_simp
                              exact hK _ _ (World.grownBy.refl _ _) rfl
                            · intro a W hW hb hd K hK
                              have b53 : a.tmps[53]?.getD undef = _ := hd ⟨8, .data⟩ (by simp) rfl
                              have b61 : a.tmps[61]?.getD undef = _ := hd ⟨16, .data⟩ (by simp) rfl
                              go_simp
                              exact hK _ _ (World.grownBy.refl _ _) rfl
                            · intro a W hW hb hd K hK
                              have b62 : a.tmps[62]?.getD undef = _ := hd ⟨17, .data⟩ (by simp) rfl
                              go_simp
                              exact hK _ _ (World.grownBy.refl _ _) rfl
                            · refine Or.inl ⟨fun v w h => h, ?_⟩
                              intro a W hW hb hd K hK
                              have b3 := hb 3 rfl
                              go_simp
                              exact hK _ _ (World.grownBy.refl _ _) rfl
                            · refine Or.inl ⟨fun v w h => h, ?_⟩
                              intro a W hW hb hd K hK
                              have b64 : a.tmps[64]?.getD undef = _ := hd ⟨19, .data⟩ (by simp) rfl
                              go_simp
                              exact hK _ _ (World.grownBy.refl _ _) rfl
                            · refine Or.inl ⟨fun v w h => h, ?_⟩
                              intro a W hW hb hd K hK
                              have b65 : a.tmps[65]?.getD undef = _ := hd ⟨20, .data⟩ (by simp) rfl
                              go_simp
                              exact hK _ _ (World.grownBy.refl _ _) rfl
                            · refine Or.inl ⟨fun v w h => h, ?_⟩
                              intro a W hW hb hd K hK
                              have b1 := hb 1 rfl
                              go_simp
                              exact hK _ _ (World.grownBy.refl _ _) rfl
                            · refine Or.inl ⟨fun v w h => h, ?_⟩
                              intro a W hW hb hd K hK
                              have b67 : a.tmps[67]?.getD undef = _ := hd ⟨22, .data⟩ (by simp) rfl
                              have q1 : W.cell? ⟨w.heap.size, 5, none⟩ = some (.slice (some ad) en ec) := cell_of (hW.at_ 0 rfl) (i := 5) rfl
                              go_simp
                              exact hK _ _ (World.grownBy.refl _ _) rfl
                            · refine Or.inl ⟨fun v w h => h, ?_⟩
                              intro a W hW hb hd K hK
                              have b3 := hb 3 rfl
                              go_simp
                              exact hK _ _ (World.grownBy.refl _ _) rfl
                            · refine Or.inl ⟨fun v w h => h, ?_⟩
                              intro a W hW hb hd K hK
                              have b69 : a.tmps[69]?.getD undef = _ := hd ⟨24, .data⟩ (by simp) rfl
                              go_simp
                              exact hK _ _ (World.grownBy.refl _ _) rfl
                            · refine Or.inl ⟨fun v w h => h, ?_⟩
                              intro a W hW hb hd K hK
                              have b68 : a.tmps[68]?.getD undef = _ := hd ⟨23, .data⟩ (by simp) rfl
                              have b70 : a.tmps[70]?.getD undef = _ := hd ⟨25, .data⟩ (by simp) rfl
                              go_simp
                              exact hK _ _ (World.grownBy.refl _ _) rfl
                            · refine Or.inl ⟨fun v w h => h, ?_⟩
                              intro a W hW hb hd K hK
                              have b71 : a.tmps[71]?.getD undef = _ := hd ⟨26, .data⟩ (by simp) rfl
                              go_simp
                              exact hK _ _ (World.grownBy.refl _ _) (by first | rfl | (rw [add_zero]; rfl) | (simp [add_zero]; rfl))
                            · refine Or.inl ⟨fun v w h => h, ?_⟩
                              intro a W hW hb hd K hK
                              have b72 : a.tmps[72]?.getD undef = _ := hd ⟨27, .data⟩ (by simp) rfl
                              have q1 : W.cell? (ad.add (j * 2)) = some (.string y.n) := HY.out W hW
                              go_simp
                              exact hK _ _ (World.grownBy.refl _ _) rfl
                            · refine Or.inl ⟨fun v w h => h, ?_⟩
                              intro a W hW hb hd K hK
                              have b1 := hb 1 rfl
                              go_simp
                              exact hK _ _ (World.grownBy.refl _ _) rfl
                            · refine Or.inl ⟨fun v w h => h, ?_⟩
                              intro a W hW hb hd K hK
                              have b74 : a.tmps[74]?.getD undef = _ := hd ⟨29, .data⟩ (by simp) rfl
                              have q1 : W.cell? ⟨w.heap.size, 5, none⟩ = some (.slice (some ad) en ec) := cell_of (hW.at_ 0 rfl) (i := 5) rfl
                              go_simp
                              exact hK _ _ (World.grownBy.refl _ _) rfl
                            · refine Or.inl ⟨fun v w h => h, ?_⟩
                              intro a W hW hb hd K hK
                              have b3 := hb 3 rfl
                              go_simp
                              exact hK _ _ (World.grownBy.refl _ _) rfl
                            · refine Or.inl ⟨fun v w h => h, ?_⟩
                              intro a W hW hb hd K hK
                              have b75 : a.tmps[75]?.getD undef = _ := hd ⟨30, .data⟩ (by simp) rfl
                              have b76 : a.tmps[76]?.getD undef = _ := hd ⟨31, .data⟩ (by simp) rfl
                              go_simp
                              exact hK _ _ (World.grownBy.refl _ _) rfl
                            · refine Or.inl ⟨fun v w h => h, ?_⟩
                              intro a W hW hb hd K hK
                              have b77 : a.tmps[77]?.getD undef = _ := hd ⟨32, .data⟩ (by simp) rfl
                              go_simp
                              exact hK _ _ (World.grownBy.refl _ _) (by first | rfl | (rw [add_zero]; rfl) | (simp [add_zero]; rfl))
                            · refine Or.inl ⟨fun v w h => h, ?_⟩
                              intro a W hW hb hd K hK
                              have b78 : a.tmps[78]?.getD undef = _ := hd ⟨33, .data⟩ (by simp) rfl
                              have q1 : W.cell? (ad.add (k * 2)) = some (.string x'.n) := (HC.out W hW).1
                              go_simp
                              exact hK _ _ (World.grownBy.refl _ _) rfl
                            · refine Or.inl ⟨fun v w h => h, ?_⟩
                              intro a W hW hb hd K hK
                              have b73 : a.tmps[73]?.getD undef = _ := hd ⟨28, .data⟩ (by simp) rfl
                              have b79 : a.tmps[79]?.getD undef = _ := hd ⟨34, .data⟩ (by simp) rfl
                              go_simp
                              exact hK _ _ (World.grownBy.refl _ _) rfl
                            · refine Or.inl ⟨fun v w h => h, ?_⟩
                              intro a W hW hb hd K hK
                              have b66 : a.tmps[66]?.getD undef = _ := hd ⟨21, .data⟩ (by simp) rfl
                              have b80 : a.tmps[80]?.getD undef = _ := hd ⟨35, .data⟩ (by simp) rfl
                              go_simp
                              exact hK _ _ (World.grownBy.refl _ _) rfl
                          case fin =>
                            intro vs W hW hv
                            have e18 : vs 18 = _ := hv 18 (by decide)
                            have e36 : vs 36 = _ := hv 36 (by decide)
                            clear hv
                            simp only [putAll, List.drop_succ_cons, List.drop_zero, e18, e36, Act.put, List.setIfInBounds_toArray, List.set_cons_succ, List.set_cons_zero]
                            clear e18 e36 hI
                            go_wp2_with fail
                            go_ret
                            exact ⟨ret_bool (by rw [HF.out]), (hW.at_ 2 rfl : _ ∧ _).1⟩
                        | true =>
                          have HF : Hid (vAt Var.n goodV x.env k = true) := Lib.hid (HO2.out _ hb)
                          refine wp_region_hopsH 37 (45 :: 46 :: 47 :: 48 :: 49 :: 50 :: 51 :: 52 :: 53 :: 54 :: 55 :: 56 :: 57 :: 58 :: 59 :: 60 :: 61 :: 62 :: 63 :: 64 :: 65 :: 66 :: 67 :: 68 :: 69 :: 70 :: 71 :: 72 :: 73 :: 74 :: 75 :: 76 :: 77 :: 78 :: 79 :: 80 :: 81 :: []) [.cells w.heap.size 31 [.string x.run, .string x.scope, .string x.step, .int .i64 x.t, .slice sc.A sc.n sc.c, .slice (some ad) en ec, .slice sm.A sm.n sm.c, .slice sp.A sp.n sp.c], .low (Go.AdR.Low.recd B x sc ⟨(some ad), en, ec⟩ sm sp), .kept w w.heap.size]
                            (.eq (.pointer (some ⟨w.heap.size, 5, none⟩)) :: .eq (.slice (some ad) en ec) :: .eq (.int .i64 k) :: .eq (.pointer (some (ad.add (k * 2)))) :: .eq (.pointer (some (ad.add (k * 2)))) :: .eq (.string x'.n) :: .eq (.bool true) :: .eq (.bool false) :: .eq (.bool false) :: .eq (.pointer (some ⟨w.heap.size, 5, none⟩)) :: .eq (.slice (some ad) en ec) :: .eq (.int .i64 k) :: .eq (.pointer (some (ad.add (k * 2)))) :: .eq (.pointer (some ((ad.add (k * 2)).add 1))) :: .eq (.string x'.v) :: .eq (.int .i64 (x'.v.size : Int)) :: .eq (.bool false) :: .eq (.bool false) :: .eq (.bool false) :: .eq (.int .i64 k) :: .eq (.bool true) :: .eq (.bool true) :: .eq (.pointer (some ⟨w.heap.size, 5, none⟩)) :: .eq (.slice (some ad) en ec) :: .eq (.int .i64 k) :: .eq (.int .i64 j) :: .eq (.pointer (some (ad.add (j * 2)))) :: .eq (.pointer (some (ad.add (j * 2)))) :: .eq (.string y.n) :: .eq (.pointer (some ⟨w.heap.size, 5, none⟩)) :: .eq (.slice (some ad) en ec) :: .eq (.int .i64 k) :: .eq (.pointer (some (ad.add (k * 2)))) :: .eq (.pointer (some (ad.add (k * 2)))) :: .eq (.string x'.n) :: .eq (.bool false) :: .eq (.bool false) :: [])
                            (by kernel_rfl) (by kernel_rfl) hI rfl ?hops ?fin
                          case hops =>
                            refine ⟨?_, ?_, ?_, ?_, ?_, ?_, ?_, ?_, ?_, ?_, ?_, ?_, ?_, ?_, ?_, ?_, ?_, ?_, ?_, ?_, ?_, ?_, ?_, ?_, ?_, ?_, ?_, ?_, ?_, ?_, ?_, ?_, ?_, ?_, ?_, ?_, ?_, trivial⟩
                            · intro a W hW hb hd K hK
                              have b1 := hb 1 rfl
                              go_simp
                              exact hK _ _ (World.grownBy.refl _ _) rfl
                            · intro a W hW hb hd K hK
                              have b45 : a.tmps[45]?.getD undef = _ := hd ⟨0, .data⟩ (by simp) rfl
                              have q1 : W.cell? ⟨w.heap.size, 5, none⟩ = some (.slice (some ad) en ec) := cell_of (hW.at_ 0 rfl) (i := 5) rfl
                              go_simp
                              exact hK _ _ (World.grownBy.refl _ _) rfl
                            · intro a W hW hb hd K hK
                              have b3 := hb 3 rfl
                              go_simp
                              exact hK _ _ (World.grownBy.refl _ _) rfl
                            · intro a W hW hb hd K hK
                              have b46 : a.tmps[46]?.getD undef = _ := hd ⟨1, .data⟩ (by simp) rfl
                              have b47 : a.tmps[47]?.getD undef = _ := hd ⟨2, .data⟩ (by simp) rfl
                              go_simp
                              exact hK _ _ (World.grownBy.refl _ _) rfl
                            · intro a W hW hb hd K hK
                              have b48 : a.tmps[48]?.getD undef = _ := hd ⟨3, .data⟩ (by simp) rfl
                              go_simp
                              exact hK _ _ (World.grownBy.refl _ _) (by first | rfl | (rw [add_zero]; rfl) | (simp [add_zero]; rfl))
                            · intro a W hW hb hd K hK
                              have b49 : a.tmps[49]?.getD undef = _ := hd ⟨4, .data⟩ (by simp) rfl
                              have q1 : W.cell? (ad.add (k * 2)) = some (.string x'.n) := (HC.out W hW).1
                              go_simp
                              exact hK _ _ (World.grownBy.refl _ _) rfl
                            · intro a W hW hb hd K hK
                              have b50 : a.tmps[50]?.getD undef = _ := hd ⟨5, .data⟩ (by simp) rfl
                              go_simp
                              refine (refName_any x'.n W hx.out.1).mono ?_
                              rintro e w' ⟨rfl, rfl⟩
                              exact hK _ _ (World.grownBy.refl _ _) (congrArg Value.bool HP.out)
                            · intro a W hW hb hd K hK
                              have b51 : a.tmps[51]?.getD undef = _ := hd ⟨6, .data⟩ (by simp) rfl
                              go_simp
                              exact hK _ _ (World.grownBy.refl _ _) rfl
                            · intro a W hW hb hd K hK
                              have b52 : a.tmps[52]?.getD undef = _ := hd ⟨7, .data⟩ (by simp) rfl
                              go_simp
                              exact hK _ _ (World.grownBy.refl _ _) rfl
                            · refine Or.inl ⟨fun v w h => h, ?_⟩
                              intro a W hW hb hd K hK
                              have b1 := hb 1 rfl
                              go_simp
                              exact hK _ _ (World.grownBy.refl _ _) rfl
                            · refine Or.inl ⟨fun v w h => h, ?_⟩
                              intro a W hW hb hd K hK
                              have b54 : a.tmps[54]?.getD undef = _ := hd ⟨9, .data⟩ (by simp) rfl
                              have q1 : W.cell? ⟨w.heap.size, 5, none⟩ = some (.slice (some ad) en ec) := cell_of (hW.at_ 0 rfl) (i := 5) rfl
                              go_simp
                              exact hK _ _ (World.grownBy.refl _ _) rfl
                            · refine Or.inl ⟨fun v w h => h, ?_⟩
                              intro a W hW hb hd K hK
                              have b3 := hb 3 rfl
                              go_simp
                              exact hK _ _ (World.grownBy.refl _ _) rfl
                            · refine Or.inl ⟨fun v w h => h, ?_⟩
                              intro a W hW hb hd K hK
                              have b55 : a.tmps[55]?.getD undef = _ := hd ⟨10, .data⟩ (by simp) rfl
                              have b56 : a.tmps[56]?.getD undef = _ := hd ⟨11, .data⟩ (by simp) rfl
                              go_simp
                              exact hK _ _ (World.grownBy.refl _ _) rfl
                            · refine Or.inl ⟨fun v w h => h, ?_⟩
                              intro a W hW hb hd K hK
                              have b57 : a.tmps[57]?.getD undef = _ := hd ⟨12, .data⟩ (by simp) rfl
                              go_simp
                              exact hK _ _ (World.grownBy.refl _ _) rfl
                            · refine Or.inl ⟨fun v w h => h, ?_⟩
                              intro a W hW hb hd K hK
                              have b58 : a.tmps[58]?.getD undef = _ := hd ⟨13, .data⟩ (by simp) rfl
                              have q1 : W.cell? ⟨(ad.add (k * 2)).block, (ad.add (k * 2)).off + 1, none⟩ = some (.string x'.v) := (HC.out W hW).2
                              go_simp
                              exact hK _ _ (World.grownBy.refl _ _) rfl
                            · refine Or.inl ⟨fun v w h => h, ?_⟩
                              intro a W hW hb hd K hK
                              have b59 : a.tmps[59]?.getD undef = _ := hd ⟨14, .data⟩ (by simp) rfl
                              go_simp
                              exact hK _ _ (World.grownBy.refl _ _) rfl
                            · refine Or.inl ⟨fun v w h => h, ?_⟩
                              intro a W hW hb hd K hK
                              have b60 : a.tmps[60]?.getD undef = _ := hd ⟨15, .data⟩ (by simp) rfl
                              have q1 := HZ.out
                              go_simp
                              exact hK _ _ (World.grownBy.refl _ _) rfl
                            · intro a W hW hb hd K hK
                              have b53 : a.tmps[53]?.getD undef = _ := hd ⟨8, .data⟩ (by simp) rfl
                              have b61 : a.tmps[61]?.getD undef = _ := hd ⟨16, .data⟩ (by simp) rfl
                              go_simp
                              exact hK _ _ (World.grownBy.refl _ _) rfl
                            · intro a W hW hb hd K hK
                              have b62 : a.tmps[62]?.getD undef = _ := hd ⟨17, .data⟩ (by simp) rfl
                              go_simp
                              exact hK _ _ (World.grownBy.refl _ _) rfl
                            · refine Or.inl ⟨fun v w h => h, ?_⟩
                              intro a W hW hb hd K hK
                              have b3 := hb 3 rfl
                              go_simp
                              exact hK _ _ (World.grownBy.refl _ _) rfl
                            · refine Or.inl ⟨fun v w h => h, ?_⟩
                              intro a W hW hb hd K hK
                              have b64 : a.tmps[64]?.getD undef = _ := hd ⟨19, .data⟩ (by simp) rfl
                              go_simp
                              exact hK _ _ (World.grownBy.refl _ _) rfl
                            · refine Or.inl ⟨fun v w h => h, ?_⟩
                              intro a W hW hb hd K hK
                              have b65 : a.tmps[65]?.getD undef = _ := hd ⟨20, .data⟩ (by simp) rfl
                              go_simp
                              exact hK _ _ (World.grownBy.refl _ _) rfl
                            · refine Or.inl ⟨fun v w h => h, ?_⟩
                              intro a W hW hb hd K hK
                              have b1 := hb 1 rfl
                              go_simp
                              exact hK _ _ (World.grownBy.refl _ _) rfl
                            · refine Or.inl ⟨fun v w h => h, ?_⟩
                              intro a W hW hb hd K hK
                              have b67 : a.tmps[67]?.getD undef = _ := hd ⟨22, .data⟩ (by simp) rfl
                              have q1 : W.cell? ⟨w.heap.size, 5, none⟩ = some (.slice (some ad) en ec) := cell_of (hW.at_ 0 rfl) (i := 5) rfl
                              go_simp
                              exact hK _ _ (World.grownBy.refl _ _) rfl
                            · refine Or.inl ⟨fun v w h => h, ?_⟩
                              intro a W hW hb hd K hK
                              have b3 := hb 3 rfl
                              go_simp
                              exact hK _ _ (World.grownBy.refl _ _) rfl
                            · refine Or.inl ⟨fun v w h => h, ?_⟩
                              intro a W hW hb hd K hK
                              have b69 : a.tmps[69]?.getD undef = _ := hd ⟨24, .data⟩ (by simp) rfl
                              go_simp
                              exact hK _ _ (World.grownBy.refl _ _) rfl
                            · refine Or.inl ⟨fun v w h => h, ?_⟩
                              intro a W hW hb hd K hK
                              have b68 : a.tmps[68]?.getD undef = _ := hd ⟨23, .data⟩ (by simp) rfl
                              have b70 : a.tmps[70]?.getD undef = _ := hd ⟨25, .data⟩ (by simp) rfl
                              go_simp
                              exact hK _ _ (World.grownBy.refl _ _) rfl
                            · refine Or.inl ⟨fun v w h => h, ?_⟩
                              intro a W hW hb hd K hK
                              have b71 : a.tmps[71]?.getD undef = _ := hd ⟨26, .data⟩ (by simp) rfl
                              go_simp
                              exact hK _ _ (World.grownBy.refl _ _) (by first | rfl | (rw [add_zero]; rfl) | (simp [add_zero]; rfl))
                            · refine Or.inl ⟨fun v w h => h, ?_⟩
                              intro a W hW hb hd K hK
                              have b72 : a.tmps[72]?.getD undef = _ := hd ⟨27, .data⟩ (by simp) rfl
                              have q1 : W.cell? (ad.add (j * 2)) = some (.string y.n) := HY.out W hW
                              go_simp
                              exact hK _ _ (World.grownBy.refl _ _) rfl
                            · refine Or.inl ⟨fun v w h => h, ?_⟩
                              intro a W hW hb hd K hK
                              have b1 := hb 1 rfl
                              go_simp
                              exact hK _ _ (World.grownBy.refl _ _) rfl
                            · refine Or.inl ⟨fun v w h => h, ?_⟩
                              intro a W hW hb hd K hK
                              have b74 : a.tmps[74]?.getD undef = _ := hd ⟨29, .data⟩ (by simp) rfl
                              have q1 : W.cell? ⟨w.heap.size, 5, none⟩ = some (.slice (some ad) en ec) := cell_of (hW.at_ 0 rfl) (i := 5) rfl
                              go_simp
                              exact hK _ _ (World.grownBy.refl _ _) rfl
                            · refine Or.inl ⟨fun v w h => h, ?_⟩
                              intro a W hW hb hd K hK
                              have b3 := hb 3 rfl
                              go_simp
                              exact hK _ _ (World.grownBy.refl _ _) rfl
                            · refine Or.inl ⟨fun v w h => h, ?_⟩
                              intro a W hW hb hd K hK
                              have b75 : a.tmps[75]?.getD undef = _ := hd ⟨30, .data⟩ (by simp) rfl
                              have b76 : a.tmps[76]?.getD undef = _ := hd ⟨31, .data⟩ (by simp) rfl
                              go_simp
                              exact hK _ _ (World.grownBy.refl _ _) rfl
                            · refine Or.inl ⟨fun v w h => h, ?_⟩
                              intro a W hW hb hd K hK
                              have b77 : a.tmps[77]?.getD undef = _ := hd ⟨32, .data⟩ (by simp) rfl
                              go_simp
                              exact hK _ _ (World.grownBy.refl _ _) (by first | rfl | (rw [add_zero]; rfl) | (simp [add_zero]; rfl))
                            · refine Or.inl ⟨fun v w h => h, ?_⟩
                              intro a W hW hb hd K hK
                              have b78 : a.tmps[78]?.getD undef = _ := hd ⟨33, .data⟩ (by simp) rfl
                              have q1 : W.cell? (ad.add (k * 2)) = some (.string x'.n) := (HC.out W hW).1
                              go_simp
                              exact hK _ _ (World.grownBy.refl _ _) rfl
                            · refine Or.inl ⟨fun v w h => h, ?_⟩
                              intro a W hW hb hd K hK
                              have b73 : a.tmps[73]?.getD undef = _ := hd ⟨28, .data⟩ (by simp) rfl
                              have b79 : a.tmps[79]?.getD undef = _ := hd ⟨34, .data⟩ (by simp) rfl
                              go_simp
                              exact hK _ _ (World.grownBy.refl _ _) rfl
                            · refine Or.inl ⟨fun v w h => h, ?_⟩
                              intro a W hW hb hd K hK
                              have b66 : a.tmps[66]?.getD undef = _ := hd ⟨21, .data⟩ (by simp) rfl
                              have b80 : a.tmps[80]?.getD undef = _ := hd ⟨35, .data⟩ (by simp) rfl
                              go_simp
                              exact hK _ _ (World.grownBy.refl _ _) rfl
                          case fin =>
                            intro vs W hW hv
                            have e18 : vs 18 = _ := hv 18 (by decide)
                            have e36 : vs 36 = _ := hv 36 (by decide)
                            clear hv
                            simp only [putAll, List.drop_succ_cons, List.drop_zero, e18, e36, Act.put, List.setIfInBounds_toArray, List.set_cons_succ, List.set_cons_zero]
                            clear e18 e36 hI
                            go_wp2_with fail
                            refine ⟨⟨k + 1, by omega, by go_num, fun i hi => ?_, hW⟩, by simp [intOf]; omega⟩
                            by_cases hik : i = k
                            · rw [hik]; exact HF.out
                            · exact HA.out i (by omega)
                · obtain rfl : k = en := by omega
                  have d1 : decide ((k : Int) < (k : Int)) = false := by simp
                  have hv : Hid (varsB x.env = true) := Lib.hid (by rw [varsB, vAll_all _ _ _ x.env (by rw [HNE.out]; exact HA.out), HNE.out]; have := of_decide_eq_false d16; simp; omega)
                  rw [hv.out] at HF
                  clear d16 HBE16
                  go_upto_region 8 with (fail)
                  clear c5 d1
                  have c6 := cell_of (hI.at_ 0 rfl) (i := 6) rfl
                  cases bm with
                  | false =>
                    go_wp2_with (go_at_call 42; refine (HVM.out _ (hI.at_ 2 rfl : _ ∧ _).1 (hI.at_ 1 rfl : _ ∧ _).1 (hI.at_ 1 rfl : _ ∧ _).2).mono ?_; rintro e w3 ⟨rfl, hb3⟩; have hW3 := hI.call hb3)
                    go_ret
                    exact ⟨ret_bool (by rw [HF.out]; rfl), (hW3.at_ 2 rfl : _ ∧ _).1⟩
                  | true =>
                    go_wp2_with (first | (go_at_call 42; have q9 := c6; clear q9 c6; refine (HVM.out _ (hI.at_ 2 rfl : _ ∧ _).1 (hI.at_ 1 rfl : _ ∧ _).1 (hI.at_ 1 rfl : _ ∧ _).2).mono ?_; rintro e w3 ⟨rfl, hb3⟩; have hW3 := hI.call hb3; have c7 := cell_of (hW3.at_ 0 rfl) (i := 7) rfl) | (go_at_call 42; refine (HVP.out _ (hW3.at_ 2 rfl : _ ∧ _).1 (hW3.at_ 1 rfl : _ ∧ _).1 (hW3.at_ 1 rfl : _ ∧ _).2).mono ?_; rintro e w4 ⟨rfl, hb4⟩; have hW4 := hW3.call hb4))
                    go_ret
                    exact ⟨ret_bool (by rw [HF.out]; simp), (hW4.at_ 2 rfl : _ ∧ _).1⟩
end Go.Proofs.YtjdinakdkdjocaaGreatDoor

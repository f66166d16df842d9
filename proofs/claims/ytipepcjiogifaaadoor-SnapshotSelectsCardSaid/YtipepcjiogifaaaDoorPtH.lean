/- admissionref03.Match. -/
import Derived.Test.YtipepcjiogifaaaDoorPtG
set_option linter.unusedSimpArgs false
set_option linter.unusedVariables false
set_option maxRecDepth 100000
namespace Go.Adm
open Go Go.RowKit
section
variable {P : Program}
/-- a wide load whose guard is met -/
theorem wl_load_met {ops : Array Oper} {rest : List Oper} {op : Oper} {a : Act} {w : World} {Q : Exit → Act → World → Prop} (hw : Region.wanted op (yielded ops a.tmps) = true) (ty : TypeId) (x : Operand) (ho : op.op = .load ty x)
    (ad : Addr) (hx : a.eval x = .pointer (some ad)) (cs : List Value) (d : TypeDesc) (hc : ∀ j u, cs[j]? = some u → w.cell? (ad.add j) = some u)
    (hu : P.underlying ty = some d) (hd : d.isRow = true) (hi : (P.info? ty).map (·.size) = some cs.length) (h : wpList P ops Q rest (a.put op.dst (.agg cs.toArray)) w) : wpList P ops Q (op :: rest) a w :=
  wpList_step fun _ hK => by
    rw [if_pos hw]
    unfold Oper.wp execOp
    simp only [ho, hx, Instr.loadAt, Instr.sureAddr, Sem.run_bind, Sem.run_pure, Result.andThen_ok, run_loadVar_any w ad ty cs d hc hu hd hi]
    exact hK _ _ h
theorem still_load_met {ops : Array Oper} {rest : List Oper} {op : Oper} {a : Act} {w : World} {Q : Act → Prop} (hw : Region.wanted op (yielded ops a.tmps) = true) (ty : TypeId) (x : Operand) (ho : op.op = .load ty x)
    (ad : Addr) (hx : a.eval x = .pointer (some ad)) (cs : List Value) (d : TypeDesc) (hc : ∀ j u, cs[j]? = some u → w.cell? (ad.add j) = some u)
    (hu : P.underlying ty = some d) (hd : d.isRow = true) (hi : (P.info? ty).map (·.size) = some cs.length) (h : wpStill P ops w Q rest (a.put op.dst (.agg cs.toArray))) : wpStill P ops w Q (op :: rest) a :=
  wpStill_step fun K hK => by
    rw [if_pos hw]
    have hrun : (execOp a.eval op).run P w = .ok (.value (.agg cs.toArray)) w := by
      unfold execOp
      simp only [ho, hx, Instr.loadAt, Instr.sureAddr, Sem.run_bind, Sem.run_pure, Result.andThen_ok, run_loadVar_any w ad ty cs d hc hu hd hi]
    unfold Oper.still
    rw [hrun, Oper.stillUpon_value]
    exact hK _ h
theorem still_skip {ops : Array Oper} {rest : List Oper} {op : Oper} {a : Act} {w : World} {Q : Act → Prop} (hw : Region.wanted op (yielded ops a.tmps) = false) (h : wpStill P ops w Q rest (a.put op.dst undef)) : wpStill P ops w Q (op :: rest) a :=
  wpStill_step fun K hK => by
    rw [if_neg (by rw [hw]; decide)]
    exact hK _ h
theorem still_met {ops : Array Oper} {rest : List Oper} {op : Oper} {a : Act} {w : World} {Q : Act → Prop} (hw : Region.wanted op (yielded ops a.tmps) = true) (v : Value)
    (hrun : (execOp a.eval op).run P w = .ok (.value v) w) (h : wpStill P ops w Q rest (a.put op.dst v)) : wpStill P ops w Q (op :: rest) a :=
  wpStill_step fun K hK => by
    rw [if_pos hw]
    unfold Oper.still
    rw [hrun, Oper.stillUpon_value]
    exact hK _ h
end
theorem col0_le (L : List UInt8) (xs : List Pt) (k : Nat) (hr : ∀ i, i < k → repAt xs i = true) (hk : repAt xs k = false) : ∀ j, j ≤ xs.length → colE L xs 0 j = decide (j ≤ k) := by
  intro j
  induction j with
  | zero => intro _; rw [col_zero]; simp
  | succ j ih =>
    intro hj
    have hx : xs[j]? = some xs[j] := List.getElem?_eq_getElem (by omega)
    rw [col_zero_succ L xs hx, ih (by omega), ← repAt_some hx]
    by_cases h1 : j < k
    · rw [hr j h1]; simp; omega
    · by_cases h2 : j = k
      · subst h2; rw [hk]; simp
      · have e1 : decide (j ≤ k) = false := by simp; omega
        have e2 : decide (j + 1 ≤ k) = false := by simp; omega
        rw [e1, e2]; rfl
end Go.Adm
namespace Go.Proofs.YtipepcjiogifaaaDoor
open Go Go.RowKit Go.Adm
set_option maxHeartbeats 25600000 in
theorem refMatch_any (s name : ByteArray) (w : World) (m : Int) (hm : w.cell? ⟨0, 0, none⟩ = some (.int .i64 m)) (hgm : 0 < w.heap.size) (hs : s.size ≤ 140737488355328) (hn : name.size ≤ 140737488355328) :
    Calls Tryd.prog 32 #[.string s, .string name] w fun e w' => e = .returned (.bool (matchF s name)) ∧ Below w.heap.size w w' := by
  have hzr := zero_pr
  have hpar := read_pat s w hs
  cases hp : patS s with
  | none =>
    rw [hp] at hpar
    have HF : Hid (matchF s name = false) := Lib.hid (by unfold matchF; rw [hp])
    clear hp
    go_enter Tryd.func32, Tryd.ntmps32
    go_wp2_with (go_at_call 49; refine hpar.mono ?_; clear hpar; rintro e w1 ⟨A, c, rfl, hO, hb1⟩)
    go_ret
    rw [HF.out]
    exact ⟨rfl, hb1⟩
  | some xs =>
    rw [hp] at hpar
    have hpath := fun W (h : W.cell? ⟨0, 0, none⟩ = some (.int .i64 m)) => refPath_any name W m h
    obtain ⟨hx200, hx3⟩ := patS_le hp
    have HX3 := Lib.hid hx3
    have HMX := Lib.hid hm
    clear hm
    cases hpb : pathB name with
    | false =>
      rw [hpb] at hpath
      have HF : Hid (matchF s name = false) := Lib.hid (by unfold matchF; rw [hp]; simp [hpb])
      clear hp hpb hx3
      go_enter Tryd.func32, Tryd.ntmps32
      go_wp2_with (first
        | (go_at_call 49; refine hpar.mono ?_; clear hpar; rintro e w1 ⟨A, c, rfl, hO, hb1⟩)
        | (go_at_call 43; refine (hpath _ ((hb1.cell hgm).trans HMX.out)).mono ?_; clear hpath; rintro e w2 ⟨rfl, hb2⟩))
      go_ret
      rw [HF.out]
      exact ⟨rfl, hb1.trans (hb2.mono hb1.size)⟩
    | true =>
      rw [hpb] at hpath
      have HF : Hid (matchF s name = matchB name.data.toList xs) := Lib.hid (by unfold matchF; rw [hp]; simp [hpb])
      clear hp hpb hx3
      have wn1 : IntKind.i64.wrap ((xs.length : Int) + 1) = ((xs.length + 1 : Nat) : Int) := by rw [IntWalk.i64_in _ (by omega)]; omega
      have wn2 : 0 < xs.length + 1 := by omega
      have wn3 : (0 : Int) < ((xs.length + 1 : Nat) : Int) := by omega
      go_enter Tryd.func32, Tryd.ntmps32
      go_wp2_with (first
        | (go_at_call 49; refine hpar.mono ?_; clear hpar; rintro e w1 ⟨A, c, rfl, hO, hb1⟩)
        | (go_at_call 43; refine (hpath _ ((hb1.cell hgm).trans HMX.out)).mono ?_; clear hpath; rintro e w2 ⟨rfl, hb2⟩; have hI2 : All w2 [.low (.els w1.heap.size 2 A xs.length (xs.map partC)), .kept w w.heap.size] := ⟨⟨(parts_els hO).keep (fun p hp => hb2.cell hp), hb2.size⟩, ⟨hb1.trans (hb2.mono hb1.size), Nat.le_trans hb1.size hb2.size⟩, trivial⟩)
        | (refine wl_mk el_bools hI2 rfl (.tmp 27) (.tmp 27) rfl (xs.length + 1) (xs.length + 1) rfl rfl (Nat.le_refl _) (by omega) ?_; intro w3 hI3 hs3; rw [bc_made] at hI3)
        | (refine wl_set1 hI3 0 rfl 4 (.tmp 30) (.const (.bool true)) rfl w2.heap.size 4 _ 0 (.bool true) rfl rfl rfl (by rw [bc_len]; omega) (by kernel_rfl) rfl (by have := hI2.at_ 0 rfl; have := hI2.at_ 1 rfl; simp [Apart, Res.apart, Low.els, Res.ok] at *; omega) ?_; intro w4 hI4 hs4; simp only [List.set_cons_zero] at hI4))
      have hq1 : w1.heap.size ≤ w2.heap.size := (hI2.at_ 0 rfl : _ ∧ _).2
      have hq2 : w.heap.size ≤ w2.heap.size := (hI2.at_ 1 rfl : _ ∧ _).2
      go_loopw [8] (fun i wr => ∃ (k : Nat), i = .int .i64 k ∧ k ≤ xs.length ∧ Hid (∀ i, i < k → repAt xs i = true) ∧ All wr [.cells w2.heap.size 4 (bc (xs.length + 1) (fun j => decide (j ≤ k))), .low (.els w1.heap.size 2 A xs.length (xs.map partC)), .kept w w.heap.size]) (fun i _ => xs.length - (intOf i).toNat)
      case atStart =>
        rw [bc_set] at hI4
        refine ⟨0, rfl, Nat.zero_le _, Lib.hid (fun i hi => absurd hi (Nat.not_lt_zero _)), ?_⟩
        rw [show bc (xs.length + 1) (fun j => decide (j ≤ 0)) = bc (xs.length + 1) (fun i => if i = 0 then true else false) from bc_congr (fun i _ => by by_cases h : i = 0 <;> simp [h])]
        exact hI4
      case round =>
        obtain ⟨k, rfl, hk, HRP, hI⟩ := hrel
        have wk1 : IntKind.i64.wrap ((k : Int) + 1) = ((k + 1 : Nat) : Int) := by rw [IntWalk.i64_in _ (by omega)]; omega
        have wk2 : (0 : Int) ≤ (k : Int) := by omega
        have wk3 : (k : Int).toNat = k := by omega
        by_cases hlt : k < xs.length
        · have hkl : Hid (xs[k]? = some xs[k]) := Lib.hid (List.getElem?_eq_getElem hlt)
          have hx3 := Lib.hid (HX3.out _ (List.getElem_mem hlt))
          obtain ⟨ad, hA, hadB, hc⟩ := Els.elem (hI.at_ 1 rfl : Els wr w1.heap.size 2 A xs.length (xs.map partC) ∧ w1.heap.size ≤ wr.heap.size).1 hlt
          subst hA
          have HC := Lib.hid hc
          clear hc
          generalize xs[k] = x at *
          have d0 : decide ((k : Int) < (xs.length : Int)) = true := by simp; omega
          have wk4 : (k : Int) < (xs.length : Int) := by omega
          have wk5 : ((k + 1 : Nat) : Int) < ((xs.length + 1 : Nat) : Int) := by omega
          have wk6 : (0 : Int) ≤ ((k + 1 : Nat) : Int) := by omega
          have wk7 : ((k + 1 : Nat) : Int).toNat = k + 1 := by omega
          have hlong := fun W => long_any x W hx3.out
          cases hr : repB x with
          | true =>
            rw [hr] at hlong
            have HR := Lib.hid hr; clear hr
            go_wp2_with (first
              | (refine wl_load_met rfl 81 (.tmp 38) rfl (ad.add (k * 2)) rfl (partC x) _ HC.out Tryd.underlying81 rfl (by kernel_rfl) ?_)
              | (go_at_call 50; refine (hlong _).mono ?_; clear hlong; rintro e w5 ⟨rfl, hb5⟩; have hI5 := hI.call hb5)
              | (refine wl_set1 hI5 0 rfl 4 (.tmp 47) (.const (.bool true)) rfl w2.heap.size 4 _ (k + 1) (.bool true) rfl rfl rfl (by rw [bc_len]; omega) (by kernel_rfl) rfl (by simp [Apart, Res.apart, Low.els] <;> omega) ?_; intro w9 hI9 hs9; simp only [List.set_cons_zero] at hI9))
            rw [bc_set, show bc (xs.length + 1) (fun i => if i = k + 1 then true else decide (i ≤ k)) = bc (xs.length + 1) (fun j => decide (j ≤ k + 1)) from bc_congr (fun i _ => by
              by_cases h : i = k + 1
              · simp [h]
              · rw [if_neg h]; exact decide_eq_decide.2 (by omega))] at hI9
            refine ⟨⟨k + 1, by go_num, by omega, Lib.hid (fun i hi => ?_), hI9⟩, by simp [intOf]; omega⟩
            by_cases h : i < k
            · exact HRP.out i h
            · obtain rfl : i = k := by omega
              rw [repAt_some hkl.out]; exact HR.out
          | false =>
            rw [hr] at hlong
            have HST : Hid (repAt xs k = false) := Lib.hid (by rw [repAt_some hkl.out, hr])
            clear hr
            go_wp2_with (first
              | (refine wl_load_met rfl 81 (.tmp 38) rfl (ad.add (k * 2)) rfl (partC x) _ HC.out Tryd.underlying81 rfl (by kernel_rfl) ?_)
              | (go_at_call 50; refine (hlong _).mono ?_; clear hlong; rintro e w5 ⟨rfl, hb5⟩; have hX := hI.call hb5))
            clear hI HC hkl hadB
            generalize hAA : (some ad) = A at *
            clear hAA
            clear hlt d0 wk4 wk5 wk6 wk7
            have HS := Lib.hid (bc_congr (n := xs.length + 1) (fun i (hi : i < xs.length + 1) => col0_le name.data.toList xs k HRP.out HST.out i (by omega)))
            rw [← HS.out] at hX
            clear HS HRP HST wk1 wk2 wk3 hk
            go_loopw [7, 9] (fun v t wr => ∃ (g ii : Nat), v = .slice (some ⟨g, 0, none⟩) (xs.length + 1) (xs.length + 1) ∧ t = .int .i64 ii ∧ ii ≤ name.size ∧ All wr [.cells g 4 (bc (xs.length + 1) (colE name.data.toList xs ii)), .low (.els w1.heap.size 2 A xs.length (xs.map partC)), .kept w w.heap.size]) (fun _ t _ => name.size - (intOf t).toNat)
            case atStart => exact ⟨w2.heap.size, 0, rfl, rfl, Nat.zero_le _, hX⟩
            case round =>
              clear hX
              obtain ⟨g, ii, rfl, rfl, hii, hI⟩ := hrel
              by_cases hil : ii < name.size
              · have HB : Hid (name.data.toList.getD ii 0 = name[ii]) := Lib.hid (by rw [List.getD_eq_getElem?_getD, ba_at name hil]; rfl)
                have e0 : decide ((ii : Int) < (name.size : Int)) = true := by simp; omega
                have e1 : IntKind.i64.wrap ((ii : Int) + 1) = ((ii + 1 : Nat) : Int) := by rw [IntWalk.i64_in _ (by omega)]; omega
                have e2 : (0 : Int) ≤ (ii : Int) := by omega
                have e3 : (ii : Int) < (name.size : Int) := by omega
                have e4 : (ii : Int).toNat = ii := by omega
                have hsz : w1.heap.size ≤ wr.heap.size := (hI.at_ 1 rfl : _ ∧ _).2
                have hszw : w.heap.size ≤ wr.heap.size := (hI.at_ 2 rfl : _ ∧ _).2
                have hgl : g < wr.heap.size := Cells.lt (hI.at_ 0 rfl)
                go_wp2_with (first
                  | (refine wl_mk el_bools hI rfl (.tmp 56) (.tmp 56) rfl (xs.length + 1) (xs.length + 1) rfl rfl (Nat.le_refl _) (by omega) ?_; intro w7 hI7 hs7; rw [bc_made] at hI7))
                obtain ⟨wo, rfl⟩ : ∃ wo : World, wo = wr := ⟨wr, rfl⟩
                go_loopw [11] (fun t wq => ∃ K : Nat, t = .int .i64 K ∧ K ≤ xs.length ∧ All wq [.cells wo.heap.size 4 (bc (xs.length + 1) (preK name.data.toList xs ii name[ii] K)), .cells g 4 (bc (xs.length + 1) (colE name.data.toList xs ii)), .low (.els w1.heap.size 2 A xs.length (xs.map partC)), .kept w w.heap.size]) (fun t _ => xs.length - (intOf t).toNat)
                case atStart =>
                  rw [bc_congr (fun i (_ : i < xs.length + 1) => (preK_zero name.data.toList xs ii name[ii] i).symm)] at hI7
                  exact ⟨0, rfl, Nat.zero_le _, hI7⟩
                case round =>
                  clear hI7 hI
                  obtain ⟨K, rfl, hK, hJ⟩ := hrel
                  by_cases hKl : K < xs.length
                  · have k0 : decide ((K : Int) < (xs.length : Int)) = true := by simp; omega
                    have k1 : IntKind.i64.wrap ((K : Int) + 1) = ((K + 1 : Nat) : Int) := by rw [IntWalk.i64_in _ (by omega)]; omega
                    have k2 : (0 : Int) ≤ (K : Int) := by omega
                    have k3 : (K : Int) < (xs.length : Int) := by omega
                    have k4 : (K : Int) < ((xs.length + 1 : Nat) : Int) := by omega
                    have k5 : ((K + 1 : Nat) : Int) < ((xs.length + 1 : Nat) : Int) := by omega
                    have k6 : (0 : Int) ≤ ((K + 1 : Nat) : Int) := by omega
                    have k7 : ((K + 1 : Nat) : Int).toNat = K + 1 := by omega
                    have k8 : (K : Int).toNat = K := by omega
                    have hl3 : w1.heap.size ≤ wr.heap.size := (hJ.at_ 2 rfl : _ ∧ _).2
                    have hkl : Hid (xs[K]? = some xs[K]) := Lib.hid (List.getElem?_eq_getElem hKl)
                    have hx3 := Lib.hid (HX3.out _ (List.getElem_mem hKl))
                    obtain ⟨ad, hA, hadB, hc⟩ := Els.elem (hJ.at_ 2 rfl : Els wr w1.heap.size 2 A xs.length (xs.map partC) ∧ w1.heap.size ≤ wr.heap.size).1 hKl
                    subst hA
                    have HC := Lib.hid hc
                    clear hc
                    generalize xs[K] = x at *
                    have HFT := Lib.hid (fitAt_some name[ii] hkl.out)
                    have HRT := Lib.hid (repAt_some hkl.out)
                    have htk := fun W => takes_any x name[ii] W hx3.out
                    have hlong := fun W => long_any x W hx3.out
                    cases hE : colE name.data.toList xs ii K with
                    | false =>
                      have HE := Lib.hid hE; clear hE
                      have hca : wr.cell? ⟨g, K, none⟩ = some (.bool false) := bc_cell (hJ.at_ 1 rfl) (i := K) (by omega) HE.out
                      go_upto_region 17 with (fail)
                      have k42 : (K : Int) < (xs.length : Int) + 1 := by omega
                      go_quiet (fail)
                      have hD := hJ.drew
                      clear hca k42
                      rw [bc_congr (fun i (_ : i < xs.length + 1) => (preK_skip (by rw [HE.out]; rfl) i).symm)] at hJ hD
                      go_wp2_with fail
                      first | exact ⟨⟨K + 1, by go_num, by omega, hJ.drewN _⟩, by simp [intOf]; omega⟩ | exact ⟨⟨K + 1, by go_num, by omega, hD⟩, by simp [intOf]; omega⟩ | exact ⟨⟨K + 1, by go_num, by omega, hJ.drewN _⟩, by simp [intOf]; omega⟩
                    | true =>
                      have HE := Lib.hid hE; clear hE
                      have hca : wr.cell? ⟨g, K, none⟩ = some (.bool true) := bc_cell (hJ.at_ 1 rfl) (i := K) (by omega) HE.out
                      go_upto_region 17 with (fail)
                      have k42 : (K : Int) < (xs.length : Int) + 1 := by omega
                      refine wp_region_still_tail 12 (by kernel_rfl) (by kernel_rfl) ?_
                      simp only [List.take_succ_cons, List.take_zero, List.drop_succ_cons, List.drop_zero]
                      still_step
                      still_step
                      still_step
                      still_step
                      refine wpStill_step (fun K7 hK7 => ?_); rw [if_pos (show Region.wanted _ _ = true from rfl)]; simp only [Oper.still, execOp, Sem.run_pure, Oper.stillUpon_value]; refine hK7 _ ?_; clear hK7 K7
                      refine wpStill_step (fun K7 hK7 => ?_); rw [if_pos (show Region.wanted _ _ = true from rfl)]; simp only [Oper.still, execOp, Sem.run_pure, Oper.stillUpon_value]; refine hK7 _ ?_; clear hK7 K7
                      refine wpStill_step (fun K7 hK7 => ?_); rw [if_pos (show Region.wanted _ _ = true from rfl)]; simp only [Oper.still, execOp, Sem.run_pure, Oper.stillUpon_value]; refine hK7 _ ?_; clear hK7 K7
                      refine wpStill_step (fun K7 hK7 => ?_); rw [if_pos (show Region.wanted _ _ = true from rfl)]; go_simp; refine hK7 _ ?_; clear hK7 K7
                      refine still_load_met rfl 81 (.tmp 71) rfl (ad.add (K * 2)) rfl (partC x) _ HC.out Tryd.underlying81 rfl (by kernel_rfl) ?_
                      refine wpStill_step (fun K7 hK7 => ?_); rw [if_pos (show Region.wanted _ _ = true from rfl)]; simp only [Oper.still, execOp, Sem.run_pure, Oper.stillUpon_value]; refine hK7 _ ?_; clear hK7 K7
                      refine wpStill_step (fun K7 hK7 => ?_); rw [if_pos (show Region.wanted _ _ = true from rfl)]; simp only [Oper.still, execOp, Sem.run_pure, Oper.stillUpon_value]; refine hK7 _ ?_; clear hK7 K7
                      refine wpStill_step (fun K7 hK7 => ?_); rw [if_pos (show Region.wanted _ _ = true from rfl)]; go_simp; refine hK7 _ ?_; clear hK7 K7
                      refine wpStill_nil ?_
                      change wpList _ _ _ _ _ wr.drew
                      have hD := hJ.drew
                      have HC2 : Hid (∀ j u, (partC x)[j]? = some u → wr.drew.cell? ((ad.add (K * 2)).add j) = some u) := Lib.hid HC.out
                      clear hJ hca HC k42
                      generalize wr.drew = w6 at *
                      have hl6 : w1.heap.size ≤ w6.heap.size := (hD.at_ 2 rfl : _ ∧ _).2
                      cases hf : fitB x name[ii] with
                      | false =>
                        rw [hf] at htk
                        have HFI := Lib.hid hf; clear hf
                        go_wp2_with (first
                          | (go_at_call 51; refine (htk _).mono ?_; clear htk; rintro e v5 ⟨rfl, hb5⟩; have hJ5 := hD.call hb5; have HC5 : Hid (∀ j u, (partC x)[j]? = some u → v5.cell? ((ad.add (K * 2)).add j) = some u) := Lib.hid (fun j u hu => (hb5.cell (by rw [add_block, add_block]; omega)).trans (HC2.out j u hu))))
                        rw [bc_congr (fun i (_ : i < xs.length + 1) => (preK_skip (by rw [HE.out, HFT.out, HFI.out]; rfl) i).symm)] at hJ5
                        exact ⟨⟨K + 1, by go_num, by omega, hJ5⟩, by simp [intOf]; omega⟩
                      | true =>
                        rw [hf] at htk
                        have HFI := Lib.hid hf; clear hf
                        cases hr : repB x with
                        | true =>
                          rw [hr] at hlong
                          have HR := Lib.hid hr; clear hr
                          go_wp2_with (first
                            | (go_at_call 51; refine (htk _).mono ?_; clear htk; rintro e v5 ⟨rfl, hb5⟩; have hJ5 := hD.call hb5; have HC5 : Hid (∀ j u, (partC x)[j]? = some u → v5.cell? ((ad.add (K * 2)).add j) = some u) := Lib.hid (fun j u hu => (hb5.cell (by rw [add_block, add_block]; omega)).trans (HC2.out j u hu)))
                            | (refine wl_load_any rfl 81 (.tmp 80) rfl (ad.add (K * 2)) rfl (partC x) _ HC5.out Tryd.underlying81 rfl (by kernel_rfl) ?_)
                            | (go_at_call 50; refine (hlong _).mono ?_; clear hlong; rintro e v6 ⟨rfl, hb6⟩; have hJ6 := hJ5.call hb6)
                            | (refine wl_set1 hJ6 0 rfl 4 (.tmp 85) (.const (.bool true)) rfl wo.heap.size 4 _ K (.bool true) rfl rfl rfl (by rw [bc_len]; omega) (by kernel_rfl) rfl (by simp [Apart, Res.apart, Low.els] <;> omega) ?_; intro w9 hJ9 hs9; simp only [List.set_cons_zero] at hJ9))
                          rw [bc_set, bc_congr (fun i (_ : i < xs.length + 1) => (preK_long (by rw [HE.out, HFT.out, HFI.out]; rfl) (by rw [HRT.out, HR.out]) i).symm)] at hJ9
                          exact ⟨⟨K + 1, by go_num, by omega, hJ9⟩, by simp [intOf]; omega⟩
                        | false =>
                          rw [hr] at hlong
                          have HR := Lib.hid hr; clear hr
                          go_wp2_with (first
                            | (go_at_call 51; refine (htk _).mono ?_; clear htk; rintro e v5 ⟨rfl, hb5⟩; have hJ5 := hD.call hb5; have HC5 : Hid (∀ j u, (partC x)[j]? = some u → v5.cell? ((ad.add (K * 2)).add j) = some u) := Lib.hid (fun j u hu => (hb5.cell (by rw [add_block, add_block]; omega)).trans (HC2.out j u hu)))
                            | (refine wl_load_any rfl 81 (.tmp 80) rfl (ad.add (K * 2)) rfl (partC x) _ HC5.out Tryd.underlying81 rfl (by kernel_rfl) ?_)
                            | (go_at_call 50; refine (hlong _).mono ?_; clear hlong; rintro e v6 ⟨rfl, hb6⟩; have hJ6 := hJ5.call hb6)
                            | (refine wl_set1 hJ6 0 rfl 4 (.tmp 89) (.const (.bool true)) rfl wo.heap.size 4 _ (K + 1) (.bool true) rfl rfl rfl (by rw [bc_len]; omega) (by kernel_rfl) rfl (by simp [Apart, Res.apart, Low.els] <;> omega) ?_; intro w9 hJ9 hs9; simp only [List.set_cons_zero] at hJ9))
                          rw [bc_set, bc_congr (fun i (_ : i < xs.length + 1) => (preK_short (by rw [HE.out, HFT.out, HFI.out]; rfl) (by rw [HRT.out, HR.out]) i).symm)] at hJ9
                          exact ⟨⟨K + 1, by go_num, by omega, hJ9⟩, by simp [intOf]; omega⟩
                  · have k0 : decide ((K : Int) < (xs.length : Int)) = false := by simp; omega
                    obtain rfl : K = xs.length := by omega
                    rw [bc_congr (fun i (hi : i < xs.length + 1) => (postK_zero name.data.toList xs ii name[ii] HB.out i (by omega)).symm)] at hJ
                    have hX4 := hJ
                    clear hJ hK
                    go_wp2_with fail
                    go_loopw [12] (fun t wq => ∃ K : Nat, t = .int .i64 K ∧ K ≤ xs.length ∧ All wq [.cells wo.heap.size 4 (bc (xs.length + 1) (postK name.data.toList xs ii name[ii] K)), .cells g 4 (bc (xs.length + 1) (colE name.data.toList xs ii)), .low (.els w1.heap.size 2 A xs.length (xs.map partC)), .kept w w.heap.size]) (fun t _ => xs.length - (intOf t).toNat)
                    case atStart => exact ⟨0, rfl, Nat.zero_le _, hX4⟩
                    case round =>
                      clear hX4
                      obtain ⟨K, rfl, hK, hJ⟩ := hrel
                      by_cases hKl : K < xs.length
                      · have k0' : decide ((K : Int) < (xs.length : Int)) = true := by simp; omega
                        have k1 : IntKind.i64.wrap ((K : Int) + 1) = ((K + 1 : Nat) : Int) := by rw [IntWalk.i64_in _ (by omega)]; omega
                        have k2 : (0 : Int) ≤ (K : Int) := by omega
                        have k3 : (K : Int) < (xs.length : Int) := by omega
                        have k4 : (K : Int) < ((xs.length + 1 : Nat) : Int) := by omega
                        have k5 : ((K + 1 : Nat) : Int) < ((xs.length + 1 : Nat) : Int) := by omega
                        have k6 : (0 : Int) ≤ ((K + 1 : Nat) : Int) := by omega
                        have k7 : ((K + 1 : Nat) : Int).toNat = K + 1 := by omega
                        have k8 : (K : Int).toNat = K := by omega
                        have hl3 : w1.heap.size ≤ wr.heap.size := (hJ.at_ 2 rfl : _ ∧ _).2
                        have hkl : Hid (xs[K]? = some xs[K]) := Lib.hid (List.getElem?_eq_getElem hKl)
                        have hx3 := Lib.hid (HX3.out _ (List.getElem_mem hKl))
                        obtain ⟨ad, hA, hadB, hc⟩ := Els.elem (hJ.at_ 2 rfl : Els wr w1.heap.size 2 A xs.length (xs.map partC) ∧ w1.heap.size ≤ wr.heap.size).1 hKl
                        subst hA
                        have HC := Lib.hid hc
                        clear hc
                        generalize xs[K] = x at *
                        have hlong := fun W => long_any x W hx3.out
                        cases hE : postK name.data.toList xs ii name[ii] K K with
                        | false =>
                          have HE := Lib.hid hE; clear hE
                          have hca : wr.cell? ⟨wo.heap.size, K, none⟩ = some (.bool false) := bc_cell (hJ.at_ 0 rfl) (i := K) (by omega) HE.out
                          go_wp2_with fail
                          rw [bc_congr (fun i (_ : i < xs.length + 1) => (postK_skip HB.out hkl.out (by rw [HE.out]; rfl) i).symm)] at hJ
                          exact ⟨⟨K + 1, by go_num, by omega, hJ⟩, by simp [intOf]; omega⟩
                        | true =>
                          have HE := Lib.hid hE; clear hE
                          have hca : wr.cell? ⟨wo.heap.size, K, none⟩ = some (.bool true) := bc_cell (hJ.at_ 0 rfl) (i := K) (by omega) HE.out
                          cases hr : repB x with
                          | true =>
                            rw [hr] at hlong
                            have HR := Lib.hid hr; clear hr
                            go_wp2_with (first
                              | (refine wl_load_met rfl 81 (.tmp 103) rfl (ad.add (K * 2)) rfl (partC x) _ HC.out Tryd.underlying81 rfl (by kernel_rfl) ?_)
                              | (go_at_call 50; refine (hlong _).mono ?_; clear hlong; rintro e v6 ⟨rfl, hb6⟩; have hJ6 := hJ.call hb6)
                              | (refine wl_set1 hJ6 0 rfl 4 (.tmp 110) (.const (.bool true)) rfl wo.heap.size 4 _ (K + 1) (.bool true) rfl rfl rfl (by rw [bc_len]; omega) (by kernel_rfl) rfl (by simp [Apart, Res.apart, Low.els] <;> omega) ?_; intro w9 hJ9 hs9; simp only [List.set_cons_zero] at hJ9))
                            rw [bc_set, bc_congr (fun i (_ : i < xs.length + 1) => (postK_step HB.out hkl.out (by rw [HE.out, HR.out]; rfl) i).symm)] at hJ9
                            exact ⟨⟨K + 1, by go_num, by omega, hJ9⟩, by simp [intOf]; omega⟩
                          | false =>
                            rw [hr] at hlong
                            have HR := Lib.hid hr; clear hr
                            go_wp2_with (first
                              | (refine wl_load_met rfl 81 (.tmp 103) rfl (ad.add (K * 2)) rfl (partC x) _ HC.out Tryd.underlying81 rfl (by kernel_rfl) ?_)
                              | (go_at_call 50; refine (hlong _).mono ?_; clear hlong; rintro e v6 ⟨rfl, hb6⟩; have hJ6 := hJ.call hb6))
                            rw [bc_congr (fun i (_ : i < xs.length + 1) => (postK_skip HB.out hkl.out (by rw [HE.out, HR.out]; rfl) i).symm)] at hJ6
                            exact ⟨⟨K + 1, by go_num, by omega, hJ6⟩, by simp [intOf]; omega⟩
                      · have k0' : decide ((K : Int) < (xs.length : Int)) = false := by simp; omega
                        have hq : bc (xs.length + 1) (postK name.data.toList xs ii name[ii] K) = bc (xs.length + 1) (colE name.data.toList xs (ii + 1)) := bc_congr (fun i hi => if_pos (by omega))
                        rw [hq] at hJ
                        clear hq
                        go_wp2_with fail
                        exact ⟨⟨wo.heap.size, ii + 1, rfl, by go_num, by omega, hJ.at_ 0 rfl, hJ.at_ 2 rfl, hJ.at_ 3 rfl, trivial⟩, by simp [intOf]; omega⟩
              · have e0 : decide ((ii : Int) < (name.size : Int)) = false := by simp; omega
                have HV : Hid (colE name.data.toList xs ii xs.length = matchB name.data.toList xs) := Lib.hid (by
                  have hl : name.data.toList.length = name.size := Array.length_toList
                  obtain rfl : ii = name.data.toList.length := by omega
                  exact col_end _ _)
                have hca := bc_cell (hI.at_ 0 rfl) (i := xs.length) (by omega) rfl
                have e5 : (xs.length : Int) < ((xs.length + 1 : Nat) : Int) := by omega
                have e6 : (0 : Int) ≤ (xs.length : Int) := by omega
                have e7 : (xs.length : Int).toNat = xs.length := by omega
                go_wp2_with fail
                go_ret
                rw [HF.out, ← HV.out]
                exact ⟨rfl, (hI.at_ 2 rfl : _ ∧ _).1⟩
        · have d0 : decide ((k : Int) < (xs.length : Int)) = false := by simp; omega
          have HST : Hid (repAt xs k = false) := Lib.hid (repAt_none (by omega))
          go_wp2_with fail
          have hX := hI
          clear hI hlt d0
          have HS := Lib.hid (bc_congr (n := xs.length + 1) (fun i (hi : i < xs.length + 1) => col0_le name.data.toList xs k HRP.out HST.out i (by omega)))
          rw [← HS.out] at hX
          clear HS HRP HST wk1 wk2 wk3 hk
          go_loopw [7, 9] (fun v t wr => ∃ (g ii : Nat), v = .slice (some ⟨g, 0, none⟩) (xs.length + 1) (xs.length + 1) ∧ t = .int .i64 ii ∧ ii ≤ name.size ∧ All wr [.cells g 4 (bc (xs.length + 1) (colE name.data.toList xs ii)), .low (.els w1.heap.size 2 A xs.length (xs.map partC)), .kept w w.heap.size]) (fun _ t _ => name.size - (intOf t).toNat)
          case atStart => exact ⟨w2.heap.size, 0, rfl, rfl, Nat.zero_le _, hX⟩
          case round =>
            clear hX
            obtain ⟨g, ii, rfl, rfl, hii, hI⟩ := hrel
            by_cases hil : ii < name.size
            · have HB : Hid (name.data.toList.getD ii 0 = name[ii]) := Lib.hid (by rw [List.getD_eq_getElem?_getD, ba_at name hil]; rfl)
              have e0 : decide ((ii : Int) < (name.size : Int)) = true := by simp; omega
              have e1 : IntKind.i64.wrap ((ii : Int) + 1) = ((ii + 1 : Nat) : Int) := by rw [IntWalk.i64_in _ (by omega)]; omega
              have e2 : (0 : Int) ≤ (ii : Int) := by omega
              have e3 : (ii : Int) < (name.size : Int) := by omega
              have e4 : (ii : Int).toNat = ii := by omega
              have hsz : w1.heap.size ≤ wr.heap.size := (hI.at_ 1 rfl : _ ∧ _).2
              have hszw : w.heap.size ≤ wr.heap.size := (hI.at_ 2 rfl : _ ∧ _).2
              have hgl : g < wr.heap.size := Cells.lt (hI.at_ 0 rfl)
              go_wp2_with (first
                | (refine wl_mk el_bools hI rfl (.tmp 56) (.tmp 56) rfl (xs.length + 1) (xs.length + 1) rfl rfl (Nat.le_refl _) (by omega) ?_; intro w7 hI7 hs7; rw [bc_made] at hI7))
              obtain ⟨wo, rfl⟩ : ∃ wo : World, wo = wr := ⟨wr, rfl⟩
              go_loopw [11] (fun t wq => ∃ K : Nat, t = .int .i64 K ∧ K ≤ xs.length ∧ All wq [.cells wo.heap.size 4 (bc (xs.length + 1) (preK name.data.toList xs ii name[ii] K)), .cells g 4 (bc (xs.length + 1) (colE name.data.toList xs ii)), .low (.els w1.heap.size 2 A xs.length (xs.map partC)), .kept w w.heap.size]) (fun t _ => xs.length - (intOf t).toNat)
              case atStart =>
                rw [bc_congr (fun i (_ : i < xs.length + 1) => (preK_zero name.data.toList xs ii name[ii] i).symm)] at hI7
                exact ⟨0, rfl, Nat.zero_le _, hI7⟩
              case round =>
                clear hI7 hI
                obtain ⟨K, rfl, hK, hJ⟩ := hrel
                by_cases hKl : K < xs.length
                · have k0 : decide ((K : Int) < (xs.length : Int)) = true := by simp; omega
                  have k1 : IntKind.i64.wrap ((K : Int) + 1) = ((K + 1 : Nat) : Int) := by rw [IntWalk.i64_in _ (by omega)]; omega
                  have k2 : (0 : Int) ≤ (K : Int) := by omega
                  have k3 : (K : Int) < (xs.length : Int) := by omega
                  have k4 : (K : Int) < ((xs.length + 1 : Nat) : Int) := by omega
                  have k5 : ((K + 1 : Nat) : Int) < ((xs.length + 1 : Nat) : Int) := by omega
                  have k6 : (0 : Int) ≤ ((K + 1 : Nat) : Int) := by omega
                  have k7 : ((K + 1 : Nat) : Int).toNat = K + 1 := by omega
                  have k8 : (K : Int).toNat = K := by omega
                  have hl3 : w1.heap.size ≤ wr.heap.size := (hJ.at_ 2 rfl : _ ∧ _).2
                  have hkl : Hid (xs[K]? = some xs[K]) := Lib.hid (List.getElem?_eq_getElem hKl)
                  have hx3 := Lib.hid (HX3.out _ (List.getElem_mem hKl))
                  obtain ⟨ad, hA, hadB, hc⟩ := Els.elem (hJ.at_ 2 rfl : Els wr w1.heap.size 2 A xs.length (xs.map partC) ∧ w1.heap.size ≤ wr.heap.size).1 hKl
                  subst hA
                  have HC := Lib.hid hc
                  clear hc
                  generalize xs[K] = x at *
                  have HFT := Lib.hid (fitAt_some name[ii] hkl.out)
                  have HRT := Lib.hid (repAt_some hkl.out)
                  have htk := fun W => takes_any x name[ii] W hx3.out
                  have hlong := fun W => long_any x W hx3.out
                  cases hE : colE name.data.toList xs ii K with
                  | false =>
                    have HE := Lib.hid hE; clear hE
                    have hca : wr.cell? ⟨g, K, none⟩ = some (.bool false) := bc_cell (hJ.at_ 1 rfl) (i := K) (by omega) HE.out
                    go_upto_region 17 with (fail)
                    have k42 : (K : Int) < (xs.length : Int) + 1 := by omega
                    go_quiet (fail)
                    have hD := hJ.drew
                    clear hca k42
                    rw [bc_congr (fun i (_ : i < xs.length + 1) => (preK_skip (by rw [HE.out]; rfl) i).symm)] at hJ hD
                    go_wp2_with fail
                    first | exact ⟨⟨K + 1, by go_num, by omega, hJ.drewN _⟩, by simp [intOf]; omega⟩ | exact ⟨⟨K + 1, by go_num, by omega, hD⟩, by simp [intOf]; omega⟩ | exact ⟨⟨K + 1, by go_num, by omega, hJ.drewN _⟩, by simp [intOf]; omega⟩
                  | true =>
                    have HE := Lib.hid hE; clear hE
                    have hca : wr.cell? ⟨g, K, none⟩ = some (.bool true) := bc_cell (hJ.at_ 1 rfl) (i := K) (by omega) HE.out
                    go_upto_region 17 with (fail)
                    have k42 : (K : Int) < (xs.length : Int) + 1 := by omega
                    refine wp_region_still_tail 12 (by kernel_rfl) (by kernel_rfl) ?_
                    simp only [List.take_succ_cons, List.take_zero, List.drop_succ_cons, List.drop_zero]
                    still_step
                    still_step
                    still_step
                    still_step
                    refine wpStill_step (fun K7 hK7 => ?_); rw [if_pos (show Region.wanted _ _ = true from rfl)]; simp only [Oper.still, execOp, Sem.run_pure, Oper.stillUpon_value]; refine hK7 _ ?_; clear hK7 K7
                    refine wpStill_step (fun K7 hK7 => ?_); rw [if_pos (show Region.wanted _ _ = true from rfl)]; simp only [Oper.still, execOp, Sem.run_pure, Oper.stillUpon_value]; refine hK7 _ ?_; clear hK7 K7
                    refine wpStill_step (fun K7 hK7 => ?_); rw [if_pos (show Region.wanted _ _ = true from rfl)]; simp only [Oper.still, execOp, Sem.run_pure, Oper.stillUpon_value]; refine hK7 _ ?_; clear hK7 K7
                    refine wpStill_step (fun K7 hK7 => ?_); rw [if_pos (show Region.wanted _ _ = true from rfl)]; go_simp; refine hK7 _ ?_; clear hK7 K7
                    refine still_load_met rfl 81 (.tmp 71) rfl (ad.add (K * 2)) rfl (partC x) _ HC.out Tryd.underlying81 rfl (by kernel_rfl) ?_
                    refine wpStill_step (fun K7 hK7 => ?_); rw [if_pos (show Region.wanted _ _ = true from rfl)]; simp only [Oper.still, execOp, Sem.run_pure, Oper.stillUpon_value]; refine hK7 _ ?_; clear hK7 K7
                    refine wpStill_step (fun K7 hK7 => ?_); rw [if_pos (show Region.wanted _ _ = true from rfl)]; simp only [Oper.still, execOp, Sem.run_pure, Oper.stillUpon_value]; refine hK7 _ ?_; clear hK7 K7
                    refine wpStill_step (fun K7 hK7 => ?_); rw [if_pos (show Region.wanted _ _ = true from rfl)]; go_simp; refine hK7 _ ?_; clear hK7 K7
                    refine wpStill_nil ?_
                    change wpList _ _ _ _ _ wr.drew
                    have hD := hJ.drew
                    have HC2 : Hid (∀ j u, (partC x)[j]? = some u → wr.drew.cell? ((ad.add (K * 2)).add j) = some u) := Lib.hid HC.out
                    clear hJ hca HC k42
                    generalize wr.drew = w6 at *
                    have hl6 : w1.heap.size ≤ w6.heap.size := (hD.at_ 2 rfl : _ ∧ _).2
                    cases hf : fitB x name[ii] with
                    | false =>
                      rw [hf] at htk
                      have HFI := Lib.hid hf; clear hf
                      go_wp2_with (first
                        | (go_at_call 51; refine (htk _).mono ?_; clear htk; rintro e v5 ⟨rfl, hb5⟩; have hJ5 := hD.call hb5; have HC5 : Hid (∀ j u, (partC x)[j]? = some u → v5.cell? ((ad.add (K * 2)).add j) = some u) := Lib.hid (fun j u hu => (hb5.cell (by rw [add_block, add_block]; omega)).trans (HC2.out j u hu))))
                      rw [bc_congr (fun i (_ : i < xs.length + 1) => (preK_skip (by rw [HE.out, HFT.out, HFI.out]; rfl) i).symm)] at hJ5
                      exact ⟨⟨K + 1, by go_num, by omega, hJ5⟩, by simp [intOf]; omega⟩
                    | true =>
                      rw [hf] at htk
                      have HFI := Lib.hid hf; clear hf
                      cases hr : repB x with
                      | true =>
                        rw [hr] at hlong
                        have HR := Lib.hid hr; clear hr
                        go_wp2_with (first
                          | (go_at_call 51; refine (htk _).mono ?_; clear htk; rintro e v5 ⟨rfl, hb5⟩; have hJ5 := hD.call hb5; have HC5 : Hid (∀ j u, (partC x)[j]? = some u → v5.cell? ((ad.add (K * 2)).add j) = some u) := Lib.hid (fun j u hu => (hb5.cell (by rw [add_block, add_block]; omega)).trans (HC2.out j u hu)))
                          | (refine wl_load_any rfl 81 (.tmp 80) rfl (ad.add (K * 2)) rfl (partC x) _ HC5.out Tryd.underlying81 rfl (by kernel_rfl) ?_)
                          | (go_at_call 50; refine (hlong _).mono ?_; clear hlong; rintro e v6 ⟨rfl, hb6⟩; have hJ6 := hJ5.call hb6)
                          | (refine wl_set1 hJ6 0 rfl 4 (.tmp 85) (.const (.bool true)) rfl wo.heap.size 4 _ K (.bool true) rfl rfl rfl (by rw [bc_len]; omega) (by kernel_rfl) rfl (by simp [Apart, Res.apart, Low.els] <;> omega) ?_; intro w9 hJ9 hs9; simp only [List.set_cons_zero] at hJ9))
                        rw [bc_set, bc_congr (fun i (_ : i < xs.length + 1) => (preK_long (by rw [HE.out, HFT.out, HFI.out]; rfl) (by rw [HRT.out, HR.out]) i).symm)] at hJ9
                        exact ⟨⟨K + 1, by go_num, by omega, hJ9⟩, by simp [intOf]; omega⟩
                      | false =>
                        rw [hr] at hlong
                        have HR := Lib.hid hr; clear hr
                        go_wp2_with (first
                          | (go_at_call 51; refine (htk _).mono ?_; clear htk; rintro e v5 ⟨rfl, hb5⟩; have hJ5 := hD.call hb5; have HC5 : Hid (∀ j u, (partC x)[j]? = some u → v5.cell? ((ad.add (K * 2)).add j) = some u) := Lib.hid (fun j u hu => (hb5.cell (by rw [add_block, add_block]; omega)).trans (HC2.out j u hu)))
                          | (refine wl_load_any rfl 81 (.tmp 80) rfl (ad.add (K * 2)) rfl (partC x) _ HC5.out Tryd.underlying81 rfl (by kernel_rfl) ?_)
                          | (go_at_call 50; refine (hlong _).mono ?_; clear hlong; rintro e v6 ⟨rfl, hb6⟩; have hJ6 := hJ5.call hb6)
                          | (refine wl_set1 hJ6 0 rfl 4 (.tmp 89) (.const (.bool true)) rfl wo.heap.size 4 _ (K + 1) (.bool true) rfl rfl rfl (by rw [bc_len]; omega) (by kernel_rfl) rfl (by simp [Apart, Res.apart, Low.els] <;> omega) ?_; intro w9 hJ9 hs9; simp only [List.set_cons_zero] at hJ9))
                        rw [bc_set, bc_congr (fun i (_ : i < xs.length + 1) => (preK_short (by rw [HE.out, HFT.out, HFI.out]; rfl) (by rw [HRT.out, HR.out]) i).symm)] at hJ9
                        exact ⟨⟨K + 1, by go_num, by omega, hJ9⟩, by simp [intOf]; omega⟩
                · have k0 : decide ((K : Int) < (xs.length : Int)) = false := by simp; omega
                  obtain rfl : K = xs.length := by omega
                  rw [bc_congr (fun i (hi : i < xs.length + 1) => (postK_zero name.data.toList xs ii name[ii] HB.out i (by omega)).symm)] at hJ
                  have hX4 := hJ
                  clear hJ hK
                  go_wp2_with fail
                  go_loopw [12] (fun t wq => ∃ K : Nat, t = .int .i64 K ∧ K ≤ xs.length ∧ All wq [.cells wo.heap.size 4 (bc (xs.length + 1) (postK name.data.toList xs ii name[ii] K)), .cells g 4 (bc (xs.length + 1) (colE name.data.toList xs ii)), .low (.els w1.heap.size 2 A xs.length (xs.map partC)), .kept w w.heap.size]) (fun t _ => xs.length - (intOf t).toNat)
                  case atStart => exact ⟨0, rfl, Nat.zero_le _, hX4⟩
                  case round =>
                    clear hX4
                    obtain ⟨K, rfl, hK, hJ⟩ := hrel
                    by_cases hKl : K < xs.length
                    · have k0' : decide ((K : Int) < (xs.length : Int)) = true := by simp; omega
                      have k1 : IntKind.i64.wrap ((K : Int) + 1) = ((K + 1 : Nat) : Int) := by rw [IntWalk.i64_in _ (by omega)]; omega
                      have k2 : (0 : Int) ≤ (K : Int) := by omega
                      have k3 : (K : Int) < (xs.length : Int) := by omega
                      have k4 : (K : Int) < ((xs.length + 1 : Nat) : Int) := by omega
                      have k5 : ((K + 1 : Nat) : Int) < ((xs.length + 1 : Nat) : Int) := by omega
                      have k6 : (0 : Int) ≤ ((K + 1 : Nat) : Int) := by omega
                      have k7 : ((K + 1 : Nat) : Int).toNat = K + 1 := by omega
                      have k8 : (K : Int).toNat = K := by omega
                      have hl3 : w1.heap.size ≤ wr.heap.size := (hJ.at_ 2 rfl : _ ∧ _).2
                      have hkl : Hid (xs[K]? = some xs[K]) := Lib.hid (List.getElem?_eq_getElem hKl)
                      have hx3 := Lib.hid (HX3.out _ (List.getElem_mem hKl))
                      obtain ⟨ad, hA, hadB, hc⟩ := Els.elem (hJ.at_ 2 rfl : Els wr w1.heap.size 2 A xs.length (xs.map partC) ∧ w1.heap.size ≤ wr.heap.size).1 hKl
                      subst hA
                      have HC := Lib.hid hc
                      clear hc
                      generalize xs[K] = x at *
                      have hlong := fun W => long_any x W hx3.out
                      cases hE : postK name.data.toList xs ii name[ii] K K with
                      | false =>
                        have HE := Lib.hid hE; clear hE
                        have hca : wr.cell? ⟨wo.heap.size, K, none⟩ = some (.bool false) := bc_cell (hJ.at_ 0 rfl) (i := K) (by omega) HE.out
                        go_wp2_with fail
                        rw [bc_congr (fun i (_ : i < xs.length + 1) => (postK_skip HB.out hkl.out (by rw [HE.out]; rfl) i).symm)] at hJ
                        exact ⟨⟨K + 1, by go_num, by omega, hJ⟩, by simp [intOf]; omega⟩
                      | true =>
                        have HE := Lib.hid hE; clear hE
                        have hca : wr.cell? ⟨wo.heap.size, K, none⟩ = some (.bool true) := bc_cell (hJ.at_ 0 rfl) (i := K) (by omega) HE.out
                        cases hr : repB x with
                        | true =>
                          rw [hr] at hlong
                          have HR := Lib.hid hr; clear hr
                          go_wp2_with (first
                            | (refine wl_load_met rfl 81 (.tmp 103) rfl (ad.add (K * 2)) rfl (partC x) _ HC.out Tryd.underlying81 rfl (by kernel_rfl) ?_)
                            | (go_at_call 50; refine (hlong _).mono ?_; clear hlong; rintro e v6 ⟨rfl, hb6⟩; have hJ6 := hJ.call hb6)
                            | (refine wl_set1 hJ6 0 rfl 4 (.tmp 110) (.const (.bool true)) rfl wo.heap.size 4 _ (K + 1) (.bool true) rfl rfl rfl (by rw [bc_len]; omega) (by kernel_rfl) rfl (by simp [Apart, Res.apart, Low.els] <;> omega) ?_; intro w9 hJ9 hs9; simp only [List.set_cons_zero] at hJ9))
                          rw [bc_set, bc_congr (fun i (_ : i < xs.length + 1) => (postK_step HB.out hkl.out (by rw [HE.out, HR.out]; rfl) i).symm)] at hJ9
                          exact ⟨⟨K + 1, by go_num, by omega, hJ9⟩, by simp [intOf]; omega⟩
                        | false =>
                          rw [hr] at hlong
                          have HR := Lib.hid hr; clear hr
                          go_wp2_with (first
                            | (refine wl_load_met rfl 81 (.tmp 103) rfl (ad.add (K * 2)) rfl (partC x) _ HC.out Tryd.underlying81 rfl (by kernel_rfl) ?_)
                            | (go_at_call 50; refine (hlong _).mono ?_; clear hlong; rintro e v6 ⟨rfl, hb6⟩; have hJ6 := hJ.call hb6))
                          rw [bc_congr (fun i (_ : i < xs.length + 1) => (postK_skip HB.out hkl.out (by rw [HE.out, HR.out]; rfl) i).symm)] at hJ6
                          exact ⟨⟨K + 1, by go_num, by omega, hJ6⟩, by simp [intOf]; omega⟩
                    · have k0' : decide ((K : Int) < (xs.length : Int)) = false := by simp; omega
                      have hq : bc (xs.length + 1) (postK name.data.toList xs ii name[ii] K) = bc (xs.length + 1) (colE name.data.toList xs (ii + 1)) := bc_congr (fun i hi => if_pos (by omega))
                      rw [hq] at hJ
                      clear hq
                      go_wp2_with fail
                      exact ⟨⟨wo.heap.size, ii + 1, rfl, by go_num, by omega, hJ.at_ 0 rfl, hJ.at_ 2 rfl, hJ.at_ 3 rfl, trivial⟩, by simp [intOf]; omega⟩
            · have e0 : decide ((ii : Int) < (name.size : Int)) = false := by simp; omega
              have HV : Hid (colE name.data.toList xs ii xs.length = matchB name.data.toList xs) := Lib.hid (by
                have hl : name.data.toList.length = name.size := Array.length_toList
                obtain rfl : ii = name.data.toList.length := by omega
                exact col_end _ _)
              have hca := bc_cell (hI.at_ 0 rfl) (i := xs.length) (by omega) rfl
              have e5 : (xs.length : Int) < ((xs.length + 1 : Nat) : Int) := by omega
              have e6 : (0 : Int) ≤ (xs.length : Int) := by omega
              have e7 : (xs.length : Int).toNat = xs.length := by omega
              go_wp2_with fail
              go_ret
              rw [HF.out, ← HV.out]
              exact ⟨rfl, (hI.at_ 2 rfl : _ ∧ _).1⟩
end Go.Proofs.YtipepcjiogifaaaDoor

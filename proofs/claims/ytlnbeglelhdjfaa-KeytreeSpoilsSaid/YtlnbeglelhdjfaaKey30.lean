/- The law KeytreeChecks. -/
import Derived.Test.YtlnbeglelhdjfaaKey29
set_option linter.unusedSimpArgs false
set_option linter.unusedVariables false
namespace Go.Proofs.Ytlnbeglelhdjfaa
open Go Go.RowKit Go.Adm

theorem refVerify_at (w : World) (B : Nat) (h leaf : Int) (root d : List UInt8) (chain path : List (List UInt8)) (Ac : Option Addr) (nc cc : Nat) (Ap : Option Addr) (np cp : Nat) (hnc : chain.length = nc) (hnp : path.length = np) (hr : root.length = 16) (hd : d.length = 32)
    (hc : Els w B 16 Ac nc (hvs chain)) (hc16 : ∀ x ∈ chain, x.length = 16) (hp : Els w B 16 Ap np (hvs path)) (hp16 : ∀ x ∈ path, x.length = 16) (hB : B ≤ w.heap.size) :
    Calls Try.prog 17 #[.agg (pkCells h root).toArray, .agg (d.map bv).toArray, .agg (sgCells leaf Ac nc cc Ap np cp).toArray] w fun e w' => e = .returned (.bool (verifyB h leaf root d chain path)) ∧ Below w.heap.size w w' := by
  subst hnc hnp
  exact refVerify_any w B h leaf root d chain path Ac cc Ap cp hr hd hc hc16 hp hp16 hB
set_option maxRecDepth 100000 in
set_option maxHeartbeats 3200000 in
theorem walkChecks (w : World) (B : Nat) (h leaf : Int) (root d : List UInt8) (chain path : List (List UInt8)) (Ac : Option Addr) (nc cc : Nat) (Ap : Option Addr) (np cp : Nat) (hnc : chain.length = nc) (hnp : path.length = np) (hr : root.length = 16) (hd : d.length = 32)
    (hc : Els w B 16 Ac nc (hvs chain)) (hc16 : ∀ x ∈ chain, x.length = 16) (hp : Els w B 16 Ap np (hvs path)) (hp16 : ∀ x ∈ path, x.length = 16) (hB : B ≤ w.heap.size) :
    Calls Try.prog 5 #[.agg (pkCells h root).toArray, .agg (d.map bv).toArray, .agg (sgCells leaf Ac nc cc Ap np cp).toArray] w fun e w' => e = .returned (.bool true) ∧ Below w.heap.size w w' := by
  have hR : All w [.low (.els B 16 Ac nc (hvs chain)), .low (.els B 16 Ap np (hvs path)), .kept w w.heap.size] := ⟨⟨hc, hB⟩, ⟨hp, hB⟩, ⟨Below.refl _ _, Nat.le_refl _⟩, trivial⟩
  have hrl := Lib.hid hr
  have hdl := Lib.hid hd
  have HC16 := Lib.hid hc16
  have HP16 := Lib.hid hp16
  have HNC := Lib.hid hnc
  have HNP := Lib.hid hnp
  clear hr hd hc hc16 hp hp16 hnc hnp
  go_enter Try.func5, Try.ntmps5
  go_upto_region 1 with (fail)
  refine wp_gen (((hR.new (pkCells h root).toArray 40 rfl rfl).new (d.map bv).toArray 27 (g := w.heap.size + 1) (by simp) rfl).new (sgCells leaf Ac nc cc Ap np cp).toArray 30 (g := w.heap.size + 1 + 1) (by simp) rfl) ?_
  intro W hI
  have cc1 : W.cell? ⟨w.heap.size + 1 + 1, 1, none⟩ = some (.slice Ac nc cc) := Cells.cell (hI.at_ 0 rfl) (i := 1) (by simp [sgCells])
  have cc2 : W.cell? ⟨w.heap.size + 1 + 1, 2, none⟩ = some (.slice Ap np cp) := Cells.cell (hI.at_ 0 rfl) (i := 2) (by simp [sgCells])
  by_cases q1 : 100 < nc
  · have d1 : decide ((100 : Int) < (nc : Int)) = true := by simp; omega
    clear q1
    go_wp2_with fail
    go_ret
    exact ⟨rfl, (hI.at_ 5 rfl).1⟩
  · have d1 : decide ((100 : Int) < (nc : Int)) = false := by simp; omega
    by_cases q2 : 20 < np
    · have d2 : decide ((20 : Int) < (np : Int)) = true := by simp; omega
      clear q1 q2
      go_wp2_with fail
      go_ret
      exact ⟨rfl, (hI.at_ 5 rfl).1⟩
    · have d2 : decide ((20 : Int) < (np : Int)) = false := by simp; omega
      clear q1 q2
      go_wp2_with fail
      clear cc1 cc2 d1 d2
      obtain ⟨s, hs⟩ : ∃ s, s = shapedB h leaf nc np := ⟨_, rfl⟩
      obtain ⟨v, hv⟩ : ∃ v, v = verifyB h leaf root d chain path := ⟨_, rfl⟩
      have HS : Hid (shapedB h leaf nc np = s) := Lib.hid hs.symm
      have HV : Hid (verifyB h leaf root d chain path = v) := Lib.hid hv.symm
      clear hs hv
      refine wp_region_hops 21 [17, 18, 19, 20, 21, 22, 23, 24, 25, 26, 27, 28, 29, 30, 31, 32, 33, 34, 35, 36, 37] _
        [.eq (.bool true), .eq (.bool true), .eq (.agg (pkCells h root).toArray), .eq (.agg (sgCells leaf Ac nc cc Ap np cp).toArray), .eq (.bool s), .eq (.agg (pkCells h root).toArray), .eq (.agg (sgCells leaf Ac nc cc Ap np cp).toArray), .eq (.bool s), .eq (.bool true), .eq (.bool true), .eq (.bool true), .eq (.agg (pkCells h root).toArray), .eq (.agg (d.map bv).toArray), .eq (.agg (sgCells leaf Ac nc cc Ap np cp).toArray), .eq (.bool v), .eq (.agg (pkCells h root).toArray), .eq (.agg (d.map bv).toArray), .eq (.agg (sgCells leaf Ac nc cc Ap np cp).toArray), .eq (.bool v), .eq (.bool true), .eq (.bool true)]
        (by kernel_rfl) (by kernel_rfl) hI rfl ?hops ?fin
      case hops =>
        refine ⟨?_, ?_, ?_, ?_, ?_, ?_, ?_, ?_, ?_, ?_, ?_, ?_, ?_, ?_, ?_, ?_, ?_, ?_, ?_, ?_, ?_, trivial⟩
        · intro a W hW hb hd K hK
          go_simp
          refine (awake_any W).mono ?_
          rintro e w' ⟨rfl, hb'⟩
          exact hK _ _ (grown_of_below hb') rfl
        · intro a W hW hb hd K hK
          have b17 : a.tmps[17]?.getD undef = _ := hd ⟨0, .data⟩ (by simp) rfl
          go_simp
          exact hK _ _ (World.grownBy.refl _ _) rfl
        · refine Or.inl ⟨fun v w h => h, ?_⟩
          intro a W hW hb hd K hK
          have b3 := hb 3 rfl
          refine wp_load_mid 40 (.tmp 3) rfl w.heap.size 0 (by simp [Act.eval, b3]) (pkCells h root) _ (Cells.range (hW.at_ 2 rfl)) Try.underlying40 rfl (by rw [pk_len _ _ hrl.out]; kernel_rfl) ?_
          exact hK _ _ (World.grownBy.refl _ _) rfl
        · refine Or.inl ⟨fun v w h => h, ?_⟩
          intro a W hW hb hd K hK
          have b5 := hb 5 rfl
          refine wp_load_mid 30 (.tmp 5) rfl (w.heap.size + 1 + 1) 0 (by simp [Act.eval, b5]) (sgCells leaf Ac nc cc Ap np cp) _ (Cells.range (hW.at_ 0 rfl)) Try.underlying30 rfl (by kernel_rfl) ?_
          exact hK _ _ (World.grownBy.refl _ _) rfl
        · refine Or.inl ⟨fun v w h => h, ?_⟩
          intro a W hW hb hd K hK
          have b19 : a.tmps[19]?.getD undef = _ := hd ⟨2, .data⟩ (by simp) rfl
          have b20 : a.tmps[20]?.getD undef = _ := hd ⟨3, .data⟩ (by simp) rfl
          go_simp
          refine (Shaped_any W root hrl.out leaf Ac nc cc Ap np cp h).mono ?_
          rintro e w' ⟨rfl, hb'⟩
          exact hK _ _ (grown_of_below hb') (congrArg Value.bool HS.out)
        · refine Or.inl ⟨fun v w h => h, ?_⟩
          intro a W hW hb hd K hK
          have b3 := hb 3 rfl
          refine wp_load_mid 40 (.tmp 3) rfl w.heap.size 0 (by simp [Act.eval, b3]) (pkCells h root) _ (Cells.range (hW.at_ 2 rfl)) Try.underlying40 rfl (by rw [pk_len _ _ hrl.out]; kernel_rfl) ?_
          exact hK _ _ (World.grownBy.refl _ _) rfl
        · refine Or.inl ⟨fun v w h => h, ?_⟩
          intro a W hW hb hd K hK
          have b5 := hb 5 rfl
          refine wp_load_mid 30 (.tmp 5) rfl (w.heap.size + 1 + 1) 0 (by simp [Act.eval, b5]) (sgCells leaf Ac nc cc Ap np cp) _ (Cells.range (hW.at_ 0 rfl)) Try.underlying30 rfl (by kernel_rfl) ?_
          exact hK _ _ (World.grownBy.refl _ _) rfl
        · refine Or.inl ⟨fun v w h => h, ?_⟩
          intro a W hW hb hd K hK
          have b22 : a.tmps[22]?.getD undef = _ := hd ⟨5, .data⟩ (by simp) rfl
          have b23 : a.tmps[23]?.getD undef = _ := hd ⟨6, .data⟩ (by simp) rfl
          go_simp
          refine (refShaped_any W root hrl.out leaf Ac nc cc Ap np cp h).mono ?_
          rintro e w' ⟨rfl, hb'⟩
          exact hK _ _ (grown_of_below hb') (congrArg Value.bool HS.out)
        · refine Or.inl ⟨fun v w h => h, ?_⟩
          intro a W hW hb hd K hK
          have b21 : a.tmps[21]?.getD undef = _ := hd ⟨4, .data⟩ (by simp) rfl
          have b24 : a.tmps[24]?.getD undef = _ := hd ⟨7, .data⟩ (by simp) rfl
          go_simp
          exact hK _ _ (World.grownBy.refl _ _) rfl
        · intro a W hW hb hd K hK
          have b18 : a.tmps[18]?.getD undef = _ := hd ⟨1, .data⟩ (by simp) rfl
          have b25 : a.tmps[25]?.getD undef = _ := hd ⟨8, .data⟩ (by simp) rfl
          go_simp
          exact hK _ _ (World.grownBy.refl _ _) rfl
        · intro a W hW hb hd K hK
          have b26 : a.tmps[26]?.getD undef = _ := hd ⟨9, .data⟩ (by simp) rfl
          go_simp
          exact hK _ _ (World.grownBy.refl _ _) rfl
        · refine Or.inl ⟨fun v w h => h, ?_⟩
          intro a W hW hb hd K hK
          have b3 := hb 3 rfl
          refine wp_load_mid 40 (.tmp 3) rfl w.heap.size 0 (by simp [Act.eval, b3]) (pkCells h root) _ (Cells.range (hW.at_ 2 rfl)) Try.underlying40 rfl (by rw [pk_len _ _ hrl.out]; kernel_rfl) ?_
          exact hK _ _ (World.grownBy.refl _ _) rfl
        · refine Or.inl ⟨fun v w h => h, ?_⟩
          intro a W hW hb hd K hK
          have b4 := hb 4 rfl
          refine wp_load_mid 27 (.tmp 4) rfl (w.heap.size + 1) 0 (by simp [Act.eval, b4]) (d.map bv) _ (Cells.range (hW.at_ 1 rfl)) Try.underlying27 rfl (by rw [List.length_map, hdl.out]; kernel_rfl) ?_
          exact hK _ _ (World.grownBy.refl _ _) rfl
        · refine Or.inl ⟨fun v w h => h, ?_⟩
          intro a W hW hb hd K hK
          have b5 := hb 5 rfl
          refine wp_load_mid 30 (.tmp 5) rfl (w.heap.size + 1 + 1) 0 (by simp [Act.eval, b5]) (sgCells leaf Ac nc cc Ap np cp) _ (Cells.range (hW.at_ 0 rfl)) Try.underlying30 rfl (by kernel_rfl) ?_
          exact hK _ _ (World.grownBy.refl _ _) rfl
        · refine Or.inl ⟨fun v w h => h, ?_⟩
          intro a W hW hb hd K hK
          have b28 : a.tmps[28]?.getD undef = _ := hd ⟨11, .data⟩ (by simp) rfl
          have b29 : a.tmps[29]?.getD undef = _ := hd ⟨12, .data⟩ (by simp) rfl
          have b30 : a.tmps[30]?.getD undef = _ := hd ⟨13, .data⟩ (by simp) rfl
          go_simp
          refine (Verify_at W B h leaf root d chain path Ac nc cc Ap np cp HNC.out HNP.out hrl.out hdl.out (hW.at_ 3 rfl).1 HC16.out (hW.at_ 4 rfl).1 HP16.out (hW.at_ 3 rfl).2).mono ?_
          rintro e w' ⟨rfl, hb'⟩
          exact hK _ _ (grown_of_below hb') (congrArg Value.bool HV.out)
        · refine Or.inl ⟨fun v w h => h, ?_⟩
          intro a W hW hb hd K hK
          have b3 := hb 3 rfl
          refine wp_load_mid 40 (.tmp 3) rfl w.heap.size 0 (by simp [Act.eval, b3]) (pkCells h root) _ (Cells.range (hW.at_ 2 rfl)) Try.underlying40 rfl (by rw [pk_len _ _ hrl.out]; kernel_rfl) ?_
          exact hK _ _ (World.grownBy.refl _ _) rfl
        · refine Or.inl ⟨fun v w h => h, ?_⟩
          intro a W hW hb hd K hK
          have b4 := hb 4 rfl
          refine wp_load_mid 27 (.tmp 4) rfl (w.heap.size + 1) 0 (by simp [Act.eval, b4]) (d.map bv) _ (Cells.range (hW.at_ 1 rfl)) Try.underlying27 rfl (by rw [List.length_map, hdl.out]; kernel_rfl) ?_
          exact hK _ _ (World.grownBy.refl _ _) rfl
        · refine Or.inl ⟨fun v w h => h, ?_⟩
          intro a W hW hb hd K hK
          have b5 := hb 5 rfl
          refine wp_load_mid 30 (.tmp 5) rfl (w.heap.size + 1 + 1) 0 (by simp [Act.eval, b5]) (sgCells leaf Ac nc cc Ap np cp) _ (Cells.range (hW.at_ 0 rfl)) Try.underlying30 rfl (by kernel_rfl) ?_
          exact hK _ _ (World.grownBy.refl _ _) rfl
        · refine Or.inl ⟨fun v w h => h, ?_⟩
          intro a W hW hb hd K hK
          have b32 : a.tmps[32]?.getD undef = _ := hd ⟨15, .data⟩ (by simp) rfl
          have b33 : a.tmps[33]?.getD undef = _ := hd ⟨16, .data⟩ (by simp) rfl
          have b34 : a.tmps[34]?.getD undef = _ := hd ⟨17, .data⟩ (by simp) rfl
          go_simp
          refine (refVerify_at W B h leaf root d chain path Ac nc cc Ap np cp HNC.out HNP.out hrl.out hdl.out (hW.at_ 3 rfl).1 HC16.out (hW.at_ 4 rfl).1 HP16.out (hW.at_ 3 rfl).2).mono ?_
          rintro e w' ⟨rfl, hb'⟩
          exact hK _ _ (grown_of_below hb') (congrArg Value.bool HV.out)
        · refine Or.inl ⟨fun v w h => h, ?_⟩
          intro a W hW hb hd K hK
          have b31 : a.tmps[31]?.getD undef = _ := hd ⟨14, .data⟩ (by simp) rfl
          have b35 : a.tmps[35]?.getD undef = _ := hd ⟨18, .data⟩ (by simp) rfl
          go_simp
          exact hK _ _ (World.grownBy.refl _ _) rfl
        · intro a W hW hb hd K hK
          have b27 : a.tmps[27]?.getD undef = _ := hd ⟨10, .data⟩ (by simp) rfl
          have b36 : a.tmps[36]?.getD undef = _ := hd ⟨19, .data⟩ (by simp) rfl
          go_simp
          exact hK _ _ (World.grownBy.refl _ _) rfl
      case fin =>
        intro vs W hW hv
        have e20 : vs 20 = _ := hv 20 (by decide)
        have hk := (hW.at_ 5 rfl).1
        clear hv hI hW
        simp only [putAll, List.drop_succ_cons, List.drop_zero, e20, Act.put, List.setIfInBounds_toArray, List.set_cons_succ, List.set_cons_zero]
        clear e20
        go_wp2_with fail
        go_ret
        exact ⟨rfl, hk⟩

end Go.Proofs.Ytlnbeglelhdjfaa

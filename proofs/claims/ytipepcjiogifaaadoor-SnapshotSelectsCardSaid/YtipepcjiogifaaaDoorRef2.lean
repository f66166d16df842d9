/- fine, Valid and ValidChanges of the reference. -/
import Derived.Test.YtipepcjiogifaaaDoorRef1
import Derived.Test.YtipepcjiogifaaaDoorSnap3
set_option linter.unusedSimpArgs false
set_option linter.unusedVariables false
set_option maxRecDepth 100000
namespace Go.Adm
open Go Go.RowKit
theorem wl_met' {P : Program} {ops : Array Oper} {rest : List Oper} {o : Oper} {a : Act} {w : World} {Q : Exit → Act → World → Prop} (hw : Region.wanted o (yielded ops a.tmps) = true)
    (h : o.wp P a w (wpList P ops Q rest) Q) : wpList P ops Q (o :: rest) a w := by
  unfold wpList
  rw [if_pos hw]
  exact .inl h
theorem wp_neq {P : Program} {o : Oper} {a : Act} {w : World} {K : Act → World → Prop} {Q : Exit → Act → World → Prop} {t t2 : TypeId} (x y : Operand) (ho : o.op = .binOp .neq t x y t2) (v : Value)
    (h : (binOp .neq t (a.eval x) (a.eval y)).run P w = .ok v w) (hg : (eqGuard .neq t x y (a.eval x) (a.eval y)).run P w = .ok () w) (hk : K (a.put o.dst v) w) : o.wp P a w K Q := by
  unfold Oper.wp execOp
  simp only [ho, Sem.run_bind, hg, h, Result.andThen_ok]
  exact hk
end Go.Adm
namespace Go.Proofs.YtipepcjiogifaaaDoor
open Go Go.RowKit Go.Adm

theorem glob_keep {w W : World} {g : Nat} {v : Value} (hm : w.cell? ⟨g, 0, none⟩ = some v) (hb : Below w.heap.size w W) : W.cell? ⟨g, 0, none⟩ = some v := by
  rw [hb.cell (p := ⟨g, 0, none⟩) (World.block_lt_of_cell? w _ hm)]
  exact hm
theorem fine_any (x : E) (hx : E32 x) (w : World) (m : Int) (hm : w.cell? ⟨0, 0, none⟩ = some (.int .i64 m)) :
    Calls Tryd.prog 38 #[.agg (entC x).toArray] w fun e w' => e = .returned (.bool (goodE x)) ∧ Below w.heap.size w w' := by
  have hR : All w [.kept w w.heap.size] := ⟨⟨Below.refl _ _, Nat.le_refl _⟩, trivial⟩
  have hRn := hR.new (l := entC x) (entC x).toArray 50 rfl rfl
  have hlen : Hid ((entC x).length = 33) := Lib.hid (entC_len hx)
  have HXX := Lib.hid hx
  clear hx
  go_enter Tryd.func38, Tryd.ntmps38
  go_upto_region 1 with (fail)
  refine wp_gen hRn ?_
  intro w1 hR1
  clear hRn
  have c1 : w1.cell? ⟨w.heap.size, 0, none⟩ = some (.string x.p) := by
    have := Cells.cell (hR1.at_ 0 rfl) (i := 0) (by rw [hlen.out]; decide)
    exact this
  have hcP := refPath_any x.p w1 m (glob_keep hm (hR1.at_ 1 rfl).1)
  cases hp : pathB x.p with
  | false =>
    have HF : Hid (goodE x = false) := Lib.hid (by rw [goodE, hp]; rfl)
    rw [hp] at hcP
    go_wp2_with (go_at_call 43; refine hcP.mono ?_; rintro e w2 ⟨rfl, hb2⟩; have hR2 := hR1.call hb2)
    go_ret
    exact ⟨ret_bool (by rw [HF.out]), (hR2.at_ 1 rfl).1⟩
  | true =>
    rw [hp] at hcP
    have HF : Hid (goodE x = !decide (x.d = z32)) := Lib.hid (by rw [goodE, hp]; rfl)
    clear hp
    cases hz : decide (x.d = z32) with
    | true =>
      have HZ := Lib.hid hz
      rw [hz] at HF
      clear hz
      go_wp2_with (first
        | (go_at_call 43; refine hcP.mono ?_; clear hcP; rintro e w2 ⟨rfl, hb2⟩; have hR2 := hR1.call hb2)
        | (refine wl_met' rfl ?_; refine wp_load_any 40 (.tmp 7) rfl ⟨w.heap.size, 1, none⟩ rfl (x.d.map bv) _ (Cells.sub (hR2.at_ 0 rfl) 1 (ent_sub x)) Tryd.underlying40 rfl (by rw [List.length_map, HXX.out.1]; kernel_rfl) ?_)
        | (refine wl_met' rfl ?_; refine wp_neq (.tmp 8) (.tmp 9) rfl (.bool false) ((ne_dg _ x.d z32 HXX.out.1 rfl).trans (by rw [HZ.out]; rfl)) (by go_simp) ?_))
      go_ret
      exact ⟨ret_bool (by rw [HF.out]; rfl), (hR2.at_ 1 rfl).1⟩
    | false =>
      have HZ := Lib.hid hz
      rw [hz] at HF
      clear hz
      go_wp2_with (first
        | (go_at_call 43; refine hcP.mono ?_; clear hcP; rintro e w2 ⟨rfl, hb2⟩; have hR2 := hR1.call hb2)
        | (refine wl_met' rfl ?_; refine wp_load_any 40 (.tmp 7) rfl ⟨w.heap.size, 1, none⟩ rfl (x.d.map bv) _ (Cells.sub (hR2.at_ 0 rfl) 1 (ent_sub x)) Tryd.underlying40 rfl (by rw [List.length_map, HXX.out.1]; kernel_rfl) ?_)
        | (refine wl_met' rfl ?_; refine wp_neq (.tmp 8) (.tmp 9) rfl (.bool true) ((ne_dg _ x.d z32 HXX.out.1 rfl).trans (by rw [HZ.out]; rfl)) (by go_simp) ?_))
      go_ret
      exact ⟨ret_bool (by rw [HF.out]; rfl), (hR2.at_ 1 rfl).1⟩
set_option maxHeartbeats 3200000 in
theorem refValid_any (w : World) (m : Int) (hm : w.cell? ⟨0, 0, none⟩ = some (.int .i64 m)) (B : Nat) (A : Option Addr) (n c : Nat) (l : List E) (hl : Els w B 33 A n (l.map entC)) (h32 : ∀ e ∈ l, E32 e) (hn : l.length = n) (hn2 : n ≤ 1000000) (hB : B ≤ w.heap.size) :
    Calls Tryd.prog 20 #[.slice A n c] w fun e w' => e = .returned (.bool (validB l)) ∧ Below w.heap.size w w' := by
  have hR : All w [.low (.els B 33 A n (l.map entC)), .kept w w.heap.size] := ⟨⟨hl, hB⟩, ⟨Below.refl _ _, Nat.le_refl _⟩, trivial⟩
  have HN := Lib.hid hn
  have H32 := Lib.hid h32
  clear hl h32 hn
  by_cases hbig : 64 < n
  · have d1 : decide ((64 : Int) < (n : Int)) = true := by simp; omega
    have hv : Hid (validB l = false) := Lib.hid (by unfold validB okAll; rw [HN.out, decide_eq_false (by omega)]; rfl)
    go_enter Tryd.func20, Tryd.ntmps20
    go_wp2_with fail
    go_ret
    exact ⟨ret_bool (by rw [hv.out]), (hR.at_ 1 rfl).1⟩
  have d0 : decide ((64 : Int) < (n : Int)) = false := by simp; omega
  go_enter Tryd.func20, Tryd.ntmps20
  have hI0 := hR
  clear hR
  go_wp2_with fail
  clear d0
  go_loopw [3] (fun i wr => ∃ (k : Nat), k ≤ n ∧ i = .int .i64 k ∧ (∀ i < k, okAt Ent.p goodE l i = true) ∧ All wr [.low (.els B 33 A n (l.map entC)), .kept w w.heap.size]) (fun i _ => n - (intOf i).toNat)
  case atStart => exact ⟨0, by omega, rfl, fun i hi => absurd hi (by omega), hI0⟩
  case round =>
    obtain ⟨k, hk, rfl, hA, hI⟩ := hrel
    have HA := Lib.hid hA
    clear hA hI0
    by_cases hlt : k < n
    · have hkl : k < l.length := by rw [HN.out]; exact hlt
      obtain ⟨ad, rfl, hadB, -⟩ := Els.elem (hI.at_ 0 rfl : Els wr B 33 A n (l.map entC) ∧ B ≤ wr.heap.size).1 hkl
      have HX : Hid (∀ W, All W [.low (.els B 33 (some ad) n (l.map entC)), .kept w w.heap.size] → (∀ q s, (entC l[k])[q]? = some s → W.cell? ((ad.add (k * 33)).add q) = some s) ∧ True) := Lib.hid (fun W hW => by
        obtain ⟨ad', e, _, hc⟩ := Els.elem (hW.at_ 0 rfl : Els W B 33 (some ad) n (l.map entC) ∧ B ≤ W.heap.size).1 hkl
        obtain rfl := Option.some.inj e
        exact ⟨hc, trivial⟩)
      have hx := Lib.hid (H32.out _ (List.getElem_mem hkl))
      have HO : Hid (∀ v, okAt1 Ent.p goodE l k l[k] = v → okAt Ent.p goodE l k = v) := Lib.hid (fun v hv => by rw [okAt_at _ _ _ _ hkl]; exact hv)
      generalize l[k] = x at *
      have hsz : w.heap.size ≤ wr.heap.size := hI.size_kept 1 rfl
      have d1 : decide ((k : Int) < (n : Int)) = true := by simp; omega
      have wk1 : (0 : Int) ≤ (k : Int) := by omega
      have wk2 : (k : Int) < (n : Int) := by omega
      go_upto_region 6 with (fail)
      clear d1
      cases hg : goodE x with
      | false =>
        have HG := Lib.hid hg
        have HF : Hid (validB l = false) := Lib.hid (validB_no l k hkl (HO.out _ (okAt1_bad _ _ _ _ _ hg)))
        clear hg
        refine wp_region_hopsH 23 (13 :: 14 :: 15 :: 16 :: 17 :: 18 :: 19 :: 20 :: 21 :: 22 :: 23 :: 24 :: 25 :: 26 :: 27 :: 28 :: 29 :: 30 :: 31 :: 32 :: 33 :: 34 :: 35 :: []) [.low (.els B 33 (some ad) n (l.map entC)), .kept w w.heap.size]
          (.eq (.slice (some ad) n c) :: .eq (.int .i64 k) :: .eq (.pointer (some (ad.add (k * 33)))) :: .eq (.agg (entC x).toArray) :: .eq (.bool false) :: .eq (.bool true) :: .eq (.bool true) :: .eq undef :: .eq undef :: .eq undef :: .eq undef :: .eq undef :: .eq undef :: .eq undef :: .eq undef :: .eq undef :: .eq undef :: .eq undef :: .eq undef :: .eq undef :: .eq undef :: .eq undef :: .eq undef :: [])
          (by kernel_rfl) (by kernel_rfl) hI rfl ?hops ?fin
        case hops =>
          refine ⟨?_, ?_, ?_, ?_, ?_, ?_, ?_, ?_, ?_, ?_, ?_, ?_, ?_, ?_, ?_, ?_, ?_, ?_, ?_, ?_, ?_, ?_, ?_, trivial⟩
          · intro a W hW hb hd K hK
            have b0 := hb 0 rfl
            go_simp
            exact hK _ _ (World.grownBy.refl _ _) rfl
          · intro a W hW hb hd K hK
            have b3 := hb 3 rfl
            go_simp
            exact hK _ _ (World.grownBy.refl _ _) rfl
          · intro a W hW hb hd K hK
            have b13 : a.tmps[13]?.getD undef = _ := hd ⟨0, .data⟩ (by simp) rfl
            have b14 : a.tmps[14]?.getD undef = _ := hd ⟨1, .data⟩ (by simp) rfl
            go_simp
            exact hK _ _ (World.grownBy.refl _ _) rfl
          · intro a W hW hb hd K hK
            have b15 : a.tmps[15]?.getD undef = _ := hd ⟨2, .data⟩ (by simp) rfl
            refine wp_load_any 50 (.tmp 15) rfl (ad.add (k * 33)) (show a.eval (.tmp 15) = _ from by simp only [Act.eval, Array.getD_eq_getD_getElem?]; exact b15) (entC x) _ ((HX.out W hW).1) Tryd.underlying50 rfl (by rw [entC_len hx.out]; kernel_rfl) ?_
            exact hK _ _ (World.grownBy.refl _ _) rfl
          · intro a W hW hb hd K hK
            have b16 : a.tmps[16]?.getD undef = _ := hd ⟨3, .data⟩ (by simp) rfl
            go_simp
            refine (fine_any x hx.out W m (glob_keep hm (hW.at_ 1 rfl).1)).mono ?_
            rintro e w' ⟨rfl, hb'⟩
            exact hK _ _ (grown_of_below hb') (congrArg Value.bool HG.out)
          · intro a W hW hb hd K hK
            have b17 : a.tmps[17]?.getD undef = _ := hd ⟨4, .data⟩ (by simp) rfl
            go_simp
            exact hK _ _ (World.grownBy.refl _ _) rfl
          · intro a W hW hb hd K hK
            have b18 : a.tmps[18]?.getD undef = _ := hd ⟨5, .data⟩ (by simp) rfl
            go_simp
            exact hK _ _ (World.grownBy.refl _ _) rfl
          · exact Or.inr ⟨fun v w h => by rw [show v = _ from h]; first | (intro h2; cases h2) | (simp [undef]), fun w => rfl⟩
          · exact Or.inr ⟨fun v w h => by rw [show v = _ from h]; first | (intro h2; cases h2) | (simp [undef]), fun w => rfl⟩
          · exact Or.inr ⟨fun v w h => by rw [show v = _ from h]; first | (intro h2; cases h2) | (simp [undef]), fun w => rfl⟩
          · exact Or.inr ⟨fun v w h => by rw [show v = _ from h]; first | (intro h2; cases h2) | (simp [undef]), fun w => rfl⟩
          · exact Or.inr ⟨fun v w h => by rw [show v = _ from h]; first | (intro h2; cases h2) | (simp [undef]), fun w => rfl⟩
          · exact Or.inr ⟨fun v w h => by rw [show v = _ from h]; first | (intro h2; cases h2) | (simp [undef]), fun w => rfl⟩
          · exact Or.inr ⟨fun v w h => by rw [show v = _ from h]; first | (intro h2; cases h2) | (simp [undef]), fun w => rfl⟩
          · exact Or.inr ⟨fun v w h => by rw [show v = _ from h]; first | (intro h2; cases h2) | (simp [undef]), fun w => rfl⟩
          · exact Or.inr ⟨fun v w h => by rw [show v = _ from h]; first | (intro h2; cases h2) | (simp [undef]), fun w => rfl⟩
          · exact Or.inr ⟨fun v w h => by rw [show v = _ from h]; first | (intro h2; cases h2) | (simp [undef]), fun w => rfl⟩
          · exact Or.inr ⟨fun v w h => by rw [show v = _ from h]; first | (intro h2; cases h2) | (simp [undef]), fun w => rfl⟩
          · exact Or.inr ⟨fun v w h => by rw [show v = _ from h]; first | (intro h2; cases h2) | (simp [undef]), fun w => rfl⟩
          · exact Or.inr ⟨fun v w h => by rw [show v = _ from h]; first | (intro h2; cases h2) | (simp [undef]), fun w => rfl⟩
          · exact Or.inr ⟨fun v w h => by rw [show v = _ from h]; first | (intro h2; cases h2) | (simp [undef]), fun w => rfl⟩
          · exact Or.inr ⟨fun v w h => by rw [show v = _ from h]; first | (intro h2; cases h2) | (simp [undef]), fun w => rfl⟩
          · exact Or.inr ⟨fun v w h => by rw [show v = _ from h]; first | (intro h2; cases h2) | (simp [undef]), fun w => rfl⟩
        case fin =>
          intro vs W hW hv
          have e6 : vs 6 = _ := hv 6 (by decide)
          have e22 : vs 22 = _ := hv 22 (by decide)
          clear hv
          simp only [putAll, List.drop_succ_cons, List.drop_zero, e6, e22, Act.put, List.setIfInBounds_toArray, List.set_cons_succ, List.set_cons_zero]
          clear e6 e22
          go_wp2_with fail
          go_ret
          exact ⟨ret_bool (by rw [HF.out]), (hW.at_ 1 rfl).1⟩
      | true =>
        have HG := Lib.hid hg
        clear hg
        by_cases hk0 : k = 0
        · have HF : Hid (okAt Ent.p goodE l k = true) := Lib.hid (HO.out _ (okAt1_zero _ _ _ _ _ HG.out hk0))
          have d2 : decide (0 < (k : Int)) = false := by simp; omega
          have d3 : decide (0 < k) = false := by simp; omega
          clear hk0
          refine wp_region_hopsH 23 (13 :: 14 :: 15 :: 16 :: 17 :: 18 :: 19 :: 20 :: 21 :: 22 :: 23 :: 24 :: 25 :: 26 :: 27 :: 28 :: 29 :: 30 :: 31 :: 32 :: 33 :: 34 :: 35 :: []) [.low (.els B 33 (some ad) n (l.map entC)), .kept w w.heap.size]
            (.eq (.slice (some ad) n c) :: .eq (.int .i64 k) :: .eq (.pointer (some (ad.add (k * 33)))) :: .eq (.agg (entC x).toArray) :: .eq (.bool true) :: .eq (.bool false) :: .eq (.bool false) :: .eq (.int .i64 k) :: .eq (.bool false) :: .eq (.bool false) :: .eq undef :: .eq undef :: .eq undef :: .eq undef :: .eq undef :: .eq undef :: .eq undef :: .eq undef :: .eq undef :: .eq undef :: .eq undef :: .eq undef :: .eq (.bool false) :: [])
            (by kernel_rfl) (by kernel_rfl) hI rfl ?hops ?fin
          case hops =>
            refine ⟨?_, ?_, ?_, ?_, ?_, ?_, ?_, ?_, ?_, ?_, ?_, ?_, ?_, ?_, ?_, ?_, ?_, ?_, ?_, ?_, ?_, ?_, ?_, trivial⟩
            · intro a W hW hb hd K hK
              have b0 := hb 0 rfl
              go_simp
              exact hK _ _ (World.grownBy.refl _ _) rfl
            · intro a W hW hb hd K hK
              have b3 := hb 3 rfl
              go_simp
              exact hK _ _ (World.grownBy.refl _ _) rfl
            · intro a W hW hb hd K hK
              have b13 : a.tmps[13]?.getD undef = _ := hd ⟨0, .data⟩ (by simp) rfl
              have b14 : a.tmps[14]?.getD undef = _ := hd ⟨1, .data⟩ (by simp) rfl
              go_simp
              exact hK _ _ (World.grownBy.refl _ _) rfl
            · intro a W hW hb hd K hK
              have b15 : a.tmps[15]?.getD undef = _ := hd ⟨2, .data⟩ (by simp) rfl
              refine wp_load_any 50 (.tmp 15) rfl (ad.add (k * 33)) (show a.eval (.tmp 15) = _ from by simp only [Act.eval, Array.getD_eq_getD_getElem?]; exact b15) (entC x) _ ((HX.out W hW).1) Tryd.underlying50 rfl (by rw [entC_len hx.out]; kernel_rfl) ?_
              exact hK _ _ (World.grownBy.refl _ _) rfl
            · intro a W hW hb hd K hK
              have b16 : a.tmps[16]?.getD undef = _ := hd ⟨3, .data⟩ (by simp) rfl
              go_simp
              refine (fine_any x hx.out W m (glob_keep hm (hW.at_ 1 rfl).1)).mono ?_
              rintro e w' ⟨rfl, hb'⟩
              exact hK _ _ (grown_of_below hb') (congrArg Value.bool HG.out)
            · intro a W hW hb hd K hK
              have b17 : a.tmps[17]?.getD undef = _ := hd ⟨4, .data⟩ (by simp) rfl
              go_simp
              exact hK _ _ (World.grownBy.refl _ _) rfl
            · intro a W hW hb hd K hK
              have b18 : a.tmps[18]?.getD undef = _ := hd ⟨5, .data⟩ (by simp) rfl
              go_simp
              exact hK _ _ (World.grownBy.refl _ _) rfl
            · refine Or.inl ⟨fun v w h => h, ?_⟩
              intro a W hW hb hd K hK
              have b3 := hb 3 rfl
              go_simp
              exact hK _ _ (World.grownBy.refl _ _) rfl
            · refine Or.inl ⟨fun v w h => h, ?_⟩
              intro a W hW hb hd K hK
              have b20 : a.tmps[20]?.getD undef = _ := hd ⟨7, .data⟩ (by simp) rfl
              go_simp
              exact hK _ _ (World.grownBy.refl _ _) rfl
            · refine Or.inl ⟨fun v w h => h, ?_⟩
              intro a W hW hb hd K hK
              have b21 : a.tmps[21]?.getD undef = _ := hd ⟨8, .data⟩ (by simp) rfl
              go_simp
              exact hK _ _ (World.grownBy.refl _ _) rfl
            · exact Or.inr ⟨fun v w h => by rw [show v = _ from h]; first | (intro h2; cases h2) | (simp [undef]), fun w => rfl⟩
            · exact Or.inr ⟨fun v w h => by rw [show v = _ from h]; first | (intro h2; cases h2) | (simp [undef]), fun w => rfl⟩
            · exact Or.inr ⟨fun v w h => by rw [show v = _ from h]; first | (intro h2; cases h2) | (simp [undef]), fun w => rfl⟩
            · exact Or.inr ⟨fun v w h => by rw [show v = _ from h]; first | (intro h2; cases h2) | (simp [undef]), fun w => rfl⟩
            · exact Or.inr ⟨fun v w h => by rw [show v = _ from h]; first | (intro h2; cases h2) | (simp [undef]), fun w => rfl⟩
            · exact Or.inr ⟨fun v w h => by rw [show v = _ from h]; first | (intro h2; cases h2) | (simp [undef]), fun w => rfl⟩
            · exact Or.inr ⟨fun v w h => by rw [show v = _ from h]; first | (intro h2; cases h2) | (simp [undef]), fun w => rfl⟩
            · exact Or.inr ⟨fun v w h => by rw [show v = _ from h]; first | (intro h2; cases h2) | (simp [undef]), fun w => rfl⟩
            · exact Or.inr ⟨fun v w h => by rw [show v = _ from h]; first | (intro h2; cases h2) | (simp [undef]), fun w => rfl⟩
            · exact Or.inr ⟨fun v w h => by rw [show v = _ from h]; first | (intro h2; cases h2) | (simp [undef]), fun w => rfl⟩
            · exact Or.inr ⟨fun v w h => by rw [show v = _ from h]; first | (intro h2; cases h2) | (simp [undef]), fun w => rfl⟩
            · exact Or.inr ⟨fun v w h => by rw [show v = _ from h]; first | (intro h2; cases h2) | (simp [undef]), fun w => rfl⟩
            · refine Or.inl ⟨fun v w h => h, ?_⟩
              intro a W hW hb hd K hK
              have b22 : a.tmps[22]?.getD undef = _ := hd ⟨9, .data⟩ (by simp) rfl
              have b34 : a.tmps[34]?.getD undef = _ := hd ⟨21, .data⟩ (by simp) rfl
              go_simp
              exact hK _ _ (World.grownBy.refl _ _) rfl
          case fin =>
            intro vs W hW hv
            have e6 : vs 6 = _ := hv 6 (by decide)
            have e22 : vs 22 = _ := hv 22 (by decide)
            clear hv
            simp only [putAll, List.drop_succ_cons, List.drop_zero, e6, e22, Act.put, List.setIfInBounds_toArray, List.set_cons_succ, List.set_cons_zero]
            clear e6 e22
            go_wp2_with fail
            refine ⟨⟨k + 1, by omega, by go_num, fun i hi => ?_, hW⟩, by simp [intOf]; omega⟩
            by_cases hik : i = k
            · rw [hik]; exact HF.out
            · exact HA.out i (by omega)
        · obtain ⟨j, hj⟩ : ∃ j, k = j + 1 := ⟨k - 1, by omega⟩
          have hjl : j < l.length := by omega
          have HJ : Hid (∀ W, All W [.low (.els B 33 (some ad) n (l.map entC)), .kept w w.heap.size] → W.cell? (ad.add (j * 33)) = some (.string l[j].p)) := Lib.hid (fun W hW => by
            obtain ⟨ad', e, _, hc⟩ := Els.elem (hW.at_ 0 rfl : Els W B 33 (some ad) n (l.map entC) ∧ B ≤ W.heap.size).1 hjl
            obtain rfl := Option.some.inj e
            have := hc 0 (sv l[j].p) rfl
            rwa [add_zero] at this)
          have HO2 : Hid (∀ v, blt l[j].p x.p = v → okAt Ent.p goodE l k = v) := Lib.hid (fun v hv => HO.out _ (okAt1_succ _ _ _ _ _ _ HG.out hj hjl hv))
          generalize l[j] = y at *
          have HY := HJ
          have d2 : decide (0 < (k : Int)) = true := by simp; omega
          have d3 : decide (0 < k) = true := by simp; omega
          have w1 : IntKind.i64.wrap ((k : Int) - 1) = (j : Int) := by rw [IntWalk.i64_in _ (by omega)]; omega
          have wj1 : (0 : Int) ≤ (j : Int) := by omega
          have wj2 : (j : Int) < (n : Int) := by omega
          have wj3 : ((j : Int)).toNat = j := by omega
          have HK := Lib.hid hj
          clear hj
          cases hb : Op.bytesLess y.p.toList x.p.toList with
          | false =>
            have HF : Hid (okAt Ent.p goodE l k = false) := Lib.hid (HO2.out _ hb)
            replace HF : Hid (validB l = false) := Lib.hid (validB_no l k hkl HF.out)
            refine wp_region_hopsH 23 (13 :: 14 :: 15 :: 16 :: 17 :: 18 :: 19 :: 20 :: 21 :: 22 :: 23 :: 24 :: 25 :: 26 :: 27 :: 28 :: 29 :: 30 :: 31 :: 32 :: 33 :: 34 :: 35 :: []) [.low (.els B 33 (some ad) n (l.map entC)), .kept w w.heap.size]
              (.eq (.slice (some ad) n c) :: .eq (.int .i64 k) :: .eq (.pointer (some (ad.add (k * 33)))) :: .eq (.agg (entC x).toArray) :: .eq (.bool true) :: .eq (.bool false) :: .eq (.bool false) :: .eq (.int .i64 k) :: .eq (.bool true) :: .eq (.bool true) :: .eq (.slice (some ad) n c) :: .eq (.int .i64 k) :: .eq (.int .i64 j) :: .eq (.pointer (some (ad.add (j * 33)))) :: .eq (.pointer (some (ad.add (j * 33)))) :: .eq (.string y.p) :: .eq (.slice (some ad) n c) :: .eq (.int .i64 k) :: .eq (.pointer (some (ad.add (k * 33)))) :: .eq (.pointer (some (ad.add (k * 33)))) :: .eq (.string x.p) :: .eq (.bool true) :: .eq (.bool true) :: [])
              (by kernel_rfl) (by kernel_rfl) hI rfl ?hops ?fin
            case hops =>
              refine ⟨?_, ?_, ?_, ?_, ?_, ?_, ?_, ?_, ?_, ?_, ?_, ?_, ?_, ?_, ?_, ?_, ?_, ?_, ?_, ?_, ?_, ?_, ?_, trivial⟩
              · intro a W hW hb hd K hK
                have b0 := hb 0 rfl
                go_simp
                exact hK _ _ (World.grownBy.refl _ _) rfl
              · intro a W hW hb hd K hK
                have b3 := hb 3 rfl
                go_simp
                exact hK _ _ (World.grownBy.refl _ _) rfl
              · intro a W hW hb hd K hK
                have b13 : a.tmps[13]?.getD undef = _ := hd ⟨0, .data⟩ (by simp) rfl
                have b14 : a.tmps[14]?.getD undef = _ := hd ⟨1, .data⟩ (by simp) rfl
                go_simp
                exact hK _ _ (World.grownBy.refl _ _) rfl
              · intro a W hW hb hd K hK
                have b15 : a.tmps[15]?.getD undef = _ := hd ⟨2, .data⟩ (by simp) rfl
                refine wp_load_any 50 (.tmp 15) rfl (ad.add (k * 33)) (show a.eval (.tmp 15) = _ from by simp only [Act.eval, Array.getD_eq_getD_getElem?]; exact b15) (entC x) _ ((HX.out W hW).1) Tryd.underlying50 rfl (by rw [entC_len hx.out]; kernel_rfl) ?_
                exact hK _ _ (World.grownBy.refl _ _) rfl
              · intro a W hW hb hd K hK
                have b16 : a.tmps[16]?.getD undef = _ := hd ⟨3, .data⟩ (by simp) rfl
                go_simp
                refine (fine_any x hx.out W m (glob_keep hm (hW.at_ 1 rfl).1)).mono ?_
                rintro e w' ⟨rfl, hb'⟩
                exact hK _ _ (grown_of_below hb') (congrArg Value.bool HG.out)
              · intro a W hW hb hd K hK
                have b17 : a.tmps[17]?.getD undef = _ := hd ⟨4, .data⟩ (by simp) rfl
                go_simp
                exact hK _ _ (World.grownBy.refl _ _) rfl
              · intro a W hW hb hd K hK
                have b18 : a.tmps[18]?.getD undef = _ := hd ⟨5, .data⟩ (by simp) rfl
                go_simp
                exact hK _ _ (World.grownBy.refl _ _) rfl
              · refine Or.inl ⟨fun v w h => h, ?_⟩
                intro a W hW hb hd K hK
                have b3 := hb 3 rfl
                go_simp
                exact hK _ _ (World.grownBy.refl _ _) rfl
              · refine Or.inl ⟨fun v w h => h, ?_⟩
                intro a W hW hb hd K hK
                have b20 : a.tmps[20]?.getD undef = _ := hd ⟨7, .data⟩ (by simp) rfl
                go_simp
                exact hK _ _ (World.grownBy.refl _ _) rfl
              · refine Or.inl ⟨fun v w h => h, ?_⟩
                intro a W hW hb hd K hK
                have b21 : a.tmps[21]?.getD undef = _ := hd ⟨8, .data⟩ (by simp) rfl
                go_simp
                exact hK _ _ (World.grownBy.refl _ _) rfl
              · refine Or.inl ⟨fun v w h => h, ?_⟩
                intro a W hW hb hd K hK
                have b0 := hb 0 rfl
                go_simp
                exact hK _ _ (World.grownBy.refl _ _) rfl
              · refine Or.inl ⟨fun v w h => h, ?_⟩
                intro a W hW hb hd K hK
                have b3 := hb 3 rfl
                go_simp
                exact hK _ _ (World.grownBy.refl _ _) rfl
              · refine Or.inl ⟨fun v w h => h, ?_⟩
                intro a W hW hb hd K hK
                have b24 : a.tmps[24]?.getD undef = _ := hd ⟨11, .data⟩ (by simp) rfl
                go_simp
                exact hK _ _ (World.grownBy.refl _ _) rfl
              · refine Or.inl ⟨fun v w h => h, ?_⟩
                intro a W hW hb hd K hK
                have b23 : a.tmps[23]?.getD undef = _ := hd ⟨10, .data⟩ (by simp) rfl
                have b25 : a.tmps[25]?.getD undef = _ := hd ⟨12, .data⟩ (by simp) rfl
                go_simp
                exact hK _ _ (World.grownBy.refl _ _) rfl
              · refine Or.inl ⟨fun v w h => h, ?_⟩
                intro a W hW hb hd K hK
                have b26 : a.tmps[26]?.getD undef = _ := hd ⟨13, .data⟩ (by simp) rfl
                go_simp
                exact hK _ _ (World.grownBy.refl _ _) (by first | rfl | (rw [add_zero]; rfl) | (simp [add_zero]; rfl))
              · refine Or.inl ⟨fun v w h => h, ?_⟩
                intro a W hW hb hd K hK
                have b27 : a.tmps[27]?.getD undef = _ := hd ⟨14, .data⟩ (by simp) rfl
                have q1 : W.cell? (ad.add (j * 33)) = some (.string y.p) := HY.out W hW
                go_simp
                exact hK _ _ (World.grownBy.refl _ _) rfl
              · refine Or.inl ⟨fun v w h => h, ?_⟩
                intro a W hW hb hd K hK
                have b0 := hb 0 rfl
                go_simp
                exact hK _ _ (World.grownBy.refl _ _) rfl
              · refine Or.inl ⟨fun v w h => h, ?_⟩
                intro a W hW hb hd K hK
                have b3 := hb 3 rfl
                go_simp
                exact hK _ _ (World.grownBy.refl _ _) rfl
              · refine Or.inl ⟨fun v w h => h, ?_⟩
                intro a W hW hb hd K hK
                have b29 : a.tmps[29]?.getD undef = _ := hd ⟨16, .data⟩ (by simp) rfl
                have b30 : a.tmps[30]?.getD undef = _ := hd ⟨17, .data⟩ (by simp) rfl
                go_simp
                exact hK _ _ (World.grownBy.refl _ _) rfl
              · refine Or.inl ⟨fun v w h => h, ?_⟩
                intro a W hW hb hd K hK
                have b31 : a.tmps[31]?.getD undef = _ := hd ⟨18, .data⟩ (by simp) rfl
                go_simp
                exact hK _ _ (World.grownBy.refl _ _) (by first | rfl | (rw [add_zero]; rfl) | (simp [add_zero]; rfl))
              · refine Or.inl ⟨fun v w h => h, ?_⟩
                intro a W hW hb hd K hK
                have b32 : a.tmps[32]?.getD undef = _ := hd ⟨19, .data⟩ (by simp) rfl
                have q1 : W.cell? (ad.add (k * 33)) = some (.string x.p) := by have := (HX.out W hW).1 0 (sv x.p) rfl; rwa [add_zero] at this
                go_simp
                exact hK _ _ (World.grownBy.refl _ _) rfl
              · refine Or.inl ⟨fun v w h => h, ?_⟩
                intro a W hW hb hd K hK
                have b28 : a.tmps[28]?.getD undef = _ := hd ⟨15, .data⟩ (by simp) rfl
                have b33 : a.tmps[33]?.getD undef = _ := hd ⟨20, .data⟩ (by simp) rfl
                go_simp
                exact hK _ _ (World.grownBy.refl _ _) rfl
              · refine Or.inl ⟨fun v w h => h, ?_⟩
                intro a W hW hb hd K hK
                have b22 : a.tmps[22]?.getD undef = _ := hd ⟨9, .data⟩ (by simp) rfl
                have b34 : a.tmps[34]?.getD undef = _ := hd ⟨21, .data⟩ (by simp) rfl
                go_simp
                exact hK _ _ (World.grownBy.refl _ _) rfl
            case fin =>
              intro vs W hW hv
              have e6 : vs 6 = _ := hv 6 (by decide)
              have e22 : vs 22 = _ := hv 22 (by decide)
              clear hv
              simp only [putAll, List.drop_succ_cons, List.drop_zero, e6, e22, Act.put, List.setIfInBounds_toArray, List.set_cons_succ, List.set_cons_zero]
              clear e6 e22
              go_wp2_with fail
              go_ret
              exact ⟨ret_bool (by rw [HF.out]), (hW.at_ 1 rfl).1⟩
          | true =>
            have HF : Hid (okAt Ent.p goodE l k = true) := Lib.hid (HO2.out _ hb)
            refine wp_region_hopsH 23 (13 :: 14 :: 15 :: 16 :: 17 :: 18 :: 19 :: 20 :: 21 :: 22 :: 23 :: 24 :: 25 :: 26 :: 27 :: 28 :: 29 :: 30 :: 31 :: 32 :: 33 :: 34 :: 35 :: []) [.low (.els B 33 (some ad) n (l.map entC)), .kept w w.heap.size]
              (.eq (.slice (some ad) n c) :: .eq (.int .i64 k) :: .eq (.pointer (some (ad.add (k * 33)))) :: .eq (.agg (entC x).toArray) :: .eq (.bool true) :: .eq (.bool false) :: .eq (.bool false) :: .eq (.int .i64 k) :: .eq (.bool true) :: .eq (.bool true) :: .eq (.slice (some ad) n c) :: .eq (.int .i64 k) :: .eq (.int .i64 j) :: .eq (.pointer (some (ad.add (j * 33)))) :: .eq (.pointer (some (ad.add (j * 33)))) :: .eq (.string y.p) :: .eq (.slice (some ad) n c) :: .eq (.int .i64 k) :: .eq (.pointer (some (ad.add (k * 33)))) :: .eq (.pointer (some (ad.add (k * 33)))) :: .eq (.string x.p) :: .eq (.bool false) :: .eq (.bool false) :: [])
              (by kernel_rfl) (by kernel_rfl) hI rfl ?hops ?fin
            case hops =>
              refine ⟨?_, ?_, ?_, ?_, ?_, ?_, ?_, ?_, ?_, ?_, ?_, ?_, ?_, ?_, ?_, ?_, ?_, ?_, ?_, ?_, ?_, ?_, ?_, trivial⟩
              · intro a W hW hb hd K hK
                have b0 := hb 0 rfl
                go_simp
                exact hK _ _ (World.grownBy.refl _ _) rfl
              · intro a W hW hb hd K hK
                have b3 := hb 3 rfl
                go_simp
                exact hK _ _ (World.grownBy.refl _ _) rfl
              · intro a W hW hb hd K hK
                have b13 : a.tmps[13]?.getD undef = _ := hd ⟨0, .data⟩ (by simp) rfl
                have b14 : a.tmps[14]?.getD undef = _ := hd ⟨1, .data⟩ (by simp) rfl
                go_simp
                exact hK _ _ (World.grownBy.refl _ _) rfl
              · intro a W hW hb hd K hK
                have b15 : a.tmps[15]?.getD undef = _ := hd ⟨2, .data⟩ (by simp) rfl
                refine wp_load_any 50 (.tmp 15) rfl (ad.add (k * 33)) (show a.eval (.tmp 15) = _ from by simp only [Act.eval, Array.getD_eq_getD_getElem?]; exact b15) (entC x) _ ((HX.out W hW).1) Tryd.underlying50 rfl (by rw [entC_len hx.out]; kernel_rfl) ?_
                exact hK _ _ (World.grownBy.refl _ _) rfl
              · intro a W hW hb hd K hK
                have b16 : a.tmps[16]?.getD undef = _ := hd ⟨3, .data⟩ (by simp) rfl
                go_simp
                refine (fine_any x hx.out W m (glob_keep hm (hW.at_ 1 rfl).1)).mono ?_
                rintro e w' ⟨rfl, hb'⟩
                exact hK _ _ (grown_of_below hb') (congrArg Value.bool HG.out)
              · intro a W hW hb hd K hK
                have b17 : a.tmps[17]?.getD undef = _ := hd ⟨4, .data⟩ (by simp) rfl
                go_simp
                exact hK _ _ (World.grownBy.refl _ _) rfl
              · intro a W hW hb hd K hK
                have b18 : a.tmps[18]?.getD undef = _ := hd ⟨5, .data⟩ (by simp) rfl
                go_simp
                exact hK _ _ (World.grownBy.refl _ _) rfl
              · refine Or.inl ⟨fun v w h => h, ?_⟩
                intro a W hW hb hd K hK
                have b3 := hb 3 rfl
                go_simp
                exact hK _ _ (World.grownBy.refl _ _) rfl
              · refine Or.inl ⟨fun v w h => h, ?_⟩
                intro a W hW hb hd K hK
                have b20 : a.tmps[20]?.getD undef = _ := hd ⟨7, .data⟩ (by simp) rfl
                go_simp
                exact hK _ _ (World.grownBy.refl _ _) rfl
              · refine Or.inl ⟨fun v w h => h, ?_⟩
                intro a W hW hb hd K hK
                have b21 : a.tmps[21]?.getD undef = _ := hd ⟨8, .data⟩ (by simp) rfl
                go_simp
                exact hK _ _ (World.grownBy.refl _ _) rfl
              · refine Or.inl ⟨fun v w h => h, ?_⟩
                intro a W hW hb hd K hK
                have b0 := hb 0 rfl
                go_simp
                exact hK _ _ (World.grownBy.refl _ _) rfl
              · refine Or.inl ⟨fun v w h => h, ?_⟩
                intro a W hW hb hd K hK
                have b3 := hb 3 rfl
                go_simp
                exact hK _ _ (World.grownBy.refl _ _) rfl
              · refine Or.inl ⟨fun v w h => h, ?_⟩
                intro a W hW hb hd K hK
                have b24 : a.tmps[24]?.getD undef = _ := hd ⟨11, .data⟩ (by simp) rfl
                go_simp
                exact hK _ _ (World.grownBy.refl _ _) rfl
              · refine Or.inl ⟨fun v w h => h, ?_⟩
                intro a W hW hb hd K hK
                have b23 : a.tmps[23]?.getD undef = _ := hd ⟨10, .data⟩ (by simp) rfl
                have b25 : a.tmps[25]?.getD undef = _ := hd ⟨12, .data⟩ (by simp) rfl
                go_simp
                exact hK _ _ (World.grownBy.refl _ _) rfl
              · refine Or.inl ⟨fun v w h => h, ?_⟩
                intro a W hW hb hd K hK
                have b26 : a.tmps[26]?.getD undef = _ := hd ⟨13, .data⟩ (by simp) rfl
                go_simp
                exact hK _ _ (World.grownBy.refl _ _) (by first | rfl | (rw [add_zero]; rfl) | (simp [add_zero]; rfl))
              · refine Or.inl ⟨fun v w h => h, ?_⟩
                intro a W hW hb hd K hK
                have b27 : a.tmps[27]?.getD undef = _ := hd ⟨14, .data⟩ (by simp) rfl
                have q1 : W.cell? (ad.add (j * 33)) = some (.string y.p) := HY.out W hW
                go_simp
                exact hK _ _ (World.grownBy.refl _ _) rfl
              · refine Or.inl ⟨fun v w h => h, ?_⟩
                intro a W hW hb hd K hK
                have b0 := hb 0 rfl
                go_simp
                exact hK _ _ (World.grownBy.refl _ _) rfl
              · refine Or.inl ⟨fun v w h => h, ?_⟩
                intro a W hW hb hd K hK
                have b3 := hb 3 rfl
                go_simp
                exact hK _ _ (World.grownBy.refl _ _) rfl
              · refine Or.inl ⟨fun v w h => h, ?_⟩
                intro a W hW hb hd K hK
                have b29 : a.tmps[29]?.getD undef = _ := hd ⟨16, .data⟩ (by simp) rfl
                have b30 : a.tmps[30]?.getD undef = _ := hd ⟨17, .data⟩ (by simp) rfl
                go_simp
                exact hK _ _ (World.grownBy.refl _ _) rfl
              · refine Or.inl ⟨fun v w h => h, ?_⟩
                intro a W hW hb hd K hK
                have b31 : a.tmps[31]?.getD undef = _ := hd ⟨18, .data⟩ (by simp) rfl
                go_simp
                exact hK _ _ (World.grownBy.refl _ _) (by first | rfl | (rw [add_zero]; rfl) | (simp [add_zero]; rfl))
              · refine Or.inl ⟨fun v w h => h, ?_⟩
                intro a W hW hb hd K hK
                have b32 : a.tmps[32]?.getD undef = _ := hd ⟨19, .data⟩ (by simp) rfl
                have q1 : W.cell? (ad.add (k * 33)) = some (.string x.p) := by have := (HX.out W hW).1 0 (sv x.p) rfl; rwa [add_zero] at this
                go_simp
                exact hK _ _ (World.grownBy.refl _ _) rfl
              · refine Or.inl ⟨fun v w h => h, ?_⟩
                intro a W hW hb hd K hK
                have b28 : a.tmps[28]?.getD undef = _ := hd ⟨15, .data⟩ (by simp) rfl
                have b33 : a.tmps[33]?.getD undef = _ := hd ⟨20, .data⟩ (by simp) rfl
                go_simp
                exact hK _ _ (World.grownBy.refl _ _) rfl
              · refine Or.inl ⟨fun v w h => h, ?_⟩
                intro a W hW hb hd K hK
                have b22 : a.tmps[22]?.getD undef = _ := hd ⟨9, .data⟩ (by simp) rfl
                have b34 : a.tmps[34]?.getD undef = _ := hd ⟨21, .data⟩ (by simp) rfl
                go_simp
                exact hK _ _ (World.grownBy.refl _ _) rfl
            case fin =>
              intro vs W hW hv
              have e6 : vs 6 = _ := hv 6 (by decide)
              have e22 : vs 22 = _ := hv 22 (by decide)
              clear hv
              simp only [putAll, List.drop_succ_cons, List.drop_zero, e6, e22, Act.put, List.setIfInBounds_toArray, List.set_cons_succ, List.set_cons_zero]
              clear e6 e22
              go_wp2_with fail
              refine ⟨⟨k + 1, by omega, by go_num, fun i hi => ?_, hW⟩, by simp [intOf]; omega⟩
              by_cases hik : i = k
              · rw [hik]; exact HF.out
              · exact HA.out i (by omega)
    · obtain rfl : k = n := by omega
      have d1 : decide ((k : Int) < (k : Int)) = false := by simp
      have hv : Hid (validB l = true) := Lib.hid (by rw [validB_all l (by rw [HN.out]; exact HA.out), HN.out]; exact decide_eq_true (by omega))
      go_wp2_with fail
      go_ret
      exact ⟨ret_bool (by rw [hv.out]), (hI.at_ 1 rfl).1⟩

end Go.Proofs.YtipepcjiogifaaaDoor

/- The law ReleaseOrigins. -/
import Derived.Test.YtkdblhlehagmbaaDoorRel5
set_option linter.unusedSimpArgs false
set_option linter.unusedVariables false
set_option maxRecDepth 100000
namespace Go.Adm
open Go Go.RowKit
theorem cmpB_less : ∀ (a b : List UInt8), (Lib.compareBytes a b = -1 ↔ Op.bytesLess a b = true) ∧ (Lib.compareBytes a b = 1 ↔ Op.bytesLess b a = true) ∧ (Lib.compareBytes a b = 0 ↔ a = b)
  | [], [] => by simp [Lib.compareBytes, Op.bytesLess]
  | [], _ :: _ => by simp [Lib.compareBytes, Op.bytesLess]
  | _ :: _, [] => by simp [Lib.compareBytes, Op.bytesLess]
  | x :: r, y :: s => by
    obtain ⟨h1, h2, h3⟩ := cmpB_less r s
    rcases Nat.lt_trichotomy x.toNat y.toNat with h | h | h
    · have l1 : x < y := UInt8.lt_iff_toNat_lt.2 h
      have l2 : ¬ y < x := fun h' => by have := UInt8.lt_iff_toNat_lt.1 h'; omega
      have l3 : x ≠ y := fun e => by subst e; omega
      simp [Lib.compareBytes, Op.bytesLess, l1, l2, l3, Ne.symm l3]
    · obtain rfl : x = y := UInt8.toNat_inj.1 h
      simp [Lib.compareBytes, Op.bytesLess, h1, h2, h3]
    · have l1 : y < x := UInt8.lt_iff_toNat_lt.2 h
      have l2 : ¬ x < y := fun h' => by have := UInt8.lt_iff_toNat_lt.1 h'; omega
      have l3 : x ≠ y := fun e => by subst e; omega
      simp [Lib.compareBytes, Op.bytesLess, l1, l2, l3, Ne.symm l3]
theorem bl_irr : ∀ (a : List UInt8), Op.bytesLess a a = false
  | [] => rfl
  | x :: r => by simp [Op.bytesLess, bl_irr r]
theorem cmpB_range (a b : List UInt8) : Lib.compareBytes a b = -1 ∨ Lib.compareBytes a b = 0 ∨ Lib.compareBytes a b = 1 := by
  induction a generalizing b with
  | nil => cases b <;> simp [Lib.compareBytes]
  | cons x r ih => cases b with
    | nil => simp [Lib.compareBytes]
    | cons y s =>
      simp only [Lib.compareBytes]
      split
      · exact .inl rfl
      · split
        · exact .inr (.inr rfl)
        · exact ih s
end Go.Adm
namespace Go.Proofs.YtkdblhlehagmbaaDoor
open Go Go.RowKit Go.Adm
theorem cmpS_eq (a b : ByteArray) : cmpS a b = Lib.compareBytes a.toList b.toList := by
  obtain ⟨h1, h2, h3⟩ := cmpB_less a.toList b.toList
  unfold cmpS
  rcases cmpB_range a.toList b.toList with h | h | h
  · rw [if_pos (h1.1 h), h]
  · have e := h3.1 h
    have e1 : ¬ Op.bytesLess a.toList b.toList = true := fun q => by rw [h1.2 q] at h; exact absurd h (by decide)
    rw [if_neg e1, if_neg (by simp [e]), h]
  · have e1 : ¬ Op.bytesLess a.toList b.toList = true := fun q => by rw [h1.2 q] at h; exact absurd h (by decide)
    have e2 : a.toList ≠ b.toList := fun q => by rw [h3.2 q] at h; exact absurd h (by decide)
    rw [if_neg e1, if_pos (by simp [e2]), h]
theorem lessO_eq (a b : Ori) : lessO a b = if a.d = b.d then (if a.l.toList = b.l.toList then Op.bytesLess a.r.toList b.r.toList else Op.bytesLess a.l.toList b.l.toList) else Op.bytesLess a.d b.d := by
  unfold lessO orS
  rw [cmpS_eq, cmpS_eq]
  obtain ⟨h1, h2, h3⟩ := cmpB_less a.d b.d
  obtain ⟨i1, i2, i3⟩ := cmpB_less a.l.toList b.l.toList
  obtain ⟨j1, j2, j3⟩ := cmpB_less a.r.toList b.r.toList
  rcases cmpB_range a.d b.d with h | h | h <;> rcases cmpB_range a.l.toList b.l.toList with i | i | i <;> rcases cmpB_range a.r.toList b.r.toList with j | j | j <;>
    (rw [h] at h1 h2 h3; rw [i] at i1 i2 i3; rw [j] at j1 j2 j3; rw [h, i, j]; simp at h1 h2 h3 i1 i2 i3 j1 j2 j3 ⊢; simp [*, bl_irr])
theorem lessD_eq (a b : List UInt8) : lessD a b = Op.bytesLess a b := by
  unfold lessD
  obtain ⟨h1, h2, h3⟩ := cmpB_less a b
  rcases cmpB_range a b with h | h | h <;> (rw [h] at h1 h2 h3; rw [h]; simp at h1 h2 h3; simp [h1])
theorem lessO_r (a b : Ori) : rlessO a b = lessO a b := by
  rw [lessO_eq]; unfold rlessO; rw [lessD_eq]
theorem lessO_irr (a : Ori) : lessO a a = false := by
  rw [lessO_eq, if_pos rfl, if_pos rfl]
  exact bl_irr _
theorem less_tot (a b : List UInt8) (h : a ≠ b) : (Op.bytesLess a b || Op.bytesLess b a) = true := by
  obtain ⟨h1, h2, h3⟩ := cmpB_less a b
  rcases cmpB_range a b with q | q | q
  · rw [h1.1 q]; rfl
  · exact absurd (h3.1 q) h
  · rw [h2.1 q]; simp
theorem lessO_tot (a b : Ori) : (lessO a b || lessO b a) = !oriEq a b := by
  cases he : oriEq a b with
  | true =>
    rw [oriEq_iff] at he
    subst he
    rw [lessO_irr]; rfl
  | false =>
    have hne : a ≠ b := fun e => by rw [(oriEq_iff a b).2 e] at he; cases he
    rw [lessO_eq, lessO_eq]
    by_cases h1 : a.d = b.d
    · rw [if_pos h1, if_pos h1.symm]
      by_cases h2 : a.l.toList = b.l.toList
      · rw [if_pos h2, if_pos h2.symm]
        exact less_tot _ _ (fun h3 => hne (by cases a; cases b; simp only at h1 h2 h3; rw [h1, ba_inj h2, ba_inj h3]))
      · rw [if_neg h2, if_neg (Ne.symm h2)]
        exact less_tot _ _ h2
    · rw [if_neg h1, if_neg (Ne.symm h1)]
      exact less_tot _ _ h1
set_option maxHeartbeats 6400000 in
theorem walkOrigins (w : World) (r : Rls) (a b : Ori) (hra : r.a.length = 32) (hrc : r.c.length = 32) (hx : OriOk r.ori) (ha : OriOk a) (hb : OriOk b) (ht : Lib.TabIs Tryd.prog w "internal/strconv.uint64pow10" .u64 Lib.pow10Tab) :
    Calls Tryd.prog 3 #[.agg (rlsC r).toArray, .agg (oriC a).toArray, .agg (oriC b).toArray] w fun e w' => e = .returned (.bool true) ∧ Below w.heap.size w w' := by
  have hR : All w [.kept w w.heap.size] := ⟨⟨Below.refl _ _, Nat.le_refl _⟩, trivial⟩
  have HT : Hid (∀ W, Below w.heap.size w W → Lib.TabIs Tryd.prog W "internal/strconv.uint64pow10" .u64 Lib.pow10Tab) := Lib.hid (fun W hb => tab_keep ht hb)
  have HRA := Lib.hid hra
  have HX := Lib.hid hx
  have HA := Lib.hid ha
  have HB := Lib.hid hb
  have A1 := Lib.hid (oriC_32 a ha.1)
  have A2 := Lib.hid (oriC_33 a ha.1)
  have B1 := Lib.hid (oriC_32 b hb.1)
  have B2 := Lib.hid (oriC_33 b hb.1)
  have HAL := Lib.hid (oriC_len a ha.1)
  have HBL := Lib.hid (oriC_len b hb.1)
  have HXL := Lib.hid (oriC_len r.ori hx.1)
  have HRL : Hid ((rlsC r).length = 99) := Lib.hid (by simp [rlsC, hra, hrc, show r.d.length = 32 from hx.1])
  have s1 := ha.2.1
  have s2 := ha.2.2
  have s3 := hb.2.1
  have s4 := hb.2.2
  have HXR : Hid (r.d.length = 32) := Lib.hid hx.1
  clear hra hrc hx ha hb ht
  go_enter Tryd.func3, Tryd.ntmps3
  go_upto_region 1 with (fail)
  refine wp_gen (((hR.new (l := rlsC r) _ 25 rfl rfl).new (l := oriC a) (g := w.heap.size + 1) _ 27 (by simp) rfl).new (l := oriC b) (g := w.heap.size + 1 + 1) _ 27 (by simp) rfl) ?_
  intro W hW
  have c1 := cell_at (hW.at_ 1 rfl) A1.out
  have c2 := cell_at (hW.at_ 1 rfl) A2.out
  have c3 := cell_at (hW.at_ 0 rfl) B1.out
  have c4 := cell_at (hW.at_ 0 rfl) B2.out
  have hk := Lib.hid (hW.at_ 3 rfl : _ ∧ _).1
  clear hR
  cases d1 : decide ((600 : Int) < (a.l.size : Int) + (a.r.size : Int)) with
  | true =>
    go_wp2_with fail
    go_ret
    exact ⟨rfl, hk.out⟩
  | false =>
    cases d2 : decide ((600 : Int) < (b.l.size : Int) + (b.r.size : Int)) with
    | true =>
      go_wp2_with fail
      go_ret
      exact ⟨rfl, hk.out⟩
    | false =>
      have hzr := zero_ori
      have HON : Hid (∀ v ∈ oriC r.ori, v.oneCell' = true) := Lib.hid (by
        intro v hv
        unfold oriC at hv
        rw [List.mem_append] at hv
        rcases hv with hv | hv
        · exact bv_one _ v hv
        · simp at hv; rcases hv with rfl | rfl <;> rfl)
      obtain ⟨x, hxx⟩ : ∃ x, x = r.ori := ⟨_, rfl⟩
      have HOR : Hid (∀ W, Calls Tryd.prog 4 #[.agg (rlsC r).toArray] W fun e w' => e = .returned (.agg (oriC x).toArray) ∧ Below W.heap.size W w') := Lib.hid (fun W => by rw [hxx]; exact Origin_any W r HRA.out HXR.out)
      have HROR : Hid (∀ W, Calls Tryd.prog 6 #[.agg (rlsC r).toArray] W fun e w' => e = .returned (.agg (oriC x).toArray) ∧ Below W.heap.size W w') := Lib.hid (fun W => by rw [hxx]; exact rOrigin_any W r HRA.out HXR.out)
      rw [← hxx] at HX HXL HON
      clear hxx hk
      go_upto_region 3 with (fail)
      clear c1 c2 c3 c4 d1 d2
      go_upto_region 4 with (first
        | (refine wl_load_any rfl 25 (.tmp 3) rfl ⟨w.heap.size, 0, none⟩ rfl (rlsC r) _ (cell_all (hW.at_ 2 rfl)) Tryd.underlying25 rfl (by rw [HRL.out]; kernel_rfl) ?_)
        | (go_at_call 4; refine (HOR.out _).mono ?_; rintro e w2 ⟨rfl, hb2⟩; have hW2 := (hW.call hb2).new (l := oriZ) oriZ.toArray 27 (g := w2.heap.size) rfl rfl; have hap : Apart (some w2.heap.size) [.cells (w.heap.size + 1 + 1) 27 (oriC b), .cells (w.heap.size + 1) 27 (oriC a), .cells w.heap.size 25 (rlsC r), .kept w w.heap.size] := (by have := Cells.lt (hW.call hb2).1; simp [Apart, Res.apart]; omega))
        | (refine wl_store_at hW2 0 rfl 27 (.tmp 7) (.tmp 27) rfl w2.heap.size _ _ (oriC x) rfl rfl rfl (by rw [HXL.out]; rfl) (by rw [HXL.out]; kernel_rfl) HON.out hap ?_; intro w9 hI9 hs9))
      simp only [List.set_cons_zero] at hI9
      clear hW hW2 hb2 hs9
      obtain ⟨g, hg⟩ : ∃ g, g = w2.heap.size := ⟨_, rfl⟩
      rw [← hg] at hI9 ⊢
      clear hg
      have hI := hI9
      clear hI9
      obtain ⟨q, hq⟩ : ∃ q, q = lessO b a := ⟨_, rfl⟩
      obtain ⟨u, hu⟩ : ∃ u, u = lessO a x := ⟨_, rfl⟩
      have htot := lessO_tot a b
      have HU := Lib.hid hu.symm
      have HRU := Lib.hid ((lessO_r a x).trans hu.symm)
      rw [← hq] at htot
      have HQ := Lib.hid hq.symm
      have HIR := Lib.hid (lessO_irr a)
      clear hq hu
      have heq1 : ∀ W, (binOp .eql 27 (.agg (oriC x).toArray) (.agg (oriC x).toArray)).run Tryd.prog W = .ok (.bool true) W := fun W => by
        have h := eq_ori W x x HX.out HX.out
        rwa [(oriEq_iff x x).2 rfl] at h
      cases hp : lessO a b with
      | true =>
        rw [hp] at htot
        have HP := Lib.hid hp
        have HRP := Lib.hid ((lessO_r a b).trans hp)
        have hne1 : ∀ W, (binOp .neq 27 (.agg (oriC a).toArray) (.agg (oriC b).toArray)).run Tryd.prog W = .ok (.bool true) W := fun W => by
          have h := ne_ori W a b HA.out HB.out
          rwa [← htot] at h
        clear htot hp
        refine wp_region_hops 45 [28, 29, 30, 31, 32, 33, 34, 35, 36, 37, 38, 39, 40, 41, 42, 43, 44, 45, 46, 47, 48, 49, 50, 51, 52, 53, 54, 55, 56, 57, 58, 59, 60, 61, 62, 63, 64, 65, 66, 67, 68, 69, 70, 71, 72] _
          [.eq (.bool true), .eq (.bool true), .eq (.agg (oriC x).toArray), .eq (.agg (rlsC r).toArray), .eq (.agg (oriC x).toArray), .eq (.bool true), .eq (.bool true), .eq (.bool true), .eq (.agg (oriC a).toArray), .eq (.agg (oriC b).toArray), .eq (.bool true), .eq (.agg (oriC a).toArray), .eq (.agg (oriC b).toArray), .eq (.bool true), .eq (.bool true), .eq (.bool true), .eq (.bool true), .eq (.agg (oriC a).toArray), .eq (.agg (oriC b).toArray), .eq (.bool true), .eq (.bool true), .eq undef, .eq undef, .eq undef, .eq (.bool true), .eq (.agg (oriC a).toArray), .eq (.agg (oriC b).toArray), .eq (.bool true), .eq (.bool true), .eq (.bool true), .eq (.bool true), .eq (.agg (oriC a).toArray), .eq (.agg (oriC a).toArray), .eq (.bool false), .eq (.bool true), .eq (.bool true), .eq (.bool true), .eq (.agg (oriC a).toArray), .eq (.agg (oriC x).toArray), .eq (.bool u), .eq (.agg (oriC a).toArray), .eq (.agg (oriC x).toArray), .eq (.bool u), .eq (.bool true), .eq (.bool true)]
          (by kernel_rfl) (by kernel_rfl) hI rfl ?hops ?fin
        case hops =>
          refine ⟨?_, ?_, ?_, ?_, ?_, ?_, ?_, ?_, ?_, ?_, ?_, ?_, ?_, ?_, ?_, ?_, ?_, ?_, ?_, ?_, ?_, ?_, ?_, ?_, ?_, ?_, ?_, ?_, ?_, ?_, ?_, ?_, ?_, ?_, ?_, ?_, ?_, ?_, ?_, ?_, ?_, ?_, ?_, ?_, ?_, trivial⟩
          · intro a' W hW hb hd K hK
            go_simp
            refine (awake_any W (HT.out W (hW.at_ 4 rfl : _ ∧ _).1)).mono ?_
            rintro e w' ⟨rfl, hb'⟩
            exact hK _ _ (grown_of_below hb') rfl
          · intro a' W hW hb hd K hK
            have b28 : a'.tmps[28]?.getD undef = _ := hd ⟨0, .data⟩ (by simp) rfl
            go_simp
            exact hK _ _ (World.grownBy.refl _ _) rfl
          · refine Or.inl ⟨fun v w h => h, ?_⟩
            intro a' W hW hb hd K hK
            have b7 := hb 7 rfl
            refine wp_load_any 27 (.tmp 7) rfl ⟨g, 0, none⟩ (show a'.eval (.tmp 7) = _ from by simp only [Act.eval, Array.getD_eq_getD_getElem?]; exact b7) (oriC x) _ (cell_all (hW.at_ 0 rfl)) Tryd.underlying27 rfl (by rw [HXL.out]; kernel_rfl) ?_
            exact hK _ _ (World.grownBy.refl _ _) rfl
          · refine Or.inl ⟨fun v w h => h, ?_⟩
            intro a' W hW hb hd K hK
            have b3 := hb 3 rfl
            refine wp_load_any 25 (.tmp 3) rfl ⟨w.heap.size, 0, none⟩ (show a'.eval (.tmp 3) = _ from by simp only [Act.eval, Array.getD_eq_getD_getElem?]; exact b3) (rlsC r) _ (cell_all (hW.at_ 3 rfl)) Tryd.underlying25 rfl (by rw [HRL.out]; kernel_rfl) ?_
            exact hK _ _ (World.grownBy.refl _ _) rfl
          · refine Or.inl ⟨fun v w h => h, ?_⟩
            intro a' W hW hb hd K hK
            have b31 : a'.tmps[31]?.getD undef = _ := hd ⟨3, .data⟩ (by simp) rfl
            go_simp
            refine (HROR.out W).mono ?_
            rintro e w' ⟨rfl, hb'⟩
            exact hK _ _ (grown_of_below hb') rfl
          · refine Or.inl ⟨fun v w h => h, ?_⟩
            intro a' W hW hb hd K hK
            have b30 : a'.tmps[30]?.getD undef = _ := hd ⟨2, .data⟩ (by simp) rfl
            have b32 : a'.tmps[32]?.getD undef = _ := hd ⟨4, .data⟩ (by simp) rfl
            go_simp
            exact hK _ _ (World.grownBy.refl _ _) rfl
          · intro a' W hW hb hd K hK
            have b29 : a'.tmps[29]?.getD undef = _ := hd ⟨1, .data⟩ (by simp) rfl
            have b33 : a'.tmps[33]?.getD undef = _ := hd ⟨5, .data⟩ (by simp) rfl
            go_simp
            exact hK _ _ (World.grownBy.refl _ _) rfl
          · intro a' W hW hb hd K hK
            have b34 : a'.tmps[34]?.getD undef = _ := hd ⟨6, .data⟩ (by simp) rfl
            go_simp
            exact hK _ _ (World.grownBy.refl _ _) rfl
          · refine Or.inl ⟨fun v w h => h, ?_⟩
            intro a' W hW hb hd K hK
            have b4 := hb 4 rfl
            refine wp_load_any 27 (.tmp 4) rfl ⟨w.heap.size + 1, 0, none⟩ (show a'.eval (.tmp 4) = _ from by simp only [Act.eval, Array.getD_eq_getD_getElem?]; exact b4) (oriC a) _ (cell_all (hW.at_ 2 rfl)) Tryd.underlying27 rfl (by rw [HAL.out]; kernel_rfl) ?_
            exact hK _ _ (World.grownBy.refl _ _) rfl
          · refine Or.inl ⟨fun v w h => h, ?_⟩
            intro a' W hW hb hd K hK
            have b5 := hb 5 rfl
            refine wp_load_any 27 (.tmp 5) rfl ⟨w.heap.size + 1 + 1, 0, none⟩ (show a'.eval (.tmp 5) = _ from by simp only [Act.eval, Array.getD_eq_getD_getElem?]; exact b5) (oriC b) _ (cell_all (hW.at_ 1 rfl)) Tryd.underlying27 rfl (by rw [HBL.out]; kernel_rfl) ?_
            exact hK _ _ (World.grownBy.refl _ _) rfl
          · refine Or.inl ⟨fun v w h => h, ?_⟩
            intro a' W hW hb hd K hK
            have b36 : a'.tmps[36]?.getD undef = _ := hd ⟨8, .data⟩ (by simp) rfl
            have b37 : a'.tmps[37]?.getD undef = _ := hd ⟨9, .data⟩ (by simp) rfl
            go_simp
            refine (oLess_any W a b HA.out.1 HB.out.1).mono ?_
            rintro e w' ⟨rfl, hb'⟩
            exact hK _ _ (grown_of_below hb') (congrArg Value.bool HP.out)
          · refine Or.inl ⟨fun v w h => h, ?_⟩
            intro a' W hW hb hd K hK
            have b4 := hb 4 rfl
            refine wp_load_any 27 (.tmp 4) rfl ⟨w.heap.size + 1, 0, none⟩ (show a'.eval (.tmp 4) = _ from by simp only [Act.eval, Array.getD_eq_getD_getElem?]; exact b4) (oriC a) _ (cell_all (hW.at_ 2 rfl)) Tryd.underlying27 rfl (by rw [HAL.out]; kernel_rfl) ?_
            exact hK _ _ (World.grownBy.refl _ _) rfl
          · refine Or.inl ⟨fun v w h => h, ?_⟩
            intro a' W hW hb hd K hK
            have b5 := hb 5 rfl
            refine wp_load_any 27 (.tmp 5) rfl ⟨w.heap.size + 1 + 1, 0, none⟩ (show a'.eval (.tmp 5) = _ from by simp only [Act.eval, Array.getD_eq_getD_getElem?]; exact b5) (oriC b) _ (cell_all (hW.at_ 1 rfl)) Tryd.underlying27 rfl (by rw [HBL.out]; kernel_rfl) ?_
            exact hK _ _ (World.grownBy.refl _ _) rfl
          · refine Or.inl ⟨fun v w h => h, ?_⟩
            intro a' W hW hb hd K hK
            have b39 : a'.tmps[39]?.getD undef = _ := hd ⟨11, .data⟩ (by simp) rfl
            have b40 : a'.tmps[40]?.getD undef = _ := hd ⟨12, .data⟩ (by simp) rfl
            go_simp
            refine (roLess_any W a b HA.out.1 HB.out.1).mono ?_
            rintro e w' ⟨rfl, hb'⟩
            exact hK _ _ (grown_of_below hb') (congrArg Value.bool HRP.out)
          · refine Or.inl ⟨fun v w h => h, ?_⟩
            intro a' W hW hb hd K hK
            have b38 : a'.tmps[38]?.getD undef = _ := hd ⟨10, .data⟩ (by simp) rfl
            have b41 : a'.tmps[41]?.getD undef = _ := hd ⟨13, .data⟩ (by simp) rfl
            go_simp
            exact hK _ _ (World.grownBy.refl _ _) rfl
          · intro a' W hW hb hd K hK
            have b35 : a'.tmps[35]?.getD undef = _ := hd ⟨7, .data⟩ (by simp) rfl
            have b42 : a'.tmps[42]?.getD undef = _ := hd ⟨14, .data⟩ (by simp) rfl
            go_simp
            exact hK _ _ (World.grownBy.refl _ _) rfl
          · intro a' W hW hb hd K hK
            have b43 : a'.tmps[43]?.getD undef = _ := hd ⟨15, .data⟩ (by simp) rfl
            go_simp
            exact hK _ _ (World.grownBy.refl _ _) rfl
          · refine Or.inl ⟨fun v w h => h, ?_⟩
            intro a' W hW hb hd K hK
            have b4 := hb 4 rfl
            refine wp_load_any 27 (.tmp 4) rfl ⟨w.heap.size + 1, 0, none⟩ (show a'.eval (.tmp 4) = _ from by simp only [Act.eval, Array.getD_eq_getD_getElem?]; exact b4) (oriC a) _ (cell_all (hW.at_ 2 rfl)) Tryd.underlying27 rfl (by rw [HAL.out]; kernel_rfl) ?_
            exact hK _ _ (World.grownBy.refl _ _) rfl
          · refine Or.inl ⟨fun v w h => h, ?_⟩
            intro a' W hW hb hd K hK
            have b5 := hb 5 rfl
            refine wp_load_any 27 (.tmp 5) rfl ⟨w.heap.size + 1 + 1, 0, none⟩ (show a'.eval (.tmp 5) = _ from by simp only [Act.eval, Array.getD_eq_getD_getElem?]; exact b5) (oriC b) _ (cell_all (hW.at_ 1 rfl)) Tryd.underlying27 rfl (by rw [HBL.out]; kernel_rfl) ?_
            exact hK _ _ (World.grownBy.refl _ _) rfl
          · refine Or.inl ⟨fun v w h => h, ?_⟩
            intro a' W hW hb hd K hK
            have b45 : a'.tmps[45]?.getD undef = _ := hd ⟨17, .data⟩ (by simp) rfl
            have b46 : a'.tmps[46]?.getD undef = _ := hd ⟨18, .data⟩ (by simp) rfl
            go_simp
            refine (oLess_any W a b HA.out.1 HB.out.1).mono ?_
            rintro e w' ⟨rfl, hb'⟩
            exact hK _ _ (grown_of_below hb') (congrArg Value.bool HP.out)
          · refine Or.inl ⟨fun v w h => h, ?_⟩
            intro a' W hW hb hd K hK
            have b47 : a'.tmps[47]?.getD undef = _ := hd ⟨19, .data⟩ (by simp) rfl
            go_simp
            exact hK _ _ (World.grownBy.refl _ _) rfl
          · exact Or.inr ⟨fun v w h => h, fun w => rfl⟩
          · exact Or.inr ⟨fun v w h => h, fun w => rfl⟩
          · exact Or.inr ⟨fun v w h => h, fun w => rfl⟩
          · refine Or.inl ⟨fun v w h => h, ?_⟩
            intro a' W hW hb hd K hK
            have b48 : a'.tmps[48]?.getD undef = _ := hd ⟨20, .data⟩ (by simp) rfl
            have b51 : a'.tmps[51]?.getD undef = _ := hd ⟨23, .data⟩ (by simp) rfl
            go_simp
            exact hK _ _ (World.grownBy.refl _ _) rfl
          · refine Or.inl ⟨fun v w h => h, ?_⟩
            intro a' W hW hb hd K hK
            have b4 := hb 4 rfl
            refine wp_load_any 27 (.tmp 4) rfl ⟨w.heap.size + 1, 0, none⟩ (show a'.eval (.tmp 4) = _ from by simp only [Act.eval, Array.getD_eq_getD_getElem?]; exact b4) (oriC a) _ (cell_all (hW.at_ 2 rfl)) Tryd.underlying27 rfl (by rw [HAL.out]; kernel_rfl) ?_
            exact hK _ _ (World.grownBy.refl _ _) rfl
          · refine Or.inl ⟨fun v w h => h, ?_⟩
            intro a' W hW hb hd K hK
            have b5 := hb 5 rfl
            refine wp_load_any 27 (.tmp 5) rfl ⟨w.heap.size + 1 + 1, 0, none⟩ (show a'.eval (.tmp 5) = _ from by simp only [Act.eval, Array.getD_eq_getD_getElem?]; exact b5) (oriC b) _ (cell_all (hW.at_ 1 rfl)) Tryd.underlying27 rfl (by rw [HBL.out]; kernel_rfl) ?_
            exact hK _ _ (World.grownBy.refl _ _) rfl
          · refine Or.inl ⟨fun v w h => h, ?_⟩
            intro a' W hW hb hd K hK
            have b53 : a'.tmps[53]?.getD undef = _ := hd ⟨25, .data⟩ (by simp) rfl
            have b54 : a'.tmps[54]?.getD undef = _ := hd ⟨26, .data⟩ (by simp) rfl
            go_simp
            exact hK _ _ (World.grownBy.refl _ _) rfl
          · refine Or.inl ⟨fun v w h => h, ?_⟩
            intro a' W hW hb hd K hK
            have b52 : a'.tmps[52]?.getD undef = _ := hd ⟨24, .data⟩ (by simp) rfl
            have b55 : a'.tmps[55]?.getD undef = _ := hd ⟨27, .data⟩ (by simp) rfl
            go_simp
            exact hK _ _ (World.grownBy.refl _ _) rfl
          · intro a' W hW hb hd K hK
            have b44 : a'.tmps[44]?.getD undef = _ := hd ⟨16, .data⟩ (by simp) rfl
            have b56 : a'.tmps[56]?.getD undef = _ := hd ⟨28, .data⟩ (by simp) rfl
            go_simp
            exact hK _ _ (World.grownBy.refl _ _) rfl
          · intro a' W hW hb hd K hK
            have b57 : a'.tmps[57]?.getD undef = _ := hd ⟨29, .data⟩ (by simp) rfl
            go_simp
            exact hK _ _ (World.grownBy.refl _ _) rfl
          · refine Or.inl ⟨fun v w h => h, ?_⟩
            intro a' W hW hb hd K hK
            have b4 := hb 4 rfl
            refine wp_load_any 27 (.tmp 4) rfl ⟨w.heap.size + 1, 0, none⟩ (show a'.eval (.tmp 4) = _ from by simp only [Act.eval, Array.getD_eq_getD_getElem?]; exact b4) (oriC a) _ (cell_all (hW.at_ 2 rfl)) Tryd.underlying27 rfl (by rw [HAL.out]; kernel_rfl) ?_
            exact hK _ _ (World.grownBy.refl _ _) rfl
          · refine Or.inl ⟨fun v w h => h, ?_⟩
            intro a' W hW hb hd K hK
            have b4 := hb 4 rfl
            refine wp_load_any 27 (.tmp 4) rfl ⟨w.heap.size + 1, 0, none⟩ (show a'.eval (.tmp 4) = _ from by simp only [Act.eval, Array.getD_eq_getD_getElem?]; exact b4) (oriC a) _ (cell_all (hW.at_ 2 rfl)) Tryd.underlying27 rfl (by rw [HAL.out]; kernel_rfl) ?_
            exact hK _ _ (World.grownBy.refl _ _) rfl
          · refine Or.inl ⟨fun v w h => h, ?_⟩
            intro a' W hW hb hd K hK
            have b59 : a'.tmps[59]?.getD undef = _ := hd ⟨31, .data⟩ (by simp) rfl
            have b60 : a'.tmps[60]?.getD undef = _ := hd ⟨32, .data⟩ (by simp) rfl
            go_simp
            refine (oLess_any W a a HA.out.1 HA.out.1).mono ?_
            rintro e w' ⟨rfl, hb'⟩
            exact hK _ _ (grown_of_below hb') (congrArg Value.bool HIR.out)
          · refine Or.inl ⟨fun v w h => h, ?_⟩
            intro a' W hW hb hd K hK
            have b61 : a'.tmps[61]?.getD undef = _ := hd ⟨33, .data⟩ (by simp) rfl
            go_simp
            exact hK _ _ (World.grownBy.refl _ _) rfl
          · intro a' W hW hb hd K hK
            have b58 : a'.tmps[58]?.getD undef = _ := hd ⟨30, .data⟩ (by simp) rfl
            have b62 : a'.tmps[62]?.getD undef = _ := hd ⟨34, .data⟩ (by simp) rfl
            go_simp
            exact hK _ _ (World.grownBy.refl _ _) rfl
          · intro a' W hW hb hd K hK
            have b63 : a'.tmps[63]?.getD undef = _ := hd ⟨35, .data⟩ (by simp) rfl
            go_simp
            exact hK _ _ (World.grownBy.refl _ _) rfl
          · refine Or.inl ⟨fun v w h => h, ?_⟩
            intro a' W hW hb hd K hK
            have b4 := hb 4 rfl
            refine wp_load_any 27 (.tmp 4) rfl ⟨w.heap.size + 1, 0, none⟩ (show a'.eval (.tmp 4) = _ from by simp only [Act.eval, Array.getD_eq_getD_getElem?]; exact b4) (oriC a) _ (cell_all (hW.at_ 2 rfl)) Tryd.underlying27 rfl (by rw [HAL.out]; kernel_rfl) ?_
            exact hK _ _ (World.grownBy.refl _ _) rfl
          · refine Or.inl ⟨fun v w h => h, ?_⟩
            intro a' W hW hb hd K hK
            have b7 := hb 7 rfl
            refine wp_load_any 27 (.tmp 7) rfl ⟨g, 0, none⟩ (show a'.eval (.tmp 7) = _ from by simp only [Act.eval, Array.getD_eq_getD_getElem?]; exact b7) (oriC x) _ (cell_all (hW.at_ 0 rfl)) Tryd.underlying27 rfl (by rw [HXL.out]; kernel_rfl) ?_
            exact hK _ _ (World.grownBy.refl _ _) rfl
          · refine Or.inl ⟨fun v w h => h, ?_⟩
            intro a' W hW hb hd K hK
            have b65 : a'.tmps[65]?.getD undef = _ := hd ⟨37, .data⟩ (by simp) rfl
            have b66 : a'.tmps[66]?.getD undef = _ := hd ⟨38, .data⟩ (by simp) rfl
            go_simp
            refine (oLess_any W a x HA.out.1 HX.out.1).mono ?_
            rintro e w' ⟨rfl, hb'⟩
            exact hK _ _ (grown_of_below hb') (congrArg Value.bool HU.out)
          · refine Or.inl ⟨fun v w h => h, ?_⟩
            intro a' W hW hb hd K hK
            have b4 := hb 4 rfl
            refine wp_load_any 27 (.tmp 4) rfl ⟨w.heap.size + 1, 0, none⟩ (show a'.eval (.tmp 4) = _ from by simp only [Act.eval, Array.getD_eq_getD_getElem?]; exact b4) (oriC a) _ (cell_all (hW.at_ 2 rfl)) Tryd.underlying27 rfl (by rw [HAL.out]; kernel_rfl) ?_
            exact hK _ _ (World.grownBy.refl _ _) rfl
          · refine Or.inl ⟨fun v w h => h, ?_⟩
            intro a' W hW hb hd K hK
            have b7 := hb 7 rfl
            refine wp_load_any 27 (.tmp 7) rfl ⟨g, 0, none⟩ (show a'.eval (.tmp 7) = _ from by simp only [Act.eval, Array.getD_eq_getD_getElem?]; exact b7) (oriC x) _ (cell_all (hW.at_ 0 rfl)) Tryd.underlying27 rfl (by rw [HXL.out]; kernel_rfl) ?_
            exact hK _ _ (World.grownBy.refl _ _) rfl
          · refine Or.inl ⟨fun v w h => h, ?_⟩
            intro a' W hW hb hd K hK
            have b68 : a'.tmps[68]?.getD undef = _ := hd ⟨40, .data⟩ (by simp) rfl
            have b69 : a'.tmps[69]?.getD undef = _ := hd ⟨41, .data⟩ (by simp) rfl
            go_simp
            refine (roLess_any W a x HA.out.1 HX.out.1).mono ?_
            rintro e w' ⟨rfl, hb'⟩
            exact hK _ _ (grown_of_below hb') (congrArg Value.bool HRU.out)
          · refine Or.inl ⟨fun v w h => h, ?_⟩
            intro a' W hW hb hd K hK
            have b67 : a'.tmps[67]?.getD undef = _ := hd ⟨39, .data⟩ (by simp) rfl
            have b70 : a'.tmps[70]?.getD undef = _ := hd ⟨42, .data⟩ (by simp) rfl
            go_simp
            exact hK _ _ (World.grownBy.refl _ _) rfl
          · intro a' W hW hb hd K hK
            have b64 : a'.tmps[64]?.getD undef = _ := hd ⟨36, .data⟩ (by simp) rfl
            have b71 : a'.tmps[71]?.getD undef = _ := hd ⟨43, .data⟩ (by simp) rfl
            go_simp
            exact hK _ _ (World.grownBy.refl _ _) rfl
        case fin =>
          intro vs V hV hv
          have e44 : vs 44 = .bool true := hv 44 (by decide)
          clear hv
          simp only [putAll, List.drop_succ_cons, List.drop_zero, e44, Act.put, List.setIfInBounds_toArray, List.set_cons_succ, List.set_cons_zero]
          clear e44
          go_wp2_with fail
          go_ret
          exact ⟨rfl, (hV.at_ 4 rfl : _ ∧ _).1⟩
      | false =>
        rw [hp] at htot
        have HP := Lib.hid hp
        have HRP := Lib.hid ((lessO_r a b).trans hp)
        have hne1 : ∀ W, (binOp .neq 27 (.agg (oriC a).toArray) (.agg (oriC b).toArray)).run Tryd.prog W = .ok (.bool q) W := fun W => by
          have h := ne_ori W a b HA.out HB.out
          rwa [← htot] at h
        clear htot hp
        refine wp_region_hops 45 [28, 29, 30, 31, 32, 33, 34, 35, 36, 37, 38, 39, 40, 41, 42, 43, 44, 45, 46, 47, 48, 49, 50, 51, 52, 53, 54, 55, 56, 57, 58, 59, 60, 61, 62, 63, 64, 65, 66, 67, 68, 69, 70, 71, 72] _
          [.eq (.bool true), .eq (.bool true), .eq (.agg (oriC x).toArray), .eq (.agg (rlsC r).toArray), .eq (.agg (oriC x).toArray), .eq (.bool true), .eq (.bool true), .eq (.bool true), .eq (.agg (oriC a).toArray), .eq (.agg (oriC b).toArray), .eq (.bool false), .eq (.agg (oriC a).toArray), .eq (.agg (oriC b).toArray), .eq (.bool false), .eq (.bool true), .eq (.bool true), .eq (.bool true), .eq (.agg (oriC a).toArray), .eq (.agg (oriC b).toArray), .eq (.bool false), .eq (.bool false), .eq (.agg (oriC b).toArray), .eq (.agg (oriC a).toArray), .eq (.bool q), .eq (.bool q), .eq (.agg (oriC a).toArray), .eq (.agg (oriC b).toArray), .eq (.bool q), .eq (.bool true), .eq (.bool true), .eq (.bool true), .eq (.agg (oriC a).toArray), .eq (.agg (oriC a).toArray), .eq (.bool false), .eq (.bool true), .eq (.bool true), .eq (.bool true), .eq (.agg (oriC a).toArray), .eq (.agg (oriC x).toArray), .eq (.bool u), .eq (.agg (oriC a).toArray), .eq (.agg (oriC x).toArray), .eq (.bool u), .eq (.bool true), .eq (.bool true)]
          (by kernel_rfl) (by kernel_rfl) hI rfl ?hops ?fin
        case hops =>
          refine ⟨?_, ?_, ?_, ?_, ?_, ?_, ?_, ?_, ?_, ?_, ?_, ?_, ?_, ?_, ?_, ?_, ?_, ?_, ?_, ?_, ?_, ?_, ?_, ?_, ?_, ?_, ?_, ?_, ?_, ?_, ?_, ?_, ?_, ?_, ?_, ?_, ?_, ?_, ?_, ?_, ?_, ?_, ?_, ?_, ?_, trivial⟩
          · intro a' W hW hb hd K hK
            go_simp
            refine (awake_any W (HT.out W (hW.at_ 4 rfl : _ ∧ _).1)).mono ?_
            rintro e w' ⟨rfl, hb'⟩
            exact hK _ _ (grown_of_below hb') rfl
          · intro a' W hW hb hd K hK
            have b28 : a'.tmps[28]?.getD undef = _ := hd ⟨0, .data⟩ (by simp) rfl
            go_simp
            exact hK _ _ (World.grownBy.refl _ _) rfl
          · refine Or.inl ⟨fun v w h => h, ?_⟩
            intro a' W hW hb hd K hK
            have b7 := hb 7 rfl
            refine wp_load_any 27 (.tmp 7) rfl ⟨g, 0, none⟩ (show a'.eval (.tmp 7) = _ from by simp only [Act.eval, Array.getD_eq_getD_getElem?]; exact b7) (oriC x) _ (cell_all (hW.at_ 0 rfl)) Tryd.underlying27 rfl (by rw [HXL.out]; kernel_rfl) ?_
            exact hK _ _ (World.grownBy.refl _ _) rfl
          · refine Or.inl ⟨fun v w h => h, ?_⟩
            intro a' W hW hb hd K hK
            have b3 := hb 3 rfl
            refine wp_load_any 25 (.tmp 3) rfl ⟨w.heap.size, 0, none⟩ (show a'.eval (.tmp 3) = _ from by simp only [Act.eval, Array.getD_eq_getD_getElem?]; exact b3) (rlsC r) _ (cell_all (hW.at_ 3 rfl)) Tryd.underlying25 rfl (by rw [HRL.out]; kernel_rfl) ?_
            exact hK _ _ (World.grownBy.refl _ _) rfl
          · refine Or.inl ⟨fun v w h => h, ?_⟩
            intro a' W hW hb hd K hK
            have b31 : a'.tmps[31]?.getD undef = _ := hd ⟨3, .data⟩ (by simp) rfl
            go_simp
            refine (HROR.out W).mono ?_
            rintro e w' ⟨rfl, hb'⟩
            exact hK _ _ (grown_of_below hb') rfl
          · refine Or.inl ⟨fun v w h => h, ?_⟩
            intro a' W hW hb hd K hK
            have b30 : a'.tmps[30]?.getD undef = _ := hd ⟨2, .data⟩ (by simp) rfl
            have b32 : a'.tmps[32]?.getD undef = _ := hd ⟨4, .data⟩ (by simp) rfl
            go_simp
            exact hK _ _ (World.grownBy.refl _ _) rfl
          · intro a' W hW hb hd K hK
            have b29 : a'.tmps[29]?.getD undef = _ := hd ⟨1, .data⟩ (by simp) rfl
            have b33 : a'.tmps[33]?.getD undef = _ := hd ⟨5, .data⟩ (by simp) rfl
            go_simp
            exact hK _ _ (World.grownBy.refl _ _) rfl
          · intro a' W hW hb hd K hK
            have b34 : a'.tmps[34]?.getD undef = _ := hd ⟨6, .data⟩ (by simp) rfl
            go_simp
            exact hK _ _ (World.grownBy.refl _ _) rfl
          · refine Or.inl ⟨fun v w h => h, ?_⟩
            intro a' W hW hb hd K hK
            have b4 := hb 4 rfl
            refine wp_load_any 27 (.tmp 4) rfl ⟨w.heap.size + 1, 0, none⟩ (show a'.eval (.tmp 4) = _ from by simp only [Act.eval, Array.getD_eq_getD_getElem?]; exact b4) (oriC a) _ (cell_all (hW.at_ 2 rfl)) Tryd.underlying27 rfl (by rw [HAL.out]; kernel_rfl) ?_
            exact hK _ _ (World.grownBy.refl _ _) rfl
          · refine Or.inl ⟨fun v w h => h, ?_⟩
            intro a' W hW hb hd K hK
            have b5 := hb 5 rfl
            refine wp_load_any 27 (.tmp 5) rfl ⟨w.heap.size + 1 + 1, 0, none⟩ (show a'.eval (.tmp 5) = _ from by simp only [Act.eval, Array.getD_eq_getD_getElem?]; exact b5) (oriC b) _ (cell_all (hW.at_ 1 rfl)) Tryd.underlying27 rfl (by rw [HBL.out]; kernel_rfl) ?_
            exact hK _ _ (World.grownBy.refl _ _) rfl
          · refine Or.inl ⟨fun v w h => h, ?_⟩
            intro a' W hW hb hd K hK
            have b36 : a'.tmps[36]?.getD undef = _ := hd ⟨8, .data⟩ (by simp) rfl
            have b37 : a'.tmps[37]?.getD undef = _ := hd ⟨9, .data⟩ (by simp) rfl
            go_simp
            refine (oLess_any W a b HA.out.1 HB.out.1).mono ?_
            rintro e w' ⟨rfl, hb'⟩
            exact hK _ _ (grown_of_below hb') (congrArg Value.bool HP.out)
          · refine Or.inl ⟨fun v w h => h, ?_⟩
            intro a' W hW hb hd K hK
            have b4 := hb 4 rfl
            refine wp_load_any 27 (.tmp 4) rfl ⟨w.heap.size + 1, 0, none⟩ (show a'.eval (.tmp 4) = _ from by simp only [Act.eval, Array.getD_eq_getD_getElem?]; exact b4) (oriC a) _ (cell_all (hW.at_ 2 rfl)) Tryd.underlying27 rfl (by rw [HAL.out]; kernel_rfl) ?_
            exact hK _ _ (World.grownBy.refl _ _) rfl
          · refine Or.inl ⟨fun v w h => h, ?_⟩
            intro a' W hW hb hd K hK
            have b5 := hb 5 rfl
            refine wp_load_any 27 (.tmp 5) rfl ⟨w.heap.size + 1 + 1, 0, none⟩ (show a'.eval (.tmp 5) = _ from by simp only [Act.eval, Array.getD_eq_getD_getElem?]; exact b5) (oriC b) _ (cell_all (hW.at_ 1 rfl)) Tryd.underlying27 rfl (by rw [HBL.out]; kernel_rfl) ?_
            exact hK _ _ (World.grownBy.refl _ _) rfl
          · refine Or.inl ⟨fun v w h => h, ?_⟩
            intro a' W hW hb hd K hK
            have b39 : a'.tmps[39]?.getD undef = _ := hd ⟨11, .data⟩ (by simp) rfl
            have b40 : a'.tmps[40]?.getD undef = _ := hd ⟨12, .data⟩ (by simp) rfl
            go_simp
            refine (roLess_any W a b HA.out.1 HB.out.1).mono ?_
            rintro e w' ⟨rfl, hb'⟩
            exact hK _ _ (grown_of_below hb') (congrArg Value.bool HRP.out)
          · refine Or.inl ⟨fun v w h => h, ?_⟩
            intro a' W hW hb hd K hK
            have b38 : a'.tmps[38]?.getD undef = _ := hd ⟨10, .data⟩ (by simp) rfl
            have b41 : a'.tmps[41]?.getD undef = _ := hd ⟨13, .data⟩ (by simp) rfl
            go_simp
            exact hK _ _ (World.grownBy.refl _ _) rfl
          · intro a' W hW hb hd K hK
            have b35 : a'.tmps[35]?.getD undef = _ := hd ⟨7, .data⟩ (by simp) rfl
            have b42 : a'.tmps[42]?.getD undef = _ := hd ⟨14, .data⟩ (by simp) rfl
            go_simp
            exact hK _ _ (World.grownBy.refl _ _) rfl
          · intro a' W hW hb hd K hK
            have b43 : a'.tmps[43]?.getD undef = _ := hd ⟨15, .data⟩ (by simp) rfl
            go_simp
            exact hK _ _ (World.grownBy.refl _ _) rfl
          · refine Or.inl ⟨fun v w h => h, ?_⟩
            intro a' W hW hb hd K hK
            have b4 := hb 4 rfl
            refine wp_load_any 27 (.tmp 4) rfl ⟨w.heap.size + 1, 0, none⟩ (show a'.eval (.tmp 4) = _ from by simp only [Act.eval, Array.getD_eq_getD_getElem?]; exact b4) (oriC a) _ (cell_all (hW.at_ 2 rfl)) Tryd.underlying27 rfl (by rw [HAL.out]; kernel_rfl) ?_
            exact hK _ _ (World.grownBy.refl _ _) rfl
          · refine Or.inl ⟨fun v w h => h, ?_⟩
            intro a' W hW hb hd K hK
            have b5 := hb 5 rfl
            refine wp_load_any 27 (.tmp 5) rfl ⟨w.heap.size + 1 + 1, 0, none⟩ (show a'.eval (.tmp 5) = _ from by simp only [Act.eval, Array.getD_eq_getD_getElem?]; exact b5) (oriC b) _ (cell_all (hW.at_ 1 rfl)) Tryd.underlying27 rfl (by rw [HBL.out]; kernel_rfl) ?_
            exact hK _ _ (World.grownBy.refl _ _) rfl
          · refine Or.inl ⟨fun v w h => h, ?_⟩
            intro a' W hW hb hd K hK
            have b45 : a'.tmps[45]?.getD undef = _ := hd ⟨17, .data⟩ (by simp) rfl
            have b46 : a'.tmps[46]?.getD undef = _ := hd ⟨18, .data⟩ (by simp) rfl
            go_simp
            refine (oLess_any W a b HA.out.1 HB.out.1).mono ?_
            rintro e w' ⟨rfl, hb'⟩
            exact hK _ _ (grown_of_below hb') (congrArg Value.bool HP.out)
          · refine Or.inl ⟨fun v w h => h, ?_⟩
            intro a' W hW hb hd K hK
            have b47 : a'.tmps[47]?.getD undef = _ := hd ⟨19, .data⟩ (by simp) rfl
            go_simp
            exact hK _ _ (World.grownBy.refl _ _) rfl
          · refine Or.inl ⟨fun v w h => h, ?_⟩
            intro a' W hW hb hd K hK
            have b5 := hb 5 rfl
            refine wp_load_any 27 (.tmp 5) rfl ⟨w.heap.size + 1 + 1, 0, none⟩ (show a'.eval (.tmp 5) = _ from by simp only [Act.eval, Array.getD_eq_getD_getElem?]; exact b5) (oriC b) _ (cell_all (hW.at_ 1 rfl)) Tryd.underlying27 rfl (by rw [HBL.out]; kernel_rfl) ?_
            exact hK _ _ (World.grownBy.refl _ _) rfl
          · refine Or.inl ⟨fun v w h => h, ?_⟩
            intro a' W hW hb hd K hK
            have b4 := hb 4 rfl
            refine wp_load_any 27 (.tmp 4) rfl ⟨w.heap.size + 1, 0, none⟩ (show a'.eval (.tmp 4) = _ from by simp only [Act.eval, Array.getD_eq_getD_getElem?]; exact b4) (oriC a) _ (cell_all (hW.at_ 2 rfl)) Tryd.underlying27 rfl (by rw [HAL.out]; kernel_rfl) ?_
            exact hK _ _ (World.grownBy.refl _ _) rfl
          · refine Or.inl ⟨fun v w h => h, ?_⟩
            intro a' W hW hb hd K hK
            have b49 : a'.tmps[49]?.getD undef = _ := hd ⟨21, .data⟩ (by simp) rfl
            have b50 : a'.tmps[50]?.getD undef = _ := hd ⟨22, .data⟩ (by simp) rfl
            go_simp
            refine (oLess_any W b a HB.out.1 HA.out.1).mono ?_
            rintro e w' ⟨rfl, hb'⟩
            exact hK _ _ (grown_of_below hb') (congrArg Value.bool HQ.out)
          · refine Or.inl ⟨fun v w h => h, ?_⟩
            intro a' W hW hb hd K hK
            have b48 : a'.tmps[48]?.getD undef = _ := hd ⟨20, .data⟩ (by simp) rfl
            have b51 : a'.tmps[51]?.getD undef = _ := hd ⟨23, .data⟩ (by simp) rfl
            go_simp
            exact hK _ _ (World.grownBy.refl _ _) rfl
          · refine Or.inl ⟨fun v w h => h, ?_⟩
            intro a' W hW hb hd K hK
            have b4 := hb 4 rfl
            refine wp_load_any 27 (.tmp 4) rfl ⟨w.heap.size + 1, 0, none⟩ (show a'.eval (.tmp 4) = _ from by simp only [Act.eval, Array.getD_eq_getD_getElem?]; exact b4) (oriC a) _ (cell_all (hW.at_ 2 rfl)) Tryd.underlying27 rfl (by rw [HAL.out]; kernel_rfl) ?_
            exact hK _ _ (World.grownBy.refl _ _) rfl
          · refine Or.inl ⟨fun v w h => h, ?_⟩
            intro a' W hW hb hd K hK
            have b5 := hb 5 rfl
            refine wp_load_any 27 (.tmp 5) rfl ⟨w.heap.size + 1 + 1, 0, none⟩ (show a'.eval (.tmp 5) = _ from by simp only [Act.eval, Array.getD_eq_getD_getElem?]; exact b5) (oriC b) _ (cell_all (hW.at_ 1 rfl)) Tryd.underlying27 rfl (by rw [HBL.out]; kernel_rfl) ?_
            exact hK _ _ (World.grownBy.refl _ _) rfl
          · refine Or.inl ⟨fun v w h => h, ?_⟩
            intro a' W hW hb hd K hK
            have b53 : a'.tmps[53]?.getD undef = _ := hd ⟨25, .data⟩ (by simp) rfl
            have b54 : a'.tmps[54]?.getD undef = _ := hd ⟨26, .data⟩ (by simp) rfl
            go_simp
            exact hK _ _ (World.grownBy.refl _ _) rfl
          · refine Or.inl ⟨fun v w h => h, ?_⟩
            intro a' W hW hb hd K hK
            have b52 : a'.tmps[52]?.getD undef = _ := hd ⟨24, .data⟩ (by simp) rfl
            have b55 : a'.tmps[55]?.getD undef = _ := hd ⟨27, .data⟩ (by simp) rfl
            go_simp
            exact hK _ _ (World.grownBy.refl _ _) rfl
          · intro a' W hW hb hd K hK
            have b44 : a'.tmps[44]?.getD undef = _ := hd ⟨16, .data⟩ (by simp) rfl
            have b56 : a'.tmps[56]?.getD undef = _ := hd ⟨28, .data⟩ (by simp) rfl
            go_simp
            exact hK _ _ (World.grownBy.refl _ _) rfl
          · intro a' W hW hb hd K hK
            have b57 : a'.tmps[57]?.getD undef = _ := hd ⟨29, .data⟩ (by simp) rfl
            go_simp
            exact hK _ _ (World.grownBy.refl _ _) rfl
          · refine Or.inl ⟨fun v w h => h, ?_⟩
            intro a' W hW hb hd K hK
            have b4 := hb 4 rfl
            refine wp_load_any 27 (.tmp 4) rfl ⟨w.heap.size + 1, 0, none⟩ (show a'.eval (.tmp 4) = _ from by simp only [Act.eval, Array.getD_eq_getD_getElem?]; exact b4) (oriC a) _ (cell_all (hW.at_ 2 rfl)) Tryd.underlying27 rfl (by rw [HAL.out]; kernel_rfl) ?_
            exact hK _ _ (World.grownBy.refl _ _) rfl
          · refine Or.inl ⟨fun v w h => h, ?_⟩
            intro a' W hW hb hd K hK
            have b4 := hb 4 rfl
            refine wp_load_any 27 (.tmp 4) rfl ⟨w.heap.size + 1, 0, none⟩ (show a'.eval (.tmp 4) = _ from by simp only [Act.eval, Array.getD_eq_getD_getElem?]; exact b4) (oriC a) _ (cell_all (hW.at_ 2 rfl)) Tryd.underlying27 rfl (by rw [HAL.out]; kernel_rfl) ?_
            exact hK _ _ (World.grownBy.refl _ _) rfl
          · refine Or.inl ⟨fun v w h => h, ?_⟩
            intro a' W hW hb hd K hK
            have b59 : a'.tmps[59]?.getD undef = _ := hd ⟨31, .data⟩ (by simp) rfl
            have b60 : a'.tmps[60]?.getD undef = _ := hd ⟨32, .data⟩ (by simp) rfl
            go_simp
            refine (oLess_any W a a HA.out.1 HA.out.1).mono ?_
            rintro e w' ⟨rfl, hb'⟩
            exact hK _ _ (grown_of_below hb') (congrArg Value.bool HIR.out)
          · refine Or.inl ⟨fun v w h => h, ?_⟩
            intro a' W hW hb hd K hK
            have b61 : a'.tmps[61]?.getD undef = _ := hd ⟨33, .data⟩ (by simp) rfl
            go_simp
            exact hK _ _ (World.grownBy.refl _ _) rfl
          · intro a' W hW hb hd K hK
            have b58 : a'.tmps[58]?.getD undef = _ := hd ⟨30, .data⟩ (by simp) rfl
            have b62 : a'.tmps[62]?.getD undef = _ := hd ⟨34, .data⟩ (by simp) rfl
            go_simp
            exact hK _ _ (World.grownBy.refl _ _) rfl
          · intro a' W hW hb hd K hK
            have b63 : a'.tmps[63]?.getD undef = _ := hd ⟨35, .data⟩ (by simp) rfl
            go_simp
            exact hK _ _ (World.grownBy.refl _ _) rfl
          · refine Or.inl ⟨fun v w h => h, ?_⟩
            intro a' W hW hb hd K hK
            have b4 := hb 4 rfl
            refine wp_load_any 27 (.tmp 4) rfl ⟨w.heap.size + 1, 0, none⟩ (show a'.eval (.tmp 4) = _ from by simp only [Act.eval, Array.getD_eq_getD_getElem?]; exact b4) (oriC a) _ (cell_all (hW.at_ 2 rfl)) Tryd.underlying27 rfl (by rw [HAL.out]; kernel_rfl) ?_
            exact hK _ _ (World.grownBy.refl _ _) rfl
          · refine Or.inl ⟨fun v w h => h, ?_⟩
            intro a' W hW hb hd K hK
            have b7 := hb 7 rfl
            refine wp_load_any 27 (.tmp 7) rfl ⟨g, 0, none⟩ (show a'.eval (.tmp 7) = _ from by simp only [Act.eval, Array.getD_eq_getD_getElem?]; exact b7) (oriC x) _ (cell_all (hW.at_ 0 rfl)) Tryd.underlying27 rfl (by rw [HXL.out]; kernel_rfl) ?_
            exact hK _ _ (World.grownBy.refl _ _) rfl
          · refine Or.inl ⟨fun v w h => h, ?_⟩
            intro a' W hW hb hd K hK
            have b65 : a'.tmps[65]?.getD undef = _ := hd ⟨37, .data⟩ (by simp) rfl
            have b66 : a'.tmps[66]?.getD undef = _ := hd ⟨38, .data⟩ (by simp) rfl
            go_simp
            refine (oLess_any W a x HA.out.1 HX.out.1).mono ?_
            rintro e w' ⟨rfl, hb'⟩
            exact hK _ _ (grown_of_below hb') (congrArg Value.bool HU.out)
          · refine Or.inl ⟨fun v w h => h, ?_⟩
            intro a' W hW hb hd K hK
            have b4 := hb 4 rfl
            refine wp_load_any 27 (.tmp 4) rfl ⟨w.heap.size + 1, 0, none⟩ (show a'.eval (.tmp 4) = _ from by simp only [Act.eval, Array.getD_eq_getD_getElem?]; exact b4) (oriC a) _ (cell_all (hW.at_ 2 rfl)) Tryd.underlying27 rfl (by rw [HAL.out]; kernel_rfl) ?_
            exact hK _ _ (World.grownBy.refl _ _) rfl
          · refine Or.inl ⟨fun v w h => h, ?_⟩
            intro a' W hW hb hd K hK
            have b7 := hb 7 rfl
            refine wp_load_any 27 (.tmp 7) rfl ⟨g, 0, none⟩ (show a'.eval (.tmp 7) = _ from by simp only [Act.eval, Array.getD_eq_getD_getElem?]; exact b7) (oriC x) _ (cell_all (hW.at_ 0 rfl)) Tryd.underlying27 rfl (by rw [HXL.out]; kernel_rfl) ?_
            exact hK _ _ (World.grownBy.refl _ _) rfl
          · refine Or.inl ⟨fun v w h => h, ?_⟩
            intro a' W hW hb hd K hK
            have b68 : a'.tmps[68]?.getD undef = _ := hd ⟨40, .data⟩ (by simp) rfl
            have b69 : a'.tmps[69]?.getD undef = _ := hd ⟨41, .data⟩ (by simp) rfl
            go_simp
            refine (roLess_any W a x HA.out.1 HX.out.1).mono ?_
            rintro e w' ⟨rfl, hb'⟩
            exact hK _ _ (grown_of_below hb') (congrArg Value.bool HRU.out)
          · refine Or.inl ⟨fun v w h => h, ?_⟩
            intro a' W hW hb hd K hK
            have b67 : a'.tmps[67]?.getD undef = _ := hd ⟨39, .data⟩ (by simp) rfl
            have b70 : a'.tmps[70]?.getD undef = _ := hd ⟨42, .data⟩ (by simp) rfl
            go_simp
            exact hK _ _ (World.grownBy.refl _ _) rfl
          · intro a' W hW hb hd K hK
            have b64 : a'.tmps[64]?.getD undef = _ := hd ⟨36, .data⟩ (by simp) rfl
            have b71 : a'.tmps[71]?.getD undef = _ := hd ⟨43, .data⟩ (by simp) rfl
            go_simp
            exact hK _ _ (World.grownBy.refl _ _) rfl
        case fin =>
          intro vs V hV hv
          have e44 : vs 44 = .bool true := hv 44 (by decide)
          clear hv
          simp only [putAll, List.drop_succ_cons, List.drop_zero, e44, Act.put, List.setIfInBounds_toArray, List.set_cons_succ, List.set_cons_zero]
          clear e44
          go_wp2_with fail
          go_ret
          exact ⟨rfl, (hV.at_ 4 rfl : _ ∧ _).1⟩
end Go.Proofs.YtkdblhlehagmbaaDoor

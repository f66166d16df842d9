/- The encoded form of an approval: the reference. -/
import Derived.Test.YthlfafkakijjfaaDoorRel4
import Derived.Test.YthlfafkakijjfaaDoorFmtR
import Derived.Test.YthlfafkakijjfaaDoorNumF
import Derived.Test.YthlfafkakijjfaaDoorDoc5
set_option linter.unusedSimpArgs false
set_option linter.unusedVariables false
set_option maxRecDepth 100000
namespace Go.Proofs.YthlfafkakijjfaaDoor
open Go Go.RowKit Go.Adm Go.AdP
theorem Instant_any (t : Int) (w : World) : Calls Tryd.prog 28 #[.int .i64 t] w fun e w' => e = .returned (.bool (decide (0 ≤ t) && decide (t ≤ 1099511627776))) ∧ w' = w := by
  cases e2 : decide (0 ≤ t) with
  | false =>
    go_enter Tryd.func28, Tryd.ntmps28
    go_wp2_with fail
    go_ret
    exact ⟨rfl, rfl⟩
  | true =>
    cases e3 : decide (t ≤ 1099511627776) with
    | false =>
      go_enter Tryd.func28, Tryd.ntmps28
      go_wp2_with fail
      go_ret
      exact ⟨rfl, rfl⟩
    | true =>
      go_enter Tryd.func28, Tryd.ntmps28
      go_wp2_with fail
      go_ret
      exact ⟨rfl, rfl⟩
set_option maxHeartbeats 3200000 in
theorem refAppValid_any (w : World) (x : App) (hd : x.d.length = 32) :
    Calls Tryd.prog 12 #[.agg (appC x).toArray] w fun e w' => e = .returned (.bool (appB x)) ∧ Below w.heap.size w w' := by
  have hR : All w [.kept w w.heap.size] := ⟨⟨Below.refl _ _, Nat.le_refl _⟩, trivial⟩
  have HD := Lib.hid hd
  have X0 := Lib.hid (appC_0 x hd)
  have X1 := Lib.hid (appC_32 x hd)
  have hne := fun w => ne_dg w x.d z32 hd (by decide)
  have hI := fun w => Instant_any x.t w
  obtain ⟨q, hq⟩ : ∃ q, q = (decide (0 ≤ x.t) && decide (x.t ≤ 1099511627776)) := ⟨_, rfl⟩
  have HF : Hid (appB x = (!decide (x.d = z32) && q)) := Lib.hid (by rw [hq]; rfl)
  rw [← hq] at hI
  have HI := Lib.hid hI
  clear hd hq hI
  go_enter Tryd.func12, Tryd.ntmps12
  go_upto_region 1 with (fail)
  refine wp_gen (hR.new (l := appC x) _ 31 rfl rfl) ?_
  intro W hW
  have c1 := cell_at (hW.at_ 0 rfl) X1.out
  have r1 := Lib.hid (cell_dig (hW.at_ 0 rfl) X0.out)
  have hzr := zero_dg
  have hb := Lib.hid (hW.at_ 1 rfl : _ ∧ _).1
  clear hR
  generalize hz : z32 = z at *
  clear hz
  cases e1 : (!decide (x.d = z)) with
  | false =>
    rw [e1] at hne HF
    clear e1
    go_wp2_with (refine wl_load_any rfl 24 (.tmp 3) rfl ⟨w.heap.size, 0, none⟩ rfl (x.d.map bv) _ r1.out Tryd.underlying24 rfl (by rw [List.length_map, HD.out]; kernel_rfl) ?_)
    go_ret
    exact ⟨ret_bool (by rw [HF.out]; rfl), hb.out⟩
  | true =>
    rw [e1] at hne HF
    clear e1
    go_wp2_with (first | (refine wl_load_any rfl 24 (.tmp 3) rfl ⟨w.heap.size, 0, none⟩ rfl (x.d.map bv) _ r1.out Tryd.underlying24 rfl (by rw [List.length_map, HD.out]; kernel_rfl) ?_) | (go_at_call 28; refine (HI.out _).mono ?_; rintro e w' ⟨rfl, rfl⟩))
    go_ret
    exact ⟨ret_bool (by rw [HF.out]; simp), hb.out⟩
set_option maxHeartbeats 3200000 in
theorem refEncodeApproval_any (w : World) (x : App) (hd : x.d.length = 32) (h0 : -9223372036854775808 ≤ x.t) (h1 : x.t ≤ 9223372036854775807) (ht : Lib.TabIs Tryd.prog w "internal/strconv.uint64pow10" .u64 Lib.pow10Tab) :
    Calls Tryd.prog 10 #[.agg (appC x).toArray] w (AppPost x w) := by
  have hR : All w [.kept w w.heap.size] := ⟨⟨Below.refl _ _, Nat.le_refl _⟩, trivial⟩
  have HD := Lib.hid hd
  have HT : Hid (∀ W, Below w.heap.size w W → Lib.TabIs Tryd.prog W "internal/strconv.uint64pow10" .u64 Lib.pow10Tab) := Lib.hid (fun W hb => tab_keep ht hb)
  have H0 := Lib.hid h0
  have H1 := Lib.hid h1
  have X0 := Lib.hid (appC_0 x hd)
  have X1 := Lib.hid (appC_32 x hd)
  have HL := Lib.hid (appC_len x hd)
  have HS : Hid (∀ s ∈ [(⟨#[97, 112, 112, 114, 111, 118, 97, 108]⟩ : ByteArray), ⟨(fmtL x.d).toArray⟩, ⟨(Lib.itoa x.t).toArray⟩], s.size ≤ 140737488355328) := Lib.hid (by
    intro s hs
    simp only [List.mem_cons, List.mem_nil_iff, or_false] at hs
    rcases hs with rfl | rfl | rfl
    · decide
    · rw [fmt_size hd]; decide
    · show (Lib.itoa x.t).toArray.size ≤ _
      rw [List.size_toArray]
      exact itoa_len x.t h0 h1)
  clear hd h0 h1 ht
  go_enter Tryd.func10, Tryd.ntmps10
  go_upto_region 1 with (fail)
  refine wp_gen (hR.new (l := appC x) _ 31 rfl rfl) ?_
  intro W hW
  clear hR
  cases hv : appB x with
  | false =>
    have HVA : Hid (∀ W, Calls Tryd.prog 12 #[.agg (appC x).toArray] W fun e w' => e = .returned (.bool false) ∧ Below W.heap.size W w') := Lib.hid (fun W => by have h := refAppValid_any W x HD.out; rwa [hv] at h)
    have HV := Lib.hid hv
    clear hv
    go_wp2_with (first | (refine wl_load_any rfl 31 (.tmp 1) rfl ⟨w.heap.size, 0, none⟩ rfl (appC x) _ (cell_all (hW.at_ 0 rfl)) Tryd.underlying31 rfl (by rw [HL.out]; kernel_rfl) ?_) | (go_at_call 12; refine (HVA.out _).mono ?_; rintro e w' ⟨rfl, hb'⟩; have hW2 := hW.call hb'))
    go_ret2
    exact AppPost.no HV.out (hW2.at_ 1 rfl : _ ∧ _).1
  | true =>
    have HVA : Hid (∀ W, Calls Tryd.prog 12 #[.agg (appC x).toArray] W fun e w' => e = .returned (.bool true) ∧ Below W.heap.size W w') := Lib.hid (fun W => by have h := refAppValid_any W x HD.out; rwa [hv] at h)
    have HV := Lib.hid hv
    clear hv
    go_upto_region 3 with (first | (refine wl_load_any rfl 31 (.tmp 1) rfl ⟨w.heap.size, 0, none⟩ rfl (appC x) _ (cell_all (hW.at_ 0 rfl)) Tryd.underlying31 rfl (by rw [HL.out]; kernel_rfl) ?_) | (go_at_call 12; refine (HVA.out _).mono ?_; rintro e w' ⟨rfl, hb'⟩; have hW2 := hW.call hb'))
    clear hW hb'
    obtain ⟨sf, hsf⟩ : ∃ s : ByteArray, s = ⟨(fmtL x.d).toArray⟩ := ⟨_, rfl⟩
    obtain ⟨sn, hsn⟩ : ∃ s : ByteArray, s = ⟨(Lib.itoa x.t).toArray⟩ := ⟨_, rfl⟩
    have HLL : Hid (appL x = [[⟨#[97, 112, 112, 114, 111, 118, 97, 108]⟩, sf, sn]]) := Lib.hid (by rw [hsf, hsn]; rfl)
    rw [← hsf, ← hsn] at HS
    have HSF := Lib.hid hsf
    have HSN := Lib.hid hsn
    clear hsf hsn
    refine wp_region_hops 11 [7, 8, 9, 10, 11, 12, 13, 14, 15, 16, 17] _
      [.eq (.pointer (some ⟨w.heap.size, 0, none⟩)), .eq (.agg (x.d.map bv).toArray), .eq (.string sf), .eq (.pointer (some ⟨w.heap.size, 32, none⟩)), .eq (.int .i64 x.t), .eq (.string sn), .row 3 [⟨#[97, 112, 112, 114, 111, 118, 97, 108]⟩, sf, sn], .one (appL x), .encT 5 w.heap.size (appL x), .enc0 5 w.heap.size (appL x), .eq (.int .i64 (docE (appL x)))]
      (by kernel_rfl) (by kernel_rfl) hW2 rfl ?hops ?fin
    case hops =>
      refine ⟨?_, ?_, ?_, ?_, ?_, ?_, ?_, ?_, ?_, ?_, ?_, trivial⟩
      · intro a W hW hb hd K hK
        have b1 := hb 1 rfl
        go_simp
        exact hK _ _ (World.grownBy.refl _ _) rfl
      · intro a W hW hb hd K hK
        have b7 : a.tmps[7]?.getD undef = _ := hd ⟨0, .data⟩ (by simp) rfl
        refine wp_load_any 24 (.tmp 7) rfl ⟨w.heap.size, 0, none⟩ (show a.eval (.tmp 7) = _ from by simp only [Act.eval, Array.getD_eq_getD_getElem?]; exact b7) (x.d.map bv) _ (cell_dig (hW.at_ 0 rfl) X0.out) Tryd.underlying24 rfl (by rw [List.length_map, HD.out]; kernel_rfl) ?_
        exact hK _ _ (World.grownBy.refl _ _) rfl
      · intro a W hW hb hd K hK
        have b8 : a.tmps[8]?.getD undef = _ := hd ⟨1, .data⟩ (by simp) rfl
        go_simp
        refine (refFormat_any W x.d HD.out).mono ?_
        rintro e w' ⟨rfl, hb'⟩
        exact hK _ _ (grown_of_below hb') (congrArg Value.string HSF.out.symm)
      · intro a W hW hb hd K hK
        have b1 := hb 1 rfl
        go_simp
        exact hK _ _ (World.grownBy.refl _ _) rfl
      · intro a W hW hb hd K hK
        have b10 : a.tmps[10]?.getD undef = _ := hd ⟨3, .data⟩ (by simp) rfl
        have cc := cell_at (hW.at_ 0 rfl) X1.out
        go_simp
        exact hK _ _ (World.grownBy.refl _ _) rfl
      · intro a W hW hb hd K hK
        have b11 : a.tmps[11]?.getD undef = _ := hd ⟨4, .data⟩ (by simp) rfl
        go_simp
        refine (refNumber_any x.t H0.out H1.out W).mono ?_
        rintro e w' ⟨rfl, hb'⟩
        exact hK _ _ (grown_of_below hb') (congrArg Value.string HSN.out.symm)
      · intro a W hW hb hd K hK
        have b9 : a.tmps[9]?.getD undef = _ := hd ⟨2, .data⟩ (by simp) rfl
        have b12 : a.tmps[12]?.getD undef = _ := hd ⟨5, .data⟩ (by simp) rfl
        go_simp
        exact hK _ _ (grown_alloc _ _) (RowV.lit W _ [⟨#[97, 112, 112, 114, 111, 118, 97, 108]⟩, sf, sn] 3 rfl HS.out)
      · intro a W hW hb hd K hK
        have hr : RowV 3 [⟨#[97, 112, 112, 114, 111, 118, 97, 108]⟩, sf, sn] W (a.tmps[13]?.getD undef) := hd ⟨6, .data⟩ (by simp) rfl
        have h1 := fun t => OneV.lit W t _ 3 _ (by decide) hr
        obtain ⟨ad, b13, _, _⟩ := hr
        rw [b13, ← HLL.out] at h1
        go_simp
        exact hK _ _ (grown_alloc _ _) (h1 _)
      · intro a W hW hb hd K hK
        obtain ⟨A, c, b14, hl⟩ : OneV (appL x) W (a.tmps[14]?.getD undef) := hd ⟨7, .data⟩ (by simp) rfl
        go_simp
        refine (refEncode_any W W.heap.size A 1 c (appL x) hl (Nat.le_refl _)).mono ?_
        intro e w' hp
        obtain ⟨y, z, rfl, hb', hv⟩ := EncV.post hp (hW.at_ 1 rfl : _ ∧ w.heap.size ≤ W.heap.size).2
        exact hK _ _ (grown_of_below hb') ⟨y, z, rfl, hv⟩
      · intro a W hW hb hd K hK
        obtain ⟨y, z, b15, hv⟩ : ∃ y z, a.tmps[15]?.getD undef = .tuple #[y, z] ∧ EncV 5 w.heap.size (appL x) W y z := hd ⟨8, .data⟩ (by simp) rfl
        go_simp
        exact hK _ _ (World.grownBy.refl _ _) (by obtain ⟨A, n, c, h1, h2, h3⟩ := hv; exact ⟨A, n, c, h1, rfl, h3⟩)
      · intro a W hW hb hd K hK
        obtain ⟨y, z, b15, hv⟩ : ∃ y z, a.tmps[15]?.getD undef = .tuple #[y, z] ∧ EncV 5 w.heap.size (appL x) W y z := hd ⟨8, .data⟩ (by simp) rfl
        go_simp
        exact hK _ _ (World.grownBy.refl _ _) (by obtain ⟨A, n, c, h1, h2, h3⟩ := hv; exact h2)
    case fin =>
      intro vs W hW hv
      have e9 : EncV 5 w.heap.size (appL x) W (vs 9) (.int .i64 (docE (appL x))) := hv 9 (by decide)
      have e10 : vs 10 = .int .i64 (docE (appL x)) := hv 10 (by decide)
      clear hv hW2
      simp only [putAll, List.drop_succ_cons, List.drop_zero, e10, Act.put, List.setIfInBounds_toArray, List.set_cons_succ, List.set_cons_zero]
      clear e10
      obtain ⟨q, hq⟩ : ∃ q, docE (appL x) = q := ⟨_, rfl⟩
      rw [hq] at e9 ⊢
      have HQ := Lib.hid hq
      clear hq
      generalize vs 9 = v9 at *
      go_wp2_with fail
      go_ret2
      exact AppPost.yes HV.out (hW.at_ 1 rfl : _ ∧ _).1 HQ.out e9
end Go.Proofs.YthlfafkakijjfaaDoor

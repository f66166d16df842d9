/- The encoded form of a release. -/
import Derived.Test.YthlfafkakijjfaaDoorRelV
set_option linter.unusedSimpArgs false
set_option linter.unusedVariables false
set_option maxRecDepth 100000
namespace Go.Proofs.YthlfafkakijjfaaDoor
open Go Go.RowKit Go.Adm Go.AdP
/-- what Encode returns -/
def RlsPost (x : Rls) (w : World) (e : Ending) (w' : World) : Prop := ∃ a b, e = .returned (.tuple #[a, b]) ∧ Below w.heap.size w w' ∧ (rlsB x = true → EncV 5 w.heap.size (rlsL x) w' a b) ∧ (rlsB x = false → a = .slice none 0 0 ∧ b = .int .i64 1)
theorem RlsPost.no {x : Rls} {w w' : World} (hv : rlsB x = false) (hb : Below w.heap.size w w') : RlsPost x w (.returned (.tuple #[.slice none 0 0, .int .i64 1])) w' := ⟨_, _, rfl, hb, fun h => by rw [hv] at h; (cases h), fun _ => ⟨rfl, rfl⟩⟩
theorem RlsPost.yes {x : Rls} {w w' : World} {v e : Value} (hv : rlsB x = true) (hb : Below w.heap.size w w') (h : EncV 5 w.heap.size (rlsL x) w' v e) : RlsPost x w (.returned (.tuple #[v, e])) w' := ⟨_, _, rfl, hb, fun _ => h, fun h => by rw [hv] at h; (cases h)⟩
set_option maxHeartbeats 6400000 in
theorem EncodeRel_any (w : World) (x : Rls) (h : x.Ok) (z1 : x.l.size ≤ 140737488355328) (z2 : x.r.size ≤ 140737488355328) (h0 : -9223372036854775808 ≤ x.t) (h1 : x.t ≤ 9223372036854775807) (ht : Lib.TabIs Tryd.prog w "internal/strconv.uint64pow10" .u64 Lib.pow10Tab) :
    Calls Tryd.prog 7 #[.agg (rlsC x).toArray] w (RlsPost x w) := by
  have hR : All w [.kept w w.heap.size] := ⟨⟨Below.refl _ _, Nat.le_refl _⟩, trivial⟩
  have HT : Hid (∀ W, Below w.heap.size w W → Lib.TabIs Tryd.prog W "internal/strconv.uint64pow10" .u64 Lib.pow10Tab) := Lib.hid (fun W hb => tab_keep ht hb)
  have H0 := Lib.hid h0
  have H1 := Lib.hid h1
  have HLA := Lib.hid h.a
  have HLD := Lib.hid h.d
  have HLC := Lib.hid h.c
  have XA := Lib.hid (rls_a x h)
  have XD := Lib.hid (rls_d x h)
  have XC := Lib.hid (rls_c x h)
  have XL := Lib.hid (rls_l x h)
  have XR := Lib.hid (rls_r x h)
  have XT := Lib.hid (rls_t x h)
  have HL := Lib.hid (rls_len x h)
  have HV := Lib.hid (fun W => rlsValid_any W x h z1 z2)
  have HS : Hid (∀ s ∈ [(⟨#[114, 101, 108, 101, 97, 115, 101]⟩ : ByteArray), ⟨(fmtL x.a).toArray⟩, ⟨(fmtL x.d).toArray⟩, x.l, x.r, ⟨(fmtL x.c).toArray⟩, ⟨(Lib.itoa x.t).toArray⟩], s.size ≤ 140737488355328) := Lib.hid (by
    intro s hs
    simp only [List.mem_cons, List.mem_nil_iff, or_false] at hs
    rcases hs with rfl | rfl | rfl | rfl | rfl | rfl | rfl
    · decide
    · rw [fmt_size h.a]; decide
    · rw [fmt_size h.d]; decide
    · exact z1
    · exact z2
    · rw [fmt_size h.c]; decide
    · show (Lib.itoa x.t).toArray.size ≤ _
      rw [List.size_toArray]
      exact itoa_len x.t h0 h1)
  clear h z1 z2 h0 h1 ht
  go_enter Tryd.func7, Tryd.ntmps7
  go_upto_region 1 with (fail)
  refine wp_gen (hR.new (l := rlsC x) _ 26 rfl rfl) ?_
  intro W hW
  clear hR
  cases hv : rlsB x with
  | false =>
    rw [hv] at HV
    have HB := Lib.hid hv
    clear hv
    go_wp2_with (first | (refine wl_load_any rfl 26 (.tmp 1) rfl ⟨w.heap.size, 0, none⟩ rfl (rlsC x) _ (cell_all (hW.at_ 0 rfl)) Tryd.underlying26 rfl (by rw [HL.out]; kernel_rfl) ?_) | (go_at_call 21; refine (HV.out _).mono ?_; rintro e w' ⟨rfl, hb'⟩; have hW2 := hW.call hb'))
    go_ret2
    exact RlsPost.no HB.out (hW2.at_ 1 rfl : _ ∧ _).1
  | true =>
    rw [hv] at HV
    have HB := Lib.hid hv
    clear hv
    go_upto_region 3 with (first | (refine wl_load_any rfl 26 (.tmp 1) rfl ⟨w.heap.size, 0, none⟩ rfl (rlsC x) _ (cell_all (hW.at_ 0 rfl)) Tryd.underlying26 rfl (by rw [HL.out]; kernel_rfl) ?_) | (go_at_call 21; refine (HV.out _).mono ?_; rintro e w' ⟨rfl, hb'⟩; have hW2 := hW.call hb'))
    clear hW hb' HV
    obtain ⟨sa, hsa⟩ : ∃ s : ByteArray, s = ⟨(fmtL x.a).toArray⟩ := ⟨_, rfl⟩
    obtain ⟨sd, hsd⟩ : ∃ s : ByteArray, s = ⟨(fmtL x.d).toArray⟩ := ⟨_, rfl⟩
    obtain ⟨sc, hsc⟩ : ∃ s : ByteArray, s = ⟨(fmtL x.c).toArray⟩ := ⟨_, rfl⟩
    obtain ⟨sn, hsn⟩ : ∃ s : ByteArray, s = ⟨(Lib.itoa x.t).toArray⟩ := ⟨_, rfl⟩
    have HLL : Hid (rlsL x = [[⟨#[114, 101, 108, 101, 97, 115, 101]⟩, sa, sd, x.l, x.r, sc, sn]]) := Lib.hid (by rw [hsa, hsd, hsc, hsn]; rfl)
    rw [← hsa, ← hsd, ← hsc, ← hsn] at HS
    have HSA := Lib.hid hsa
    have HSD := Lib.hid hsd
    have HSC := Lib.hid hsc
    have HSN := Lib.hid hsn
    clear hsa hsd hsc hsn
    refine wp_region_hops 17 [8, 9, 10, 11, 12, 13, 14, 15, 16, 17, 18, 19, 20, 21, 22, 23, 24] _
      [.eq (.pointer (some ⟨w.heap.size, 0, none⟩)), .eq (.agg (x.a.map bv).toArray), .eq (.string sa), .eq (.pointer (some ⟨w.heap.size, 32, none⟩)), .eq (.agg (x.d.map bv).toArray), .eq (.string sd), .eq (.pointer (some ⟨w.heap.size, 64, none⟩)), .eq (.string x.l), .eq (.pointer (some ⟨w.heap.size, 65, none⟩)), .eq (.string x.r), .eq (.pointer (some ⟨w.heap.size, 66, none⟩)), .eq (.agg (x.c.map bv).toArray), .eq (.string sc), .eq (.pointer (some ⟨w.heap.size, 98, none⟩)), .eq (.int .i64 x.t), .eq (.string sn), .row 7 [⟨#[114, 101, 108, 101, 97, 115, 101]⟩, sa, sd, x.l, x.r, sc, sn]]
      (by kernel_rfl) (by kernel_rfl) hW2 rfl ?hops ?fin
    case hops =>
      refine ⟨?_, ?_, ?_, ?_, ?_, ?_, ?_, ?_, ?_, ?_, ?_, ?_, ?_, ?_, ?_, ?_, ?_, trivial⟩
      · intro a' W hW hb hd K hK
        have b1 := hb 1 rfl
        go_simp
        exact hK _ _ (World.grownBy.refl _ _) rfl
      · intro a' W hW hb hd K hK
        have b8 : a'.tmps[8]?.getD undef = _ := hd ⟨0, .data⟩ (by simp) rfl
        refine wp_load_any 24 (.tmp 8) rfl ⟨w.heap.size, 0, none⟩ (show a'.eval (.tmp 8) = _ from by simp only [Act.eval, Array.getD_eq_getD_getElem?]; exact b8) (x.a.map bv) _ (cell_dig (hW.at_ 0 rfl) XA.out) Tryd.underlying24 rfl (by rw [List.length_map, HLA.out]; kernel_rfl) ?_
        exact hK _ _ (World.grownBy.refl _ _) rfl
      · intro a' W hW hb hd K hK
        have b9 : a'.tmps[9]?.getD undef = _ := hd ⟨1, .data⟩ (by simp) rfl
        go_simp
        refine (Format_any W x.a HLA.out).mono ?_
        rintro e w' ⟨rfl, hb'⟩
        exact hK _ _ (grown_of_below hb') (congrArg Value.string HSA.out.symm)
      · intro a' W hW hb hd K hK
        have b1 := hb 1 rfl
        go_simp
        exact hK _ _ (World.grownBy.refl _ _) rfl
      · intro a' W hW hb hd K hK
        have b11 : a'.tmps[11]?.getD undef = _ := hd ⟨3, .data⟩ (by simp) rfl
        refine wp_load_any 24 (.tmp 11) rfl ⟨w.heap.size, 32, none⟩ (show a'.eval (.tmp 11) = _ from by simp only [Act.eval, Array.getD_eq_getD_getElem?]; exact b11) (x.d.map bv) _ (cell_dig (hW.at_ 0 rfl) XD.out) Tryd.underlying24 rfl (by rw [List.length_map, HLD.out]; kernel_rfl) ?_
        exact hK _ _ (World.grownBy.refl _ _) rfl
      · intro a' W hW hb hd K hK
        have b12 : a'.tmps[12]?.getD undef = _ := hd ⟨4, .data⟩ (by simp) rfl
        go_simp
        refine (Format_any W x.d HLD.out).mono ?_
        rintro e w' ⟨rfl, hb'⟩
        exact hK _ _ (grown_of_below hb') (congrArg Value.string HSD.out.symm)
      · intro a' W hW hb hd K hK
        have b1 := hb 1 rfl
        go_simp
        exact hK _ _ (World.grownBy.refl _ _) rfl
      · intro a' W hW hb hd K hK
        have b14 : a'.tmps[14]?.getD undef = _ := hd ⟨6, .data⟩ (by simp) rfl
        have cc := cell_at (hW.at_ 0 rfl) XL.out
        go_simp
        exact hK _ _ (World.grownBy.refl _ _) rfl
      · intro a' W hW hb hd K hK
        have b1 := hb 1 rfl
        go_simp
        exact hK _ _ (World.grownBy.refl _ _) rfl
      · intro a' W hW hb hd K hK
        have b16 : a'.tmps[16]?.getD undef = _ := hd ⟨8, .data⟩ (by simp) rfl
        have cc := cell_at (hW.at_ 0 rfl) XR.out
        go_simp
        exact hK _ _ (World.grownBy.refl _ _) rfl
      · intro a' W hW hb hd K hK
        have b1 := hb 1 rfl
        go_simp
        exact hK _ _ (World.grownBy.refl _ _) rfl
      · intro a' W hW hb hd K hK
        have b18 : a'.tmps[18]?.getD undef = _ := hd ⟨10, .data⟩ (by simp) rfl
        refine wp_load_any 24 (.tmp 18) rfl ⟨w.heap.size, 66, none⟩ (show a'.eval (.tmp 18) = _ from by simp only [Act.eval, Array.getD_eq_getD_getElem?]; exact b18) (x.c.map bv) _ (cell_dig (hW.at_ 0 rfl) XC.out) Tryd.underlying24 rfl (by rw [List.length_map, HLC.out]; kernel_rfl) ?_
        exact hK _ _ (World.grownBy.refl _ _) rfl
      · intro a' W hW hb hd K hK
        have b19 : a'.tmps[19]?.getD undef = _ := hd ⟨11, .data⟩ (by simp) rfl
        go_simp
        refine (Format_any W x.c HLC.out).mono ?_
        rintro e w' ⟨rfl, hb'⟩
        exact hK _ _ (grown_of_below hb') (congrArg Value.string HSC.out.symm)
      · intro a' W hW hb hd K hK
        have b1 := hb 1 rfl
        go_simp
        exact hK _ _ (World.grownBy.refl _ _) rfl
      · intro a' W hW hb hd K hK
        have b21 : a'.tmps[21]?.getD undef = _ := hd ⟨13, .data⟩ (by simp) rfl
        have cc := cell_at (hW.at_ 0 rfl) XT.out
        go_simp
        exact hK _ _ (World.grownBy.refl _ _) rfl
      · intro a' W hW hb hd K hK
        have b22 : a'.tmps[22]?.getD undef = _ := hd ⟨14, .data⟩ (by simp) rfl
        go_simp
        refine (Number_any x.t H0.out H1.out W (HT.out W (hW.at_ 1 rfl : _ ∧ _).1)).mono ?_
        rintro e w' ⟨rfl, hb'⟩
        exact hK _ _ (grown_of_below hb') (congrArg Value.string HSN.out.symm)
      · intro a' W hW hb hd K hK
        have b10 : a'.tmps[10]?.getD undef = _ := hd ⟨2, .data⟩ (by simp) rfl
        have b13 : a'.tmps[13]?.getD undef = _ := hd ⟨5, .data⟩ (by simp) rfl
        have b15 : a'.tmps[15]?.getD undef = _ := hd ⟨7, .data⟩ (by simp) rfl
        have b17 : a'.tmps[17]?.getD undef = _ := hd ⟨9, .data⟩ (by simp) rfl
        have b20 : a'.tmps[20]?.getD undef = _ := hd ⟨12, .data⟩ (by simp) rfl
        have b23 : a'.tmps[23]?.getD undef = _ := hd ⟨15, .data⟩ (by simp) rfl
        go_simp
        exact hK _ _ (grown_alloc _ _) (RowV.lit W _ [⟨#[114, 101, 108, 101, 97, 115, 101]⟩, sa, sd, x.l, x.r, sc, sn] 7 rfl HS.out)
    case fin =>
      intro vs W hW hv
      have e16 : RowV 7 [⟨#[114, 101, 108, 101, 97, 115, 101]⟩, sa, sd, x.l, x.r, sc, sn] W (vs 16) := hv 16 (by decide)
      clear hv hW2
      simp only [putAll, Nat.zero_add, Nat.reduceAdd, List.drop_succ_cons, List.drop_zero, Act.put, List.setIfInBounds_toArray, List.set_cons_succ, List.set_cons_zero]
      generalize vs 16 = v16 at *
      have hone := fun t => OneV.lit W t _ 7 v16 (by decide) e16
      obtain ⟨ad, rfl, _, _⟩ := e16
      rw [← HLL.out] at hone
      have hW1 := hW.alloc (.cells #[.slice (some ad) 7 7] 57)
      obtain ⟨A, c, hv26, hLn⟩ := hone 57
      injection hv26 with ha hn hc
      subst ha hc
      clear hone hn
      go_wp2_with (go_at_call 24; refine (Encode_any _ _ _ 1 1 (rlsL x) hLn (by simp)).mono ?_; intro e w5 hp; obtain ⟨y, z, rfl, hb5, hev⟩ := EncV.post hp (Nat.le_trans (hW1.at_ 1 rfl : _ ∧ _).2 (Nat.le_refl _)))
      go_ret2
      exact RlsPost.yes HB.out ((hW1.call hb5).at_ 1 rfl : _ ∧ _).1 hev
end Go.Proofs.YthlfafkakijjfaaDoor

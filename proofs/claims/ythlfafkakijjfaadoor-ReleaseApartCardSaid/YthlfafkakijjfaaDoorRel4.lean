/- The encoded form of an approval: the program. -/
import Derived.Test.YthlfafkakijjfaaDoorLineV
import Derived.Test.YthlfafkakijjfaaDoorFmtP
import Derived.Test.YthlfafkakijjfaaDoorNumP
import Derived.Test.YthlfafkakijjfaaDoorDoc4
import Derived.Test.YthlfafkakijjfaaDoorStrM
import Derived.Test.YthlfafkakijjfaaDoorRel8
set_option linter.unusedSimpArgs false
set_option linter.unusedVariables false
set_option maxRecDepth 100000
namespace Go.Adm
open Go Go.RowKit Go.AdP
theorem cell_all {w : World} {g : Nat} {t : TypeId} {cs : List Value} (h : Cells w g t cs) : ∀ j u, cs[j]? = some u → w.cell? ((⟨g, 0, none⟩ : Addr).add j) = some u := by
  intro j u hu
  rw [show (⟨g, 0, none⟩ : Addr).add j = ⟨g, j, none⟩ from by simp [Addr.add]; omega]
  exact cell_at h hu
def appB (x : App) : Bool := !decide (x.d = z32) && (decide (0 ≤ x.t) && decide (x.t ≤ 1099511627776))
theorem appC_len (x : App) (h : x.d.length = 32) : (appC x).length = 33 := by simp [appC, h]
theorem appC_0 (x : App) (h : x.d.length = 32) : ((appC x).drop 0).take 32 = x.d.map bv := by
  rw [List.drop_zero]
  unfold appC
  exact List.take_left' (by rw [List.length_map, h])
theorem appC_32 (x : App) (h : x.d.length = 32) : (appC x)[32]? = some (.int .i64 x.t) := by
  unfold appC
  rw [List.getElem?_append_right (by rw [List.length_map, h]; omega), List.length_map, h]; rfl
theorem appC_one (x : App) : ∀ v ∈ appC x, v.oneCell' = true := by
  intro v hv
  unfold appC at hv
  rw [List.mem_append] at hv
  rcases hv with hv | hv
  · exact bv_one _ v hv
  · simp at hv; subst hv; rfl
/-- the document of an approval -/
def appL (x : App) : List (List ByteArray) := [[⟨#[97, 112, 112, 114, 111, 118, 97, 108]⟩, ⟨(fmtL x.d).toArray⟩, ⟨(Lib.itoa x.t).toArray⟩]]
theorem itoa_len (n : Int) (h0 : -9223372036854775808 ≤ n) (h1 : n ≤ 9223372036854775807) : (Lib.itoa n).length ≤ 140737488355328 := by
  have h := Lib.itoa_length_le n h0 h1
  omega
end Go.Adm
namespace Go.Proofs.YthlfafkakijjfaaDoor
open Go Go.RowKit Go.Adm Go.AdP
theorem zero_dg (w : World) : (zeroValue 24).run Tryd.prog w = .ok (.agg (z32.map bv).toArray) w := by kernel_rfl
set_option maxHeartbeats 3200000 in
theorem appValid_any (w : World) (x : App) (hd : x.d.length = 32) :
    Calls Tryd.prog 11 #[.agg (appC x).toArray] w fun e w' => e = .returned (.bool (appB x)) ∧ Below w.heap.size w w' := by
  have hR : All w [.kept w w.heap.size] := ⟨⟨Below.refl _ _, Nat.le_refl _⟩, trivial⟩
  have HD := Lib.hid hd
  have X0 := Lib.hid (appC_0 x hd)
  have X1 := Lib.hid (appC_32 x hd)
  have hne := fun w => ne_dg w x.d z32 hd (by decide)
  have HF : Hid (appB x = (!decide (x.d = z32) && (decide (0 ≤ x.t) && decide (x.t ≤ 1099511627776)))) := Lib.hid rfl
  clear hd
  go_enter Tryd.func11, Tryd.ntmps11
  go_upto_region 1 with (fail)
  refine wp_gen (hR.new (l := appC x) _ 31 rfl rfl) ?_
  intro W hW
  have c1 := cell_at (hW.at_ 0 rfl) X1.out
  have r1 := Lib.hid (cell_dig (hW.at_ 0 rfl) X0.out)
  have hzr := zero_dg
  have hb := Lib.hid (hW.at_ 1 rfl : _ ∧ _).1
  clear hR
  generalize hz : z32 = z at *
  clear hz
  cases e1 : (!decide (x.d = z)) with
  | false =>
    rw [e1] at hne HF
    clear e1
    go_wp2_with (refine wl_load_any rfl 24 (.tmp 3) rfl ⟨w.heap.size, 0, none⟩ rfl (x.d.map bv) _ r1.out Tryd.underlying24 rfl (by rw [List.length_map, HD.out]; kernel_rfl) ?_)
    go_ret
    exact ⟨ret_bool (by rw [HF.out]; rfl), hb.out⟩
  | true =>
    rw [e1] at hne HF
    clear e1
    cases e2 : decide (0 ≤ x.t) with
    | false =>
      rw [e2] at HF
      go_wp2_with (refine wl_load_any rfl 24 (.tmp 3) rfl ⟨w.heap.size, 0, none⟩ rfl (x.d.map bv) _ r1.out Tryd.underlying24 rfl (by rw [List.length_map, HD.out]; kernel_rfl) ?_)
      go_ret
      exact ⟨ret_bool (by rw [HF.out]; rfl), hb.out⟩
    | true =>
      cases e3 : decide (x.t ≤ 1099511627776) with
      | false =>
        rw [e2, e3] at HF
        go_wp2_with (refine wl_load_any rfl 24 (.tmp 3) rfl ⟨w.heap.size, 0, none⟩ rfl (x.d.map bv) _ r1.out Tryd.underlying24 rfl (by rw [List.length_map, HD.out]; kernel_rfl) ?_)
        go_ret
        exact ⟨ret_bool (by rw [HF.out]; rfl), hb.out⟩
      | true =>
        rw [e2, e3] at HF
        go_wp2_with (refine wl_load_any rfl 24 (.tmp 3) rfl ⟨w.heap.size, 0, none⟩ rfl (x.d.map bv) _ r1.out Tryd.underlying24 rfl (by rw [List.length_map, HD.out]; kernel_rfl) ?_)
        go_ret
        exact ⟨ret_bool (by rw [HF.out]; rfl), hb.out⟩

/-- what EncodeApproval returns -/
def AppPost (x : App) (w : World) (e : Ending) (w' : World) : Prop := ∃ a b, e = .returned (.tuple #[a, b]) ∧ Below w.heap.size w w' ∧ (appB x = true → EncV 5 w.heap.size (appL x) w' a b) ∧ (appB x = false → a = .slice none 0 0 ∧ b = .int .i64 1)
theorem AppPost.no {x : App} {w w' : World} (hv : appB x = false) (hb : Below w.heap.size w w') : AppPost x w (.returned (.tuple #[.slice none 0 0, .int .i64 1])) w' := ⟨_, _, rfl, hb, fun h => by rw [hv] at h; (cases h), fun _ => ⟨rfl, rfl⟩⟩
theorem AppPost.yes {x : App} {w w' : World} {v : Value} (hv : appB x = true) (hb : Below w.heap.size w w') {q : Int} (hq : docE (appL x) = q) (h : EncV 5 w.heap.size (appL x) w' v (.int .i64 q)) : AppPost x w (.returned (.tuple #[v, .int .i64 q])) w' := ⟨_, _, rfl, hb, fun _ => h, fun h => by rw [hv] at h; (cases h)⟩
set_option maxHeartbeats 3200000 in
theorem EncodeApproval_any (w : World) (x : App) (hd : x.d.length = 32) (h0 : -9223372036854775808 ≤ x.t) (h1 : x.t ≤ 9223372036854775807) (ht : Lib.TabIs Tryd.prog w "internal/strconv.uint64pow10" .u64 Lib.pow10Tab) :
    Calls Tryd.prog 8 #[.agg (appC x).toArray] w (AppPost x w) := by
  have hR : All w [.kept w w.heap.size] := ⟨⟨Below.refl _ _, Nat.le_refl _⟩, trivial⟩
  have HD := Lib.hid hd
  have HT : Hid (∀ W, Below w.heap.size w W → Lib.TabIs Tryd.prog W "internal/strconv.uint64pow10" .u64 Lib.pow10Tab) := Lib.hid (fun W hb => tab_keep ht hb)
  have H0 := Lib.hid h0
  have H1 := Lib.hid h1
  have X0 := Lib.hid (appC_0 x hd)
  have X1 := Lib.hid (appC_32 x hd)
  have HL := Lib.hid (appC_len x hd)
  have HS : Hid (∀ s ∈ [(⟨#[97, 112, 112, 114, 111, 118, 97, 108]⟩ : ByteArray), ⟨(fmtL x.d).toArray⟩, ⟨(Lib.itoa x.t).toArray⟩], s.size ≤ 140737488355328) := Lib.hid (by
    intro s hs
    simp only [List.mem_cons, List.mem_nil_iff, or_false] at hs
    rcases hs with rfl | rfl | rfl
    · decide
    · rw [fmt_size hd]; decide
    · show (Lib.itoa x.t).toArray.size ≤ _
      rw [List.size_toArray]
      exact itoa_len x.t h0 h1)
  clear hd h0 h1 ht
  go_enter Tryd.func8, Tryd.ntmps8
  go_upto_region 1 with (fail)
  refine wp_gen (hR.new (l := appC x) _ 31 rfl rfl) ?_
  intro W hW
  clear hR
  cases hv : appB x with
  | false =>
    have HVA : Hid (∀ W, Calls Tryd.prog 11 #[.agg (appC x).toArray] W fun e w' => e = .returned (.bool false) ∧ Below W.heap.size W w') := Lib.hid (fun W => by have h := appValid_any W x HD.out; rwa [hv] at h)
    have HV := Lib.hid hv
    clear hv
    go_wp2_with (first | (refine wl_load_any rfl 31 (.tmp 1) rfl ⟨w.heap.size, 0, none⟩ rfl (appC x) _ (cell_all (hW.at_ 0 rfl)) Tryd.underlying31 rfl (by rw [HL.out]; kernel_rfl) ?_) | (go_at_call 11; refine (HVA.out _).mono ?_; rintro e w' ⟨rfl, hb'⟩; have hW2 := hW.call hb'))
    go_ret2
    exact AppPost.no HV.out (hW2.at_ 1 rfl : _ ∧ _).1
  | true =>
    have HVA : Hid (∀ W, Calls Tryd.prog 11 #[.agg (appC x).toArray] W fun e w' => e = .returned (.bool true) ∧ Below W.heap.size W w') := Lib.hid (fun W => by have h := appValid_any W x HD.out; rwa [hv] at h)
    have HV := Lib.hid hv
    clear hv
    go_upto_region 3 with (first | (refine wl_load_any rfl 31 (.tmp 1) rfl ⟨w.heap.size, 0, none⟩ rfl (appC x) _ (cell_all (hW.at_ 0 rfl)) Tryd.underlying31 rfl (by rw [HL.out]; kernel_rfl) ?_) | (go_at_call 11; refine (HVA.out _).mono ?_; rintro e w' ⟨rfl, hb'⟩; have hW2 := hW.call hb'))
    clear hW hb'
    obtain ⟨sf, hsf⟩ : ∃ s : ByteArray, s = ⟨(fmtL x.d).toArray⟩ := ⟨_, rfl⟩
    obtain ⟨sn, hsn⟩ : ∃ s : ByteArray, s = ⟨(Lib.itoa x.t).toArray⟩ := ⟨_, rfl⟩
    have HLL : Hid (appL x = [[⟨#[97, 112, 112, 114, 111, 118, 97, 108]⟩, sf, sn]]) := Lib.hid (by rw [hsf, hsn]; rfl)
    rw [← hsf, ← hsn] at HS
    have HSF := Lib.hid hsf
    have HSN := Lib.hid hsn
    clear hsf hsn
    refine wp_region_hops 11 [7, 8, 9, 10, 11, 12, 13, 14, 15, 16, 17] _
      [.eq (.pointer (some ⟨w.heap.size, 0, none⟩)), .eq (.agg (x.d.map bv).toArray), .eq (.string sf), .eq (.pointer (some ⟨w.heap.size, 32, none⟩)), .eq (.int .i64 x.t), .eq (.string sn), .row 3 [⟨#[97, 112, 112, 114, 111, 118, 97, 108]⟩, sf, sn], .one (appL x), .encT 5 w.heap.size (appL x), .enc0 5 w.heap.size (appL x), .eq (.int .i64 (docE (appL x)))]
      (by kernel_rfl) (by kernel_rfl) hW2 rfl ?hops ?fin
    case hops =>
      refine ⟨?_, ?_, ?_, ?_, ?_, ?_, ?_, ?_, ?_, ?_, ?_, trivial⟩
      · intro a W hW hb hd K hK
        have b1 := hb 1 rfl
        go_simp
        exact hK _ _ (World.grownBy.refl _ _) rfl
      · intro a W hW hb hd K hK
        have b7 : a.tmps[7]?.getD undef = _ := hd ⟨0, .data⟩ (by simp) rfl
        refine wp_load_any 24 (.tmp 7) rfl ⟨w.heap.size, 0, none⟩ (show a.eval (.tmp 7) = _ from by simp only [Act.eval, Array.getD_eq_getD_getElem?]; exact b7) (x.d.map bv) _ (cell_dig (hW.at_ 0 rfl) X0.out) Tryd.underlying24 rfl (by rw [List.length_map, HD.out]; kernel_rfl) ?_
        exact hK _ _ (World.grownBy.refl _ _) rfl
      · intro a W hW hb hd K hK
        have b8 : a.tmps[8]?.getD undef = _ := hd ⟨1, .data⟩ (by simp) rfl
        go_simp
        refine (Format_any W x.d HD.out).mono ?_
        rintro e w' ⟨rfl, hb'⟩
        exact hK _ _ (grown_of_below hb') (congrArg Value.string HSF.out.symm)
      · intro a W hW hb hd K hK
        have b1 := hb 1 rfl
        go_simp
        exact hK _ _ (World.grownBy.refl _ _) rfl
      · intro a W hW hb hd K hK
        have b10 : a.tmps[10]?.getD undef = _ := hd ⟨3, .data⟩ (by simp) rfl
        have cc := cell_at (hW.at_ 0 rfl) X1.out
        go_simp
        exact hK _ _ (World.grownBy.refl _ _) rfl
      · intro a W hW hb hd K hK
        have b11 : a.tmps[11]?.getD undef = _ := hd ⟨4, .data⟩ (by simp) rfl
        go_simp
        refine (Number_any x.t H0.out H1.out W (HT.out W (hW.at_ 1 rfl : _ ∧ _).1)).mono ?_
        rintro e w' ⟨rfl, hb'⟩
        exact hK _ _ (grown_of_below hb') (congrArg Value.string HSN.out.symm)
      · intro a W hW hb hd K hK
        have b9 : a.tmps[9]?.getD undef = _ := hd ⟨2, .data⟩ (by simp) rfl
        have b12 : a.tmps[12]?.getD undef = _ := hd ⟨5, .data⟩ (by simp) rfl
        go_simp
        exact hK _ _ (grown_alloc _ _) (RowV.lit W _ [⟨#[97, 112, 112, 114, 111, 118, 97, 108]⟩, sf, sn] 3 rfl HS.out)
      · intro a W hW hb hd K hK
        have hr : RowV 3 [⟨#[97, 112, 112, 114, 111, 118, 97, 108]⟩, sf, sn] W (a.tmps[13]?.getD undef) := hd ⟨6, .data⟩ (by simp) rfl
        have h1 := fun t => OneV.lit W t _ 3 _ (by decide) hr
        obtain ⟨ad, b13, _, _⟩ := hr
        rw [b13, ← HLL.out] at h1
        go_simp
        exact hK _ _ (grown_alloc _ _) (h1 _)
      · intro a W hW hb hd K hK
        obtain ⟨A, c, b14, hl⟩ : OneV (appL x) W (a.tmps[14]?.getD undef) := hd ⟨7, .data⟩ (by simp) rfl
        go_simp
        refine (Encode_any W W.heap.size A 1 c (appL x) hl (Nat.le_refl _)).mono ?_
        intro e w' hp
        obtain ⟨y, z, rfl, hb', hv⟩ := EncV.post hp (hW.at_ 1 rfl : _ ∧ w.heap.size ≤ W.heap.size).2
        exact hK _ _ (grown_of_below hb') ⟨y, z, rfl, hv⟩
      · intro a W hW hb hd K hK
        obtain ⟨y, z, b15, hv⟩ : ∃ y z, a.tmps[15]?.getD undef = .tuple #[y, z] ∧ EncV 5 w.heap.size (appL x) W y z := hd ⟨8, .data⟩ (by simp) rfl
        go_simp
        exact hK _ _ (World.grownBy.refl _ _) (by obtain ⟨A, n, c, h1, h2, h3⟩ := hv; exact ⟨A, n, c, h1, rfl, h3⟩)
      · intro a W hW hb hd K hK
        obtain ⟨y, z, b15, hv⟩ : ∃ y z, a.tmps[15]?.getD undef = .tuple #[y, z] ∧ EncV 5 w.heap.size (appL x) W y z := hd ⟨8, .data⟩ (by simp) rfl
        go_simp
        exact hK _ _ (World.grownBy.refl _ _) (by obtain ⟨A, n, c, h1, h2, h3⟩ := hv; exact h2)
    case fin =>
      intro vs W hW hv
      have e9 : EncV 5 w.heap.size (appL x) W (vs 9) (.int .i64 (docE (appL x))) := hv 9 (by decide)
      have e10 : vs 10 = .int .i64 (docE (appL x)) := hv 10 (by decide)
      clear hv hW2
      simp only [putAll, List.drop_succ_cons, List.drop_zero, e10, Act.put, List.setIfInBounds_toArray, List.set_cons_succ, List.set_cons_zero]
      clear e10
      obtain ⟨q, hq⟩ : ∃ q, docE (appL x) = q := ⟨_, rfl⟩
      rw [hq] at e9 ⊢
      have HQ := Lib.hid hq
      clear hq
      generalize vs 9 = v9 at *
      go_wp2_with fail
      go_ret2
      exact AppPost.yes HV.out (hW.at_ 1 rfl : _ ∧ _).1 HQ.out e9
end Go.Proofs.YthlfafkakijjfaaDoor

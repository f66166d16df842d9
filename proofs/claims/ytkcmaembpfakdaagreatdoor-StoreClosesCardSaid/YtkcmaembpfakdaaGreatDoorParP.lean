/- Texts of digests are read: the program. -/
import Derived.Test.YtkcmaembpfakdaaGreatDoorParD
import Derived.Test.YtkcmaembpfakdaaGreatDoorLayC
import Derived.Test.YtkcmaembpfakdaaGreatDoorIxB
import Derived.IntWalk
import Derived.Deep.QuietTactic
import Derived.BigQuiet
import Derived.Deep.RegionHeld3
import Derived.Deep.Cut
set_option linter.unusedSimpArgs false
set_option linter.unusedVariables false
set_option maxRecDepth 100000
namespace Go.Proofs.YtkcmaembpfakdaaGreatDoor
open Go Go.RowKit Go.Adm Go.AdP Go.Shelf
theorem sIndexByte_any (s : ByteArray) (c : UInt8) (w : World) :
    Calls Tryz.prog 92 #[.string s, .int .u8 c.toNat] w fun e w' => e = .returned (.int .i64 (Lib.indexByte s.data.toList c)) ∧ w' = w := by
  go_enter Tryz.func92, Tryz.ntmps92
  go_wp2_with fail
  refine (lIndexByte_any s c w).mono ?_
  rintro e w1 ⟨rfl, rfl⟩
  go_wp2
  go_ret
  exact ⟨rfl, rfl⟩
theorem digit_any (c : UInt8) (w : World) :
    Calls Tryz.prog 92 #[.string ⟨#[48, 49, 50, 51, 52, 53, 54, 55, 56, 57, 97, 98, 99, 100, 101, 102]⟩, .int .u8 c.toNat] w fun e w' => e = .returned (.int .i64 (hexi c)) ∧ w' = w := by
  have := sIndexByte_any hexTl c w
  rw [hexi_idx] at this
  exact this
set_option maxHeartbeats 3200000 in
theorem unhex_any (w : World) (gb : Nat) (cs : List UInt8) (h32 : cs.length = 32) (hc : Cells w gb 32 (cs.map bv)) (s : ByteArray) :
    Calls Tryz.prog 69 #[.string s, .slice (some ⟨gb, 0, none⟩) 32 32] w fun e w' => ∃ r : List UInt8, r.length = 32 ∧ e = .returned (.bool (unhexS 32 s.data.toList).isSome) ∧ (∀ v, unhexS 32 s.data.toList = some v → r = v) ∧ Cells w' gb 32 (r.map bv) ∧ Below gb w w' := by
  have hgb := Cells.lt hc
  have hsl : s.data.toList.length = s.size := Array.length_toList
  have hR : All w [.cells gb 32 (cs.map bv), .kept w gb] := ⟨hc, ⟨Below.refl _ _, Nat.le_of_lt hgb⟩, trivial⟩
  by_cases q1 : s.size = 64
  · have d1 : ((s.size : Int) != 64) = false := by simp; omega
    have hsl2 := Lib.hid (show s.data.toList.length = 2 * 32 from by omega)
    have hs64 : (s.size : Int) = 64 := by omega
    have HSL := Lib.hid hsl
    have HQ1 := Lib.hid q1
    clear hsl q1 hs64 hc
    have H320 := Lib.hid h32
    clear h32
    go_enter Tryz.func69, Tryz.ntmps69
    go_wp2
    go_loopw [16] (fun i wr => ∃ (k : Nat) (r : List UInt8), k ≤ 32 ∧ i = .int .i64 k ∧ Hid (r.length = 32 ∧ r.take k = (List.range k).map (pairV s.data.toList) ∧ ∀ i < k, pairB s.data.toList i = true) ∧ All wr [.cells gb 32 (r.map bv), .kept w gb]) (fun i _ => 32 - (intOf i).toNat)
    case atStart => exact ⟨0, cs, by omega, rfl, Lib.hid ⟨H320.out, rfl, fun i hi => absurd hi (by omega)⟩, hR⟩
    case round =>
      clear hR
      obtain ⟨k, r, hk, rfl, HR, hI⟩ := hrel
      by_cases hlt : k < 32
      · have hk1 : 2 * k < s.size := by have := HQ1.out; omega
        have hk2 : 2 * k + 1 < s.size := by have := HQ1.out; omega
        obtain ⟨ca, ha⟩ : ∃ a, s[2 * k] = a := ⟨_, rfl⟩
        obtain ⟨cb, hb⟩ : ∃ b, s[2 * k + 1] = b := ⟨_, rfl⟩
        have HA : Hid (∀ (h : (2 * (k : Int)).toNat < s.size), s[(2 * (k : Int)).toNat]'h = ca) := Lib.hid (fun h => by rw [← ha]; congr 1)
        have HB : Hid (∀ (h : (2 * (k : Int) + 1).toNat < s.size), s[(2 * (k : Int) + 1).toNat]'h = cb) := Lib.hid (fun h => by rw [← hb]; congr 1)
        have HP : Hid (pairB s.data.toList k = (hexv ca != 16 && hexv cb != 16) ∧ pairV s.data.toList k = UInt8.ofNat (16 * hexv ca + hexv cb)) := Lib.hid (by
          have x1 : s.data.toList.getD (2 * k) 0 = ca := by rw [List.getD, List.getElem?_eq_getElem (by have := HSL.out; omega)]; exact ha
          have x2 : s.data.toList.getD (2 * k + 1) 0 = cb := by rw [List.getD, List.getElem?_eq_getElem (by have := HSL.out; omega)]; exact hb
          unfold pairB pairV
          rw [x1, x2]
          exact ⟨rfl, rfl⟩)
        clear ha hb
        have y0 : (0 : Int) ≤ 2 * (k : Int) := by omega
        have y1 : 2 * (k : Int) < (s.size : Int) := by omega
        have y2 : (0 : Int) ≤ 2 * (k : Int) + 1 := by omega
        have y3 : 2 * (k : Int) + 1 < (s.size : Int) := by omega
        have w1 : IntKind.i64.wrap (2 * (k : Int)) = 2 * (k : Int) := IntWalk.i64_in _ (by omega)
        have w2 : IntKind.i64.wrap (2 * (k : Int) + 1) = 2 * (k : Int) + 1 := IntWalk.i64_in _ (by omega)
        have d2 : decide ((k : Int) < 32) = true := by simp; omega
        clear hk1 hk2
        go_upto_region 6 with (fail)
        refine wp_region_hops 10 [19, 20, 21, 22, 23, 24, 25, 26, 27, 28] [.cells gb 32 (r.map bv), .kept w gb]
          [.eq (.string s), .eq (.int .i64 (k : Int)), .eq (.int .i64 (2 * (k : Int))), .eq (.int .u8 (ca.toNat : Int)), .eq (.int .i64 (hexi ca)), .eq (.string s), .eq (.int .i64 (k : Int)), .eq (.int .i64 (2 * (k : Int))), .eq (.int .i64 (2 * (k : Int) + 1)), .eq (.int .u8 (cb.toNat : Int))]
          (by kernel_rfl) (by kernel_rfl) hI rfl ?hops ?fin
        case hops =>
          refine ⟨?_, ?_, ?_, ?_, ?_, ?_, ?_, ?_, ?_, ?_, trivial⟩
          · intro a W hW hb hd K hK
            have b0 := hb 0 rfl
            go_simp
            exact hK _ _ (World.grownBy.refl _ _) rfl
          · intro a W hW hb hd K hK
            have b5 := hb 5 rfl
            go_simp
            exact hK _ _ (World.grownBy.refl _ _) rfl
          · intro a W hW hb hd K hK
            have b20 : a.tmps[20]?.getD undef = _ := hd ⟨1, .data⟩ (by simp) rfl
            go_simp
            exact hK _ _ (World.grownBy.refl _ _) rfl
          · intro a W hW hb hd K hK
            have b19 : a.tmps[19]?.getD undef = _ := hd ⟨0, .data⟩ (by simp) rfl
            have b21 : a.tmps[21]?.getD undef = _ := hd ⟨2, .data⟩ (by simp) rfl
            go_simp
            exact hK _ _ (World.grownBy.refl _ _) (congrArg (fun z : UInt8 => Value.int .u8 (z.toNat : Int)) (HA.out _))
          · intro a W hW hb hd K hK
            have b22 : a.tmps[22]?.getD undef = _ := hd ⟨3, .data⟩ (by simp) rfl
            go_simp
            refine (digit_any ca W).mono ?_
            rintro e w' ⟨rfl, rfl⟩
            exact hK _ _ (World.grownBy.refl _ _) rfl
          · intro a W hW hb hd K hK
            have b0 := hb 0 rfl
            go_simp
            exact hK _ _ (World.grownBy.refl _ _) rfl
          · intro a W hW hb hd K hK
            have b5 := hb 5 rfl
            go_simp
            exact hK _ _ (World.grownBy.refl _ _) rfl
          · intro a W hW hb hd K hK
            have b25 : a.tmps[25]?.getD undef = _ := hd ⟨6, .data⟩ (by simp) rfl
            go_simp
            exact hK _ _ (World.grownBy.refl _ _) rfl
          · intro a W hW hb hd K hK
            have b26 : a.tmps[26]?.getD undef = _ := hd ⟨7, .data⟩ (by simp) rfl
            go_simp
            exact hK _ _ (World.grownBy.refl _ _) rfl
          · intro a W hW hb hd K hK
            have b24 : a.tmps[24]?.getD undef = _ := hd ⟨5, .data⟩ (by simp) rfl
            have b27 : a.tmps[27]?.getD undef = _ := hd ⟨8, .data⟩ (by simp) rfl
            go_simp
            exact hK _ _ (World.grownBy.refl _ _) (congrArg (fun z : UInt8 => Value.int .u8 (z.toNat : Int)) (HB.out _))
        case fin =>
          intro vv V hV hv
          have e4 : vv 4 = _ := hv 4 (by decide)
          have e9 : vv 9 = _ := hv 9 (by decide)
          clear hv hI
          simp only [putAll, List.drop_succ_cons, List.drop_zero, e4, e9, Act.put, List.setIfInBounds_toArray, List.set_cons_succ, List.set_cons_zero]
          clear e4 e9
          go_wp2_with fail
          refine (digit_any cb V).mono ?_
          rintro e w5 ⟨rfl, hw5⟩
          rw [hw5]
          clear hw5
          clear y0 y1 y2 y3 w1 w2
          cases q6 : decide (hexi ca < 0) with
          | true =>
            have hn := Lib.hid (unhexS_bad (s := s.data.toList) hlt (by rw [HP.out.1, hexi_neg q6]; rfl))
            go_wp2_with fail
            go_ret
            exact ⟨r, HR.out.1, by rw [hn.out]; rfl, (fun v hv => by rw [hn.out] at hv; cases hv), hV.at_ 0 rfl, (hV.at_ 1 rfl).1⟩
          | false =>
            cases q7 : decide (hexi cb < 0) with
            | true =>
              have hn := Lib.hid (unhexS_bad (s := s.data.toList) hlt (by rw [HP.out.1, hexi_neg q7]; simp))
              go_wp2_with fail
              go_ret
              exact ⟨r, HR.out.1, by rw [hn.out]; rfl, (fun v hv => by rw [hn.out] at hv; cases hv), hV.at_ 0 rfl, (hV.at_ 1 rfl).1⟩
            | false =>
              obtain ⟨xa, ya⟩ := hexi_pos q6
              obtain ⟨xb, yb⟩ := hexi_pos q7
              have HPB : Hid (pairB s.data.toList k = true) := Lib.hid (by rw [HP.out.1]; simp; omega)
              have HPV := Lib.hid HP.out.2
              clear q6 q7 HP
              rw [xa, xb]
              have q6 : decide ((hexv ca : Int) < 0) = false := by simp
              have q7 : decide ((hexv cb : Int) < 0) = false := by simp
              clear xa xb HA HB
              generalize hexv ca = x at *
              generalize hexv cb = y at *
              obtain ⟨z, hz⟩ : ∃ z : UInt8, z = UInt8.ofNat (16 * x + y) := ⟨_, rfl⟩
              have hzn : z.toNat = 16 * x + y := by rw [hz, UInt8.toNat_ofNat']; omega
              rw [← hz] at HPV
              clear hz
              have HZ : Hid ((16 * (x : Int) + (y : Int)) = (z.toNat : Int)) := Lib.hid (by omega)
              have w1 : IntKind.i64.wrap (16 * (x : Int)) = 16 * (x : Int) := IntWalk.i64_in _ (by omega)
              have w2 : IntKind.i64.wrap (16 * (x : Int) + (y : Int)) = 16 * (x : Int) + (y : Int) := IntWalk.i64_in _ (by omega)
              have w3 : IntKind.u8.wrap (16 * (x : Int) + (y : Int)) = 16 * (x : Int) + (y : Int) := IntWalk.u8_in _ (by omega)
              have f2 := Cells.frozen (hV.at_ 0 rfl : Cells V gb _ _) k
              have c2 := Cells.cellD (hV.at_ 0 rfl : Cells V gb _ _) (i := k) (d := undef) (by rw [List.length_map, HR.out.1]; exact hlt)
              have wk0 : (0 : Int) ≤ (k : Int) := by omega
              clear hzn
              go_wp2
              refine ⟨⟨k + 1, r.set k z, by omega, by go_num, Lib.hid ⟨by rw [List.length_set]; exact HR.out.1, ?_, ?_⟩, ?_⟩, by simp [intOf]; omega⟩
              · rw [take_set _ _ _ (by rw [HR.out.1]; exact hlt), range_snoc, HR.out.2.1, HPV.out]
              · intro i hi
                rcases Nat.lt_or_eq_of_le (Nat.le_of_lt_succ hi) with h | h
                · exact HR.out.2.2 i h
                · rw [h]; exact HPB.out
              · have hbz : bv z = .int .u8 (16 * (x : Int) + (y : Int)) := by unfold bv; rw [HZ.out]
                rw [List.map_set, hbz]
                exact hV.store 0 rfl k _ (by simp [Apart, Res.apart])
      · have d2 : decide ((k : Int) < 32) = false := by simp; omega
        have hn : Hid (unhexS 32 s.data.toList = some r) := Lib.hid (by
          rw [unhexS_good hsl2.out (fun i hi => HR.out.2.2 i (by omega)), ← show k = 32 from by omega, ← HR.out.2.1, List.take_of_length_le (by rw [HR.out.1]; omega)])
        go_wp2_with fail
        go_ret
        exact ⟨r, HR.out.1, by rw [hn.out]; rfl, (fun v hv => by rw [hn.out] at hv; exact Option.some.inj hv), hI.at_ 0 rfl, (hI.at_ 1 rfl).1⟩
  · have d1 : ((s.size : Int) != 64) = true := by simp; omega
    have hn := Lib.hid (unhexS_len (n := 32) (s := s.data.toList) (by omega))
    clear hsl
    go_enter Tryz.func69, Tryz.ntmps69
    go_wp2_with fail
    go_ret
    exact ⟨cs, h32, by rw [hn.out]; rfl, (fun v hv => by rw [hn.out] at hv; cases hv), hc, Below.refl _ _⟩
set_option maxHeartbeats 3200000 in
theorem Parse_any (s : ByteArray) (w : World) :
    Calls Tryz.prog 50 #[.string s] w fun e w' => e = .returned (.tuple #[.agg ((parsed s.data.toList).map bv).toArray, .bool (parseD s.data.toList).isSome]) ∧ Below w.heap.size w w' := by
  have hR : All w [.kept w w.heap.size] := ⟨⟨Below.refl _ _, Nat.le_refl _⟩, trivial⟩
  have hcp : Calls Tryz.prog 68 #[.string s, .string ⟨#[115, 104, 97, 50, 53, 54, 58]⟩] = Calls Tryz.prog 68 #[.string s, .string ⟨prefL.toArray⟩] := rfl
  have hct := fun W : World => Any.strings_CutPrefix Go.Proofs.Tryz.lays103 s ⟨prefL.toArray⟩ W
  have hzl : Hid ((z32.map bv).length = 32) := Lib.hid rfl
  clear hcp
  go_enter Tryz.func50, Tryz.ntmps50
  go_upto_region 2 with (fail)
  refine wp_gen ((hR.new (l := z32.map bv) _ 32 rfl rfl).new (l := z32.map bv) (g := w.heap.size + 1) _ 32 (by simp) rfl) ?_
  intro W1 hW1
  clear hR
  go_wp2_with fail
  refine (hct W1).mono ?_
  clear hct
  rintro e w2 ⟨rfl, hw2⟩
  rw [hw2]
  clear hw2
  cases hp : Lib.hasPrefix s.data.toList prefL with
  | false =>
    have HF : Hid (parseD s.data.toList = none ∧ parsed s.data.toList = z32) := Lib.hid (by have := parseD_not hp; exact ⟨this, by unfold parsed; rw [this]; rfl⟩)
    clear hp
    generalize (⟨(Lib.trimPrefix s.data.toList prefL).toArray⟩ : ByteArray) = rest at *
    go_wp2_with (refine wl_store_at hW1 1 rfl 32 (.tmp 2) _ rfl w.heap.size _ _ (z32.map bv) rfl rfl rfl hzl.out (by rw [hzl.out]; kernel_rfl) (bv_one _) (by simp [Apart, Res.apart] <;> omega) ?_; intro w9 hI9 hs9)
    refine bodyPost_ret (v := .tuple #[.agg (z32.map bv).toArray, .bool false]) ?_ rfl ⟨by rw [HF.out.1, HF.out.2]; rfl, (hI9.at_ 2 rfl).1⟩
    exact results_row_tmp (p := 2) (q := 3) rfl _ _ w.heap.size 32 (z32.map bv).toArray (0, 0) _ rfl (hI9.at_ 1 rfl) Tryz.underlying32 rfl (by rw [List.size_toArray, hzl.out]; kernel_rfl)
  | true =>
    have hpd := parseD_pre hp
    have htr : Lib.trimPrefix s.data.toList prefL = s.data.toList.drop 7 := by unfold Lib.trimPrefix; rw [hp]; rfl
    rw [htr]
    clear hp htr
    obtain ⟨rest, hrest⟩ : ∃ rest : ByteArray, rest = ⟨(s.data.toList.drop 7).toArray⟩ := ⟨_, rfl⟩
    have hrl : s.data.toList.drop 7 = rest.data.toList := by rw [hrest]
    rw [hrl] at hpd
    rw [← hrest]
    have HPD := Lib.hid hpd
    clear hpd hrl hrest
    have hcl := unhex_any W1 (w.heap.size + 1) z32 rfl (hW1.at_ 0 rfl) rest
    go_wp2_with fail
    refine hcl.mono ?_
    clear hcl
    rintro e w3 ⟨r, hr32, rfl, hrv, hcr, hb3⟩
    have hW3 : All w3 [.cells (w.heap.size + 1) 32 (r.map bv), .cells w.heap.size 32 (z32.map bv), .kept w w.heap.size] :=
      ⟨hcr, Cells.under (hW1.at_ 1 rfl) hb3 (by omega), ⟨(hW1.at_ 2 rfl : _ ∧ _).1.trans (hb3.mono (by omega)), Nat.le_trans (hW1.at_ 2 rfl : _ ∧ w.heap.size ≤ W1.heap.size).2 hb3.size⟩, trivial⟩
    have hr32' : Hid ((r.map bv).length = 32) := Lib.hid (by rw [List.length_map, hr32])
    have HRV := Lib.hid hrv
    clear hcr hb3 hW1 hrv hr32
    cases hu : unhexS 32 rest.data.toList with
    | none =>
      have HF : Hid (parseD s.data.toList = none ∧ parsed s.data.toList = z32) := Lib.hid (by have := HPD.out; rw [hu] at this; exact ⟨this, by unfold parsed; rw [this]; rfl⟩)
      clear hu HPD HRV
      go_wp2_with (refine wl_store_at hW3 1 rfl 32 (.tmp 2) _ rfl w.heap.size _ _ (z32.map bv) rfl rfl rfl hzl.out (by rw [hzl.out]; kernel_rfl) (bv_one _) (by simp [Apart, Res.apart] <;> omega) ?_; intro w9 hI9 hs9)
      refine bodyPost_ret (v := .tuple #[.agg (z32.map bv).toArray, .bool false]) ?_ rfl ⟨by rw [HF.out.1, HF.out.2]; rfl, (hI9.at_ 2 rfl).1⟩
      exact results_row_tmp (p := 2) (q := 3) rfl _ _ w.heap.size 32 (z32.map bv).toArray (0, 0) _ rfl (hI9.at_ 1 rfl) Tryz.underlying32 rfl (by rw [List.size_toArray, hzl.out]; kernel_rfl)
    | some v =>
      have hrv := HRV.out v hu
      subst hrv
      have HF : Hid (parseD s.data.toList = some r ∧ parsed s.data.toList = r) := Lib.hid (by have := HPD.out; rw [hu] at this; exact ⟨this, by unfold parsed; rw [this]; rfl⟩)
      clear hu HPD HRV
      go_wp2_with (first | (refine wl_load_at rfl 32 (.tmp 4) rfl (w.heap.size + 1) _ _ (hW3.at_ 0 rfl) rfl _ Tryz.underlying32 rfl (by rw [hr32'.out]; kernel_rfl) ?_) | (refine wl_store_at hW3 1 rfl 32 (.tmp 2) _ rfl w.heap.size _ _ (r.map bv) rfl rfl rfl hr32'.out (by rw [hr32'.out]; kernel_rfl) (bv_one _) (by simp [Apart, Res.apart] <;> omega) ?_; intro w9 hI9 hs9))
      refine bodyPost_ret (v := .tuple #[.agg (r.map bv).toArray, .bool true]) ?_ rfl ⟨by rw [HF.out.1, HF.out.2]; rfl, (hI9.at_ 2 rfl).1⟩
      exact results_row_tmp (p := 2) (q := 3) rfl _ _ w.heap.size 32 (r.map bv).toArray (0, 0) _ rfl (hI9.at_ 1 rfl) Tryz.underlying32 rfl (by rw [List.size_toArray, hr32'.out]; kernel_rfl)
end Go.Proofs.YtkcmaembpfakdaaGreatDoor

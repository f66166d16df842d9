/- Texts of digests are read: the reference. -/
import Derived.Test.YtkcmaembpfakdaaGreatDoorParD
import Derived.Test.YtkcmaembpfakdaaGreatDoorFmtR
import Derived.IntWalk
import Derived.Deep.QuietTactic
import Derived.BigQuiet
import Derived.Deep.RegionHeld3
import Derived.Deep.Cut
set_option linter.unusedSimpArgs false
set_option linter.unusedVariables false
set_option maxRecDepth 100000
namespace Go.Proofs.YtkcmaembpfakdaaGreatDoor
open Go Go.RowKit Go.Adm Go.AdP Go.Shelf
set_option maxHeartbeats 800000 in
theorem hexvalue_any (c : UInt8) (w : World) :
    Calls Tryz.prog 85 #[.int .u8 c.toNat] w fun e w' => e = .returned (.int .i64 (hexv c)) ∧ w' = w := by
  have hc := c.toNat_lt
  have HV : Hid (hexv c = if 48 ≤ c.toNat ∧ c.toNat ≤ 57 then c.toNat - 48 else if 97 ≤ c.toNat ∧ c.toNat ≤ 102 then c.toNat - 87 else 16) := Lib.hid rfl
  generalize hexv c = v at *
  generalize c.toNat = x at *
  by_cases q0 : x < 48
  · have hv : v = 16 := by rw [HV.out]; split <;> (try split) <;> omega
    have e0 : decide (48 ≤ x) = false := by simp; omega
    have g0 : decide (48 ≤ (x : Int)) = false := by simp; omega
    have e1 : decide (97 ≤ x) = false := by simp; omega
    have g1 : decide (97 ≤ (x : Int)) = false := by simp; omega
    have HW := Lib.hid hv
    clear hv HV
    go_enter Tryz.func85, Tryz.ntmps85
    go_wp2_with fail
    go_ret
    exact ⟨by rw [HW.out]; first | rfl | (apply congrArg (fun z => Ending.returned (Value.int .i64 z)); omega), rfl⟩
  by_cases q1 : x ≤ 57
  · have hv : v = x - 48 := by rw [HV.out]; split <;> (try split) <;> omega
    have e0 : decide (48 ≤ x) = true := by simp; omega
    have g0 : decide (48 ≤ (x : Int)) = true := by simp; omega
    have e1 : decide (x ≤ 57) = true := by simp; omega
    have g1 : decide ((x : Int) ≤ 57) = true := by simp; omega
    have w1 : IntKind.u8.wrap ((x : Int) - 48) = ((x - 48 : Nat) : Int) := by rw [IntWalk.u8_in _ (by omega)]; omega
    have w2 : IntKind.i64.wrap (((x - 48 : Nat) : Int)) = ((x - 48 : Nat) : Int) := IntWalk.i64_in _ (by omega)
    have HW := Lib.hid hv
    clear hv HV
    go_enter Tryz.func85, Tryz.ntmps85
    go_wp2_with fail
    go_ret
    exact ⟨by rw [HW.out]; first | rfl | (apply congrArg (fun z => Ending.returned (Value.int .i64 z)); omega), rfl⟩
  by_cases q2 : x < 97
  · have hv : v = 16 := by rw [HV.out]; split <;> (try split) <;> omega
    have e0 : decide (48 ≤ x) = true := by simp; omega
    have g0 : decide (48 ≤ (x : Int)) = true := by simp; omega
    have e1 : decide (x ≤ 57) = false := by simp; omega
    have g1 : decide ((x : Int) ≤ 57) = false := by simp; omega
    have e2 : decide (97 ≤ x) = false := by simp; omega
    have g2 : decide (97 ≤ (x : Int)) = false := by simp; omega
    have HW := Lib.hid hv
    clear hv HV
    go_enter Tryz.func85, Tryz.ntmps85
    go_wp2_with fail
    go_ret
    exact ⟨by rw [HW.out]; first | rfl | (apply congrArg (fun z => Ending.returned (Value.int .i64 z)); omega), rfl⟩
  by_cases q3 : x ≤ 102
  · have hv : v = x - 87 := by rw [HV.out]; split <;> (try split) <;> omega
    have e0 : decide (48 ≤ x) = true := by simp; omega
    have g0 : decide (48 ≤ (x : Int)) = true := by simp; omega
    have e1 : decide (x ≤ 57) = false := by simp; omega
    have g1 : decide ((x : Int) ≤ 57) = false := by simp; omega
    have e2 : decide (97 ≤ x) = true := by simp; omega
    have g2 : decide (97 ≤ (x : Int)) = true := by simp; omega
    have e3 : decide (x ≤ 102) = true := by simp; omega
    have g3 : decide ((x : Int) ≤ 102) = true := by simp; omega
    have w1 : IntKind.u8.wrap ((x : Int) - 97) = ((x - 97 : Nat) : Int) := by rw [IntWalk.u8_in _ (by omega)]; omega
    have w2 : IntKind.i64.wrap (((x - 97 : Nat) : Int)) = ((x - 97 : Nat) : Int) := IntWalk.i64_in _ (by omega)
    have w4 : IntKind.i64.wrap (((x - 97 : Nat) : Int) + 10) = ((x - 97 : Nat) : Int) + 10 := IntWalk.i64_in _ (by omega)
    have w5 : IntKind.i64.wrap ((x : Int) - 97 + 10) = (x : Int) - 97 + 10 := IntWalk.i64_in _ (by omega)
    have HW := Lib.hid hv
    clear hv HV
    go_enter Tryz.func85, Tryz.ntmps85
    go_wp2_with fail
    go_ret
    exact ⟨by rw [HW.out]; first | rfl | (apply congrArg (fun z => Ending.returned (Value.int .i64 z)); omega), rfl⟩
  have hv : v = 16 := by rw [HV.out]; split <;> (try split) <;> omega
  have e0 : decide (48 ≤ x) = true := by simp; omega
  have g0 : decide (48 ≤ (x : Int)) = true := by simp; omega
  have e1 : decide (x ≤ 57) = false := by simp; omega
  have g1 : decide ((x : Int) ≤ 57) = false := by simp; omega
  have e2 : decide (97 ≤ x) = true := by simp; omega
  have g2 : decide (97 ≤ (x : Int)) = true := by simp; omega
  have e3 : decide (x ≤ 102) = false := by simp; omega
  have g3 : decide ((x : Int) ≤ 102) = false := by simp; omega
  have HW := Lib.hid hv
  clear hv HV
  go_enter Tryz.func85, Tryz.ntmps85
  go_wp2_with fail
  go_ret
  exact ⟨by rw [HW.out]; first | rfl | (apply congrArg (fun z => Ending.returned (Value.int .i64 z)); omega), rfl⟩
set_option maxHeartbeats 3200000 in
theorem refunhex_any (w : World) (s : ByteArray) :
    Calls Tryz.prog 57 #[.string s, .int .i64 32] w fun e w' => ∃ A n c, e = .returned (.tuple #[.slice A n c, .bool (unhexS 32 s.data.toList).isSome]) ∧ Below w.heap.size w w' ∧ n = ((unhexS 32 s.data.toList).getD []).length ∧ Go.Adm.Own w' w.heap.size 5 1 A n c (((unhexS 32 s.data.toList).getD []).map bv) := by
  have hsl : s.data.toList.length = s.size := Array.length_toList
  by_cases q1 : s.size = 64
  · have d1 : ((s.size : Int) != 64) = false := by simp; omega
    have hsl2 := Lib.hid (show s.data.toList.length = 2 * 32 from by omega)
    have HSL := Lib.hid hsl
    have HQ1 := Lib.hid q1
    clear hsl q1
    go_enter Tryz.func57, Tryz.ntmps57
    go_wp2
    go_loopw [6, 7] (fun v i wr => ∃ (k : Nat) (A' : Option Addr) (c' : Nat), k ≤ 32 ∧ i = .int .i64 k ∧ v = .slice A' k c' ∧ Hid (∀ i < k, pairB s.data.toList i = true) ∧ All wr [.own w.heap.size 5 1 A' k c' (((List.range k).map (pairV s.data.toList)).map bv), .kept w w.heap.size]) (fun _ i _ => 32 - (intOf i).toNat)
    case atStart => exact ⟨0, none, 0, by omega, rfl, rfl, Lib.hid (fun i hi => absurd hi (by omega)), Go.Adm.Own.nil _ _ _ _, ⟨Below.refl _ _, Nat.le_refl _⟩, trivial⟩
    case round =>
      obtain ⟨k, A', c', hk, rfl, rfl, HR, hI⟩ := hrel
      by_cases hlt : k < 32
      · have hk1 : 2 * k < s.size := by have := HQ1.out; omega
        have hk2 : 2 * k + 1 < s.size := by have := HQ1.out; omega
        obtain ⟨ca, ha⟩ : ∃ a, s[2 * k] = a := ⟨_, rfl⟩
        obtain ⟨cb, hb⟩ : ∃ b, s[2 * k + 1] = b := ⟨_, rfl⟩
        have HA : Hid (∀ (h : (2 * (k : Int)).toNat < s.size), s[(2 * (k : Int)).toNat]'h = ca) := Lib.hid (fun h => by rw [← ha]; congr 1)
        have HB : Hid (∀ (h : (2 * (k : Int) + 1).toNat < s.size), s[(2 * (k : Int) + 1).toNat]'h = cb) := Lib.hid (fun h => by rw [← hb]; congr 1)
        have HP : Hid (pairB s.data.toList k = (hexv ca != 16 && hexv cb != 16) ∧ pairV s.data.toList k = UInt8.ofNat (16 * hexv ca + hexv cb)) := Lib.hid (by
          have x1 : s.data.toList.getD (2 * k) 0 = ca := by rw [List.getD, List.getElem?_eq_getElem (by have := HSL.out; omega)]; exact ha
          have x2 : s.data.toList.getD (2 * k + 1) 0 = cb := by rw [List.getD, List.getElem?_eq_getElem (by have := HSL.out; omega)]; exact hb
          unfold pairB pairV
          rw [x1, x2]
          exact ⟨rfl, rfl⟩)
        clear ha hb
        have y0 : (0 : Int) ≤ 2 * (k : Int) := by omega
        have y1 : 2 * (k : Int) < (s.size : Int) := by omega
        have y2 : (0 : Int) ≤ 2 * (k : Int) + 1 := by omega
        have y3 : 2 * (k : Int) + 1 < (s.size : Int) := by omega
        have w1 : IntKind.i64.wrap (2 * (k : Int)) = 2 * (k : Int) := IntWalk.i64_in _ (by omega)
        have w2 : IntKind.i64.wrap (2 * (k : Int) + 1) = 2 * (k : Int) + 1 := IntWalk.i64_in _ (by omega)
        have d2 : decide ((k : Int) < 32) = true := by simp; omega
        clear hk1 hk2
        go_upto_region 7 with (fail)
        refine wp_region_hops 10 [20, 21, 22, 23, 24, 25, 26, 27, 28, 29] [.own w.heap.size 5 1 A' k c' (((List.range k).map (pairV s.data.toList)).map bv), .kept w w.heap.size]
          [.eq (.string s), .eq (.int .i64 (k : Int)), .eq (.int .i64 (2 * (k : Int))), .eq (.int .u8 (ca.toNat : Int)), .eq (.int .i64 (hexv ca : Int)), .eq (.string s), .eq (.int .i64 (k : Int)), .eq (.int .i64 (2 * (k : Int))), .eq (.int .i64 (2 * (k : Int) + 1)), .eq (.int .u8 (cb.toNat : Int))]
          (by kernel_rfl) (by kernel_rfl) hI rfl ?hops ?fin
        case hops =>
          refine ⟨?_, ?_, ?_, ?_, ?_, ?_, ?_, ?_, ?_, ?_, trivial⟩
          · intro a W hW hb hd K hK
            have b0 := hb 0 rfl
            go_simp
            exact hK _ _ (World.grownBy.refl _ _) rfl
          · intro a W hW hb hd K hK
            have b7 := hb 7 rfl
            go_simp
            exact hK _ _ (World.grownBy.refl _ _) rfl
          · intro a W hW hb hd K hK
            have b21 : a.tmps[21]?.getD undef = _ := hd ⟨1, .data⟩ (by simp) rfl
            go_simp
            exact hK _ _ (World.grownBy.refl _ _) rfl
          · intro a W hW hb hd K hK
            have b20 : a.tmps[20]?.getD undef = _ := hd ⟨0, .data⟩ (by simp) rfl
            have b22 : a.tmps[22]?.getD undef = _ := hd ⟨2, .data⟩ (by simp) rfl
            go_simp
            exact hK _ _ (World.grownBy.refl _ _) (congrArg (fun z : UInt8 => Value.int .u8 (z.toNat : Int)) (HA.out _))
          · intro a W hW hb hd K hK
            have b23 : a.tmps[23]?.getD undef = _ := hd ⟨3, .data⟩ (by simp) rfl
            go_simp
            refine (hexvalue_any ca W).mono ?_
            rintro e w' ⟨rfl, rfl⟩
            exact hK _ _ (World.grownBy.refl _ _) rfl
          · intro a W hW hb hd K hK
            have b0 := hb 0 rfl
            go_simp
            exact hK _ _ (World.grownBy.refl _ _) rfl
          · intro a W hW hb hd K hK
            have b7 := hb 7 rfl
            go_simp
            exact hK _ _ (World.grownBy.refl _ _) rfl
          · intro a W hW hb hd K hK
            have b26 : a.tmps[26]?.getD undef = _ := hd ⟨6, .data⟩ (by simp) rfl
            go_simp
            exact hK _ _ (World.grownBy.refl _ _) rfl
          · intro a W hW hb hd K hK
            have b27 : a.tmps[27]?.getD undef = _ := hd ⟨7, .data⟩ (by simp) rfl
            go_simp
            exact hK _ _ (World.grownBy.refl _ _) rfl
          · intro a W hW hb hd K hK
            have b25 : a.tmps[25]?.getD undef = _ := hd ⟨5, .data⟩ (by simp) rfl
            have b28 : a.tmps[28]?.getD undef = _ := hd ⟨8, .data⟩ (by simp) rfl
            go_simp
            exact hK _ _ (World.grownBy.refl _ _) (congrArg (fun z : UInt8 => Value.int .u8 (z.toNat : Int)) (HB.out _))
        case fin =>
          intro vv V hV hv
          have e4 : vv 4 = _ := hv 4 (by decide)
          have e9 : vv 9 = _ := hv 9 (by decide)
          have hsV : w.heap.size ≤ V.heap.size := hV.size_kept 1 rfl
          clear hv hI
          simp only [putAll, List.drop_succ_cons, List.drop_zero, e4, e9, Act.put, List.setIfInBounds_toArray, List.set_cons_succ, List.set_cons_zero]
          clear e4 e9
          go_wp2_with fail
          refine (hexvalue_any cb V).mono ?_
          rintro e w5 ⟨rfl, hw5⟩
          rw [hw5]
          clear hw5
          clear y0 y1 y2 y3 w1 w2
          have hxle := hexv_le ca
          have hyle := hexv_le cb
          cases q6 : ((hexv ca : Int) == 16) with
          | true =>
            have hn := Lib.hid (unhexS_bad (s := s.data.toList) hlt (by rw [HP.out.1]; have := beq_iff_eq.1 q6; rw [show hexv ca = 16 from by omega]; rfl))
            go_wp2_with fail
            go_ret2
            exact ⟨none, 0, 0, by rw [hn.out]; rfl, (hV.at_ 1 rfl).1, by rw [hn.out]; rfl, by rw [hn.out]; exact Go.Adm.Own.nil _ _ _ _⟩
          | false =>
            cases q7 : ((hexv cb : Int) == 16) with
            | true =>
              have hn := Lib.hid (unhexS_bad (s := s.data.toList) hlt (by rw [HP.out.1]; have := beq_iff_eq.1 q7; rw [show hexv cb = 16 from by omega]; simp))
              go_wp2_with fail
              go_ret2
              exact ⟨none, 0, 0, by rw [hn.out]; rfl, (hV.at_ 1 rfl).1, by rw [hn.out]; rfl, by rw [hn.out]; exact Go.Adm.Own.nil _ _ _ _⟩
            | false =>
              have ya : hexv ca < 16 := by have := bne_iff_ne.1 (by rw [bne, q6]; rfl : ((hexv ca : Int) != 16) = true); omega
              have yb : hexv cb < 16 := by have := bne_iff_ne.1 (by rw [bne, q7]; rfl : ((hexv cb : Int) != 16) = true); omega
              have HPB : Hid (pairB s.data.toList k = true) := Lib.hid (by rw [HP.out.1]; simp; omega)
              have HPV := Lib.hid HP.out.2
              clear HP HA HB hxle hyle
              generalize hexv ca = x at *
              generalize hexv cb = y at *
              obtain ⟨z, hz⟩ : ∃ z : UInt8, z = UInt8.ofNat (16 * x + y) := ⟨_, rfl⟩
              have hzn : z.toNat = 16 * x + y := by rw [hz, UInt8.toNat_ofNat']; omega
              rw [← hz] at HPV
              clear hz
              have HZ : Hid ((16 * (x : Int) + (y : Int)) = (z.toNat : Int)) := Lib.hid (by omega)
              have w1 : IntKind.i64.wrap (16 * (x : Int)) = 16 * (x : Int) := IntWalk.i64_in _ (by omega)
              have w2 : IntKind.i64.wrap (16 * (x : Int) + (y : Int)) = 16 * (x : Int) + (y : Int) := IntWalk.i64_in _ (by omega)
              have w3 : IntKind.u8.wrap (16 * (x : Int) + (y : Int)) = 16 * (x : Int) + (y : Int) := IntWalk.u8_in _ (by omega)
              clear hzn
              go_wp2_with (at_builtin; refine wl_app_at el_bR (hV.alloc _) 0 rfl (.tmp 37) (.tmp 43) rfl w.heap.size _ _ _ _ rfl rfl (V.heap.size + 1) _ 1 _ [.int .u8 (16 * (x : Int) + (y : Int))] rfl (Rd.lit V #[.int .u8 (16 * (x : Int) + (y : Int))] _ 1 rfl) (by intro u hu; simp only [List.mem_singleton] at hu; subst hu; rfl) (by omega) (by simp; omega) (by intro g hg _; simp [Apart, Res.apart] <;> omega) ?_; intro A3 c3 w3 hI3 hs3)
              refine ⟨⟨k + 1, A3, c3, by omega, by go_num, rfl, Lib.hid ?_, ?_⟩, by simp [intOf]; omega⟩
              · intro i hi
                rcases Nat.lt_or_eq_of_le (Nat.le_of_lt_succ hi) with h | h
                · exact HR.out i h
                · rw [h]; exact HPB.out
              · have hbz : bv z = .int .u8 (16 * (x : Int) + (y : Int)) := by unfold bv; rw [HZ.out]
                rw [range_snoc, List.map_append, HPV.out, List.map_cons, List.map_nil, hbz]
                exact hI3
      · have d2 : decide ((k : Int) < 32) = false := by simp; omega
        have hk32 : k = 32 := by omega
        have hn : Hid (unhexS 32 s.data.toList = some ((List.range k).map (pairV s.data.toList))) := Lib.hid (by
          rw [unhexS_good hsl2.out (fun i hi => HR.out i (by omega)), hk32])
        have hown := (hI.at_ 0 rfl : Go.Adm.Own wr w.heap.size 5 1 A' k c' _)
        have hkp := (hI.at_ 1 rfl : _ ∧ _).1
        clear hk32 hI
        go_wp2_with fail
        go_ret2
        exact ⟨A', k, c', by rw [hn.out]; rfl, hkp, by rw [hn.out]; simp, by rw [hn.out]; exact hown⟩
  · have d1 : ((s.size : Int) != 64) = true := by simp; omega
    have hn := Lib.hid (unhexS_len (n := 32) (s := s.data.toList) (by omega))
    clear hsl
    go_enter Tryz.func57, Tryz.ntmps57
    go_wp2_with fail
    go_ret2
    exact ⟨none, 0, 0, by rw [hn.out]; rfl, Below.refl _ _, by rw [hn.out]; rfl, by rw [hn.out]; exact Go.Adm.Own.nil _ _ _ _⟩
set_option maxHeartbeats 3200000 in
theorem refParse_any (s : ByteArray) (w : World) :
    Calls Tryz.prog 36 #[.string s] w fun e w' => e = .returned (.tuple #[.agg ((parsed s.data.toList).map bv).toArray, .bool (parseD s.data.toList).isSome]) ∧ Below w.heap.size w w' := by
  have hsl : s.data.toList.length = s.size := Array.length_toList
  have hR : All w [.kept w w.heap.size] := ⟨⟨Below.refl _ _, Nat.le_refl _⟩, trivial⟩
  have hzl : Hid ((z32.map bv).length = 32) := Lib.hid rfl
  by_cases q1 : s.size = 71
  · have d1 : ((s.size : Int) != 71) = false := by simp; omega
    have hex := extract_pre s
    have hex2 := extract_rest s
    have y1 : (7 : Int) ≤ (s.size : Int) := by omega
    have HQ := Lib.hid q1
    clear q1 hsl
    cases q2 : ((s.extract 0 7).toList == [115, 104, 97, 50, 53, 54, 58]) with
    | false =>
      have HF : Hid (parseD s.data.toList = none ∧ parsed s.data.toList = z32) := Lib.hid (by have := parseD_not (s := s.data.toList) (hex.1 HQ.out q2); exact ⟨this, by unfold parsed; rw [this]; rfl⟩)
      clear hex hex2
      go_enter Tryz.func36, Tryz.ntmps36
      go_upto_region 2 with (fail)
      refine wp_gen ((hR.new (l := z32.map bv) _ 32 rfl rfl).new (l := z32.map bv) (g := w.heap.size + 1) _ 32 (by simp) rfl) ?_
      intro W1 hW1
      clear hR
      go_wp2_with (first | (refine wl_load_at rfl 32 (.tmp 4) rfl (w.heap.size + 1) _ _ (hW1.at_ 0 rfl) rfl _ Tryz.underlying32 rfl (by rw [hzl.out]; kernel_rfl) ?_) | (refine wl_store_at hW1 1 rfl 32 (.tmp 2) _ rfl w.heap.size _ _ (z32.map bv) rfl rfl rfl hzl.out (by rw [hzl.out]; kernel_rfl) (bv_one _) (by simp [Apart, Res.apart] <;> omega) ?_; intro w9 hI9 hs9))
      refine bodyPost_ret (v := .tuple #[.agg (z32.map bv).toArray, .bool false]) ?_ rfl ⟨by rw [HF.out.1, HF.out.2]; rfl, (hI9.at_ 2 rfl).1⟩
      exact results_row_tmp (p := 2) (q := 3) rfl _ _ w.heap.size 32 (z32.map bv).toArray (0, 0) _ rfl (hI9.at_ 1 rfl) Tryz.underlying32 rfl (by rw [List.size_toArray, hzl.out]; kernel_rfl)
    | true =>
      have hpd := parseD_pre (s := s.data.toList) (hex.2 HQ.out q2)
      obtain ⟨rest, hrest⟩ : ∃ rest : ByteArray, rest = s.extract 7 s.size := ⟨_, rfl⟩
      have hrl : s.data.toList.drop 7 = rest.data.toList := by rw [hrest, hex2]
      rw [hrl] at hpd
      have HPD := Lib.hid hpd
      have HRE := Lib.hid hrest
      clear hpd hrl hrest hex hex2
      go_enter Tryz.func36, Tryz.ntmps36
      go_upto_region 2 with (fail)
      refine wp_gen ((hR.new (l := z32.map bv) _ 32 rfl rfl).new (l := z32.map bv) (g := w.heap.size + 1) _ 32 (by simp) rfl) ?_
      intro W1 hW1
      clear hR
      have hcl := refunhex_any W1 rest
      go_wp2_with fail
      rw [← HRE.out]
      refine hcl.mono ?_
      clear hcl HRE
      rintro e w3 ⟨A3, n3, c3, rfl, hb3, hn3, hr3⟩
      have hW3 := hW1.call hb3
      have hgs : w.heap.size + 1 < W1.heap.size := Cells.lt (hW1.at_ 0 rfl)
      clear hW1 hb3
      cases hu : unhexS 32 rest.data.toList with
      | none =>
        rw [hu] at hn3 hr3
        have hn0 : n3 = 0 := hn3
        subst hn0
        have HF : Hid (parseD s.data.toList = none ∧ parsed s.data.toList = z32) := Lib.hid (by have := HPD.out; rw [hu] at this; exact ⟨this, by unfold parsed; rw [this]; rfl⟩)
        clear hu HPD hn3 hr3
        go_wp2
        go_loopw [7] (fun i wr => i = .int .i64 0 ∧ All wr [.cells (w.heap.size + 1) 32 (z32.map bv), .cells w.heap.size 32 (z32.map bv), .kept w w.heap.size]) (fun _ _ => 0)
        case atStart => exact ⟨rfl, hW3⟩
        case round =>
          obtain ⟨rfl, hI⟩ := hrel
          go_wp2_with (first | (refine wl_load_at rfl 32 (.tmp 4) rfl (w.heap.size + 1) _ _ (hI.at_ 0 rfl) rfl _ Tryz.underlying32 rfl (by rw [hzl.out]; kernel_rfl) ?_) | (refine wl_store_at hI 1 rfl 32 (.tmp 2) _ rfl w.heap.size _ _ (z32.map bv) rfl rfl rfl hzl.out (by rw [hzl.out]; kernel_rfl) (bv_one _) (by simp [Apart, Res.apart] <;> omega) ?_; intro w9 hI9 hs9))
          refine bodyPost_ret (v := .tuple #[.agg (z32.map bv).toArray, .bool false]) ?_ rfl ⟨by rw [HF.out.1, HF.out.2]; rfl, (hI9.at_ 2 rfl).1⟩
          exact results_row_tmp (p := 2) (q := 3) rfl _ _ w.heap.size 32 (z32.map bv).toArray (0, 0) _ rfl (hI9.at_ 1 rfl) Tryz.underlying32 rfl (by rw [List.size_toArray, hzl.out]; kernel_rfl)
      | some v =>
        rw [hu] at hn3 hr3
        have hv32 := unhexS_32 hu
        have hn32 : n3 = 32 := by rw [hn3]; exact hv32
        subst hn32
        have hX3 : All w3 [.cells (w.heap.size + 1) 32 ((v.take 0 ++ List.replicate (32 - 0) 0).map bv), .cells w.heap.size 32 (z32.map bv), .kept w w.heap.size, .own W1.heap.size 5 1 A3 32 c3 (v.map bv)] := ⟨hW3.1, hW3.2.1, hW3.2.2.1, hr3, trivial⟩
        have HF : Hid (parseD s.data.toList = some v ∧ parsed s.data.toList = v) := Lib.hid (by have := HPD.out; rw [hu] at this; exact ⟨this, by unfold parsed; rw [this]; rfl⟩)
        have HV32 := Lib.hid hv32
        clear hu HPD hn3 hr3
        clear hW3
        go_wp2
        go_loopw [7] (fun i wr => ∃ k : Nat, k ≤ 32 ∧ i = .int .i64 k ∧ All wr [.cells (w.heap.size + 1) 32 ((v.take k ++ List.replicate (32 - k) 0).map bv), .cells w.heap.size 32 (z32.map bv), .kept w w.heap.size, .own W1.heap.size 5 1 A3 32 c3 (v.map bv)]) (fun i _ => 32 - (intOf i).toNat)
        case atStart => exact ⟨0, by omega, rfl, hX3⟩
        case round =>
          clear hX3
          obtain ⟨k, hk, rfl, hI⟩ := hrel
          by_cases hlt : k < 32
          · have hkl : k < v.length := by rw [HV32.out]; exact hlt
            have d2 : decide ((k : Int) < 32) = true := by simp; omega
            have hrd : Rd wr wr.heap.size 1 A3 32 (v.map bv) := (hI.at_ 3 rfl : Go.Adm.Own wr W1.heap.size 5 1 A3 32 c3 _).rd
            obtain ⟨ad, u, rfl, _, hu, hc⟩ := Rd.cell hrd hlt
            have e1 : u = bv v[k] := by rw [List.getElem?_map, List.getElem?_eq_getElem hkl] at hu; exact (Option.some.inj hu).symm
            subst e1
            have HST := Lib.hid (copyT_set v HV32.out k hlt)
            clear hrd hu
            generalize v[k] = x at *
            have c1 : wr.cell? (ad.add k) = some (.int .u8 (x.toNat : Int)) := hc
            clear hc
            have f2 := Cells.frozen (hI.at_ 0 rfl : Cells wr (w.heap.size + 1) _ _) k
            have c2 := Cells.cellD (hI.at_ 0 rfl : Cells wr (w.heap.size + 1) _ _) (i := k) (d := undef) (by rw [List.length_map, List.length_append, List.length_take, List.length_replicate, HV32.out]; omega)
            have wk0 : (0 : Int) ≤ (k : Int) := by omega
            clear hkl
            go_wp2
            refine ⟨⟨k + 1, by omega, by go_num, ?_⟩, by simp [intOf]; omega⟩
            rw [← HST.out, List.map_set]
            exact hI.store 0 rfl k (bv x) ⟨by simp [Res.apart], fun g hg => by injection hg with hg; omega, fun g hg => by injection hg with hg; exact .inl (by omega), trivial⟩
          · have d2 : decide ((k : Int) < 32) = false := by simp; omega
            have e0 : v.take k ++ List.replicate (32 - k) 0 = v := by rw [List.take_of_length_le (by rw [HV32.out]; omega), show 32 - k = 0 from by omega]; simp
            rw [e0] at hI
            have hl32 : Hid ((v.map bv).length = 32) := Lib.hid (by rw [List.length_map, HV32.out])
            have hJ : All wr [.cells (w.heap.size + 1) 32 (v.map bv), .cells w.heap.size 32 (z32.map bv), .kept w w.heap.size] := ⟨hI.1, hI.2.1, hI.2.2.1, trivial⟩
            clear e0 hI
            go_wp2_with (first | (refine wl_load_at rfl 32 (.tmp 4) rfl (w.heap.size + 1) _ _ (hJ.at_ 0 rfl) rfl _ Tryz.underlying32 rfl (by rw [hl32.out]; kernel_rfl) ?_) | (refine wl_store_at hJ 1 rfl 32 (.tmp 2) _ rfl w.heap.size _ _ (v.map bv) rfl rfl rfl hl32.out (by rw [hl32.out]; kernel_rfl) (bv_one _) (by simp [Apart, Res.apart] <;> omega) ?_; intro w9 hI9 hs9))
            refine bodyPost_ret (v := .tuple #[.agg (v.map bv).toArray, .bool true]) ?_ rfl ⟨by rw [HF.out.1, HF.out.2]; rfl, (hI9.at_ 2 rfl).1⟩
            exact results_row_tmp (p := 2) (q := 3) rfl _ _ w.heap.size 32 (v.map bv).toArray (0, 0) _ rfl (hI9.at_ 1 rfl) Tryz.underlying32 rfl (by rw [List.size_toArray, hl32.out]; kernel_rfl)
  · have d1 : ((s.size : Int) != 71) = true := by simp; omega
    have HF : Hid (parseD s.data.toList = none ∧ parsed s.data.toList = z32) := Lib.hid (by have := parseD_len (s := s.data.toList) (by omega); exact ⟨this, by unfold parsed; rw [this]; rfl⟩)
    clear hsl
    go_enter Tryz.func36, Tryz.ntmps36
    go_upto_region 2 with (fail)
    refine wp_gen ((hR.new (l := z32.map bv) _ 32 rfl rfl).new (l := z32.map bv) (g := w.heap.size + 1) _ 32 (by simp) rfl) ?_
    intro W1 hW1
    clear hR
    go_wp2_with (first | (refine wl_load_at rfl 32 (.tmp 4) rfl (w.heap.size + 1) _ _ (hW1.at_ 0 rfl) rfl _ Tryz.underlying32 rfl (by rw [hzl.out]; kernel_rfl) ?_) | (refine wl_store_at hW1 1 rfl 32 (.tmp 2) _ rfl w.heap.size _ _ (z32.map bv) rfl rfl rfl hzl.out (by rw [hzl.out]; kernel_rfl) (bv_one _) (by simp [Apart, Res.apart] <;> omega) ?_; intro w9 hI9 hs9))
    refine bodyPost_ret (v := .tuple #[.agg (z32.map bv).toArray, .bool false]) ?_ rfl ⟨by rw [HF.out.1, HF.out.2]; rfl, (hI9.at_ 2 rfl).1⟩
    exact results_row_tmp (p := 2) (q := 3) rfl _ _ w.heap.size 32 (z32.map bv).toArray (0, 0) _ rfl (hI9.at_ 1 rfl) Tryz.underlying32 rfl (by rw [List.size_toArray, hzl.out]; kernel_rfl)
end Go.Proofs.YtkcmaembpfakdaaGreatDoor

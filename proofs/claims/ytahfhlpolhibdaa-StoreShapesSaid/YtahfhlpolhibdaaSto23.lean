/- Merge of the reference. -/
import Derived.Test.YtahfhlpolhibdaaSto22
set_option linter.unusedSimpArgs false
set_option linter.unusedVariables false
set_option maxRecDepth 100000
namespace Go.Proofs.Ytahfhlpolhibdaa
open Go Go.RowKit Go.Adm

set_option maxHeartbeats 6400000 in
theorem refMerge_any (w : World) (B : Nat) (Aa Ab : Option Addr) (na nb ca cb : Nat) (la lb : List Bl) (ha : Blobs w B Aa na la) (hb : Blobs w B Ab nb lb) (hna : na ≤ 1000000) (hnb : nb ≤ 1000000) (hB : B ≤ w.heap.size) (hba : ∀ x ∈ la, x.n ≤ 140737488355000) (hbb : ∀ x ∈ lb, x.n ≤ 140737488355000) :
    Calls Try.prog 19 #[.slice Aa na ca, .slice Ab nb cb] w (MrgPost la lb w) := by
  have hR : All w [.low (.blobs B Aa na la), .low (.blobs B Ab nb lb), .kept w w.heap.size] := ⟨⟨ha, hB⟩, ⟨hb, hB⟩, ⟨Below.refl _ _, Nat.le_refl _⟩, trivial⟩
  have HNA := Lib.hid ha.len
  have HNB := Lib.hid hb.len
  have HBA := Lib.hid hba
  have HBB := Lib.hid hbb
  have hzr := zero_bl
  have hv1 := refValid_any w B Aa na ca la ha hna hB hba
  clear ha hb hba hbb
  go_enter Try.func19, Try.ntmps19
  go_upto_region 1 with (fail)
  go_wp2_with fail
  refine hv1.mono ?_
  clear hv1
  rintro e w1 ⟨rfl, hb1⟩
  have hW1 := hR.call hb1
  clear hb1 hR
  cases hva : validB la with
  | false =>
    have HF := Lib.hid (merge3_bad (la := la) (lb := lb) (by rw [hva]; rfl))
    clear hva
    go_wp2_with fail
    go_ret2
    exact ⟨none, 0, 0, [], by rw [HF.out]; rfl, Blobs.nil, Nat.le_refl _, by decide, by rw [HF.out]; rfl, (hW1.at_ 2 rfl : _ ∧ _).1⟩
  | true =>
  have HVA := Lib.hid hva
  clear hva
  have hv2 := refValid_any w1 B Ab nb cb lb (hW1.at_ 1 rfl : Blobs w1 B Ab nb lb ∧ _).1 hnb (hW1.at_ 1 rfl : _ ∧ B ≤ w1.heap.size).2 HBB.out
  go_wp2_with fail
  refine hv2.mono ?_
  clear hv2
  rintro e w2 ⟨rfl, hb2⟩
  have hW2 := hW1.call hb2
  clear hb2 hW1
  cases hvb : validB lb with
  | false =>
    have HF := Lib.hid (merge3_bad (la := la) (lb := lb) (by rw [hvb, HVA.out]; rfl))
    clear hvb
    go_wp2_with fail
    go_ret2
    exact ⟨none, 0, 0, [], by rw [HF.out]; rfl, Blobs.nil, Nat.le_refl _, by decide, by rw [HF.out]; rfl, (hW2.at_ 2 rfl : _ ∧ _).1⟩
  | true =>
  have HVB := Lib.hid hvb
  clear hvb
  have hla := (hW2.at_ 0 rfl : Blobs w2 B Aa na la ∧ B ≤ w2.heap.size)
  have hla2 : B ≤ w2.heap.size := hla.2
  have hww2 : w.heap.size ≤ w2.heap.size := (hW2.at_ 2 rfl : Below w.heap.size w w2 ∧ w.heap.size ≤ w2.heap.size).2
  have h256 : na ≤ 256 := by have h1 := validB_len HVA.out; have h2 := HNA.out; omega
  have hn256 : nb ≤ 256 := by have h1 := validB_len HVB.out; have h2 := HNB.out; omega
  have hfl : ∀ u ∈ (la.map blC).flatten, u.oneCell' = true := fun v hv => by
    obtain ⟨q, hq, hv⟩ := List.mem_flatten.1 hv
    obtain ⟨y, _, rfl⟩ := List.mem_map.1 hq
    exact blC_one y v hv
  have hown : All (w2.alloc (.cells #[] 52)) [.own w2.heap.size 52 33 (some ⟨w2.heap.size, 0, none⟩) 0 0 [], .low (.blobs B Aa na la), .low (.blobs B Ab nb lb), .kept w w.heap.size] := ⟨Go.Adm.Own.lit w2 #[] 0 (Nat.le_refl _) (by decide) rfl, hW2.alloc _⟩
  go_wp2_with (at_builtin; refine wl_app_at el_bl hown 0 rfl (.tmp 18) (.tmp 19) rfl w2.heap.size _ _ _ _ rfl rfl B _ na ca (la.map blC).flatten rfl (hla.1.els.rd.alloc hla.2 _) hfl (by omega) (by simp) (fun q hq _ => ⟨by simp [Res.apart, Low.blobs]; omega, by simp [Res.apart, Low.blobs]; omega, by simp [Res.apart]; omega, trivial⟩) ?_; intro A3 c3 w3 hW3 hs3; simp only [List.set_cons_zero, Nat.zero_add, List.nil_append] at hW3)
  have hO3 : Go.Adm.Own w3 w2.heap.size 52 33 A3 na c3 (la.map blC).flatten := hW3.at_ 0 rfl
  have hbl3 : Blobs w3 w3.heap.size A3 na la := by
    have h1 := (hW3.at_ 1 rfl : Blobs w3 B Aa na la ∧ B ≤ w3.heap.size)
    exact ⟨⟨hO3.rd, h1.1.els.each, h1.1.els.len⟩, fun x hx => (h1.1.each x hx).mono h1.2, h1.1.len⟩
  have hK3 : All w3 [.low (.blobs w3.heap.size A3 na la), .low (.blobs B Aa na la), .low (.blobs B Ab nb lb), .kept w w.heap.size] := ⟨⟨hbl3, Nat.le_refl _⟩, hW3.2⟩
  have hc3 := hO3.cap
  have HAA : Hid (Asc ((la.map pr).map Prod.fst)) := Lib.hid (valid_asc HVA.out)
  have HAB : Hid (Asc ((lb.map pr).map Prod.fst)) := Lib.hid (valid_asc HVB.out)
  clear hla hown hO3 hbl3 hW3 hW2 hfl
  generalize w3.heap.size = B3 at hK3
  clear hs3
  go_wp2_with fail
  go_loopw [6, 7] (fun o i wr => ∃ (k Bo no co : Nat) (Ao : Option Addr) (lo : List Bl), k ≤ nb ∧ i = .int .i64 k ∧ o = .slice Ao no co ∧ no ≤ 512 ∧ Hid (no ≤ co ∧ co ≤ maxLen ∧ lo.map pr = mrgP (la.map pr) ((lb.map pr).take k) ∧ misP (la.map pr) ((lb.map pr).take k) = false) ∧ All wr [.low (.blobs Bo Ao no lo), .low (.blobs B Aa na la), .low (.blobs B Ab nb lb), .kept w w.heap.size]) (fun _ i _ => nb - (intOf i).toNat)
  case atStart => exact ⟨0, B3, na, c3, A3, la, by omega, rfl, rfl, by omega, Lib.hid ⟨hc3.1, hc3.2, rfl, rfl⟩, hK3⟩
  case round =>
    clear hK3 hc3
    obtain ⟨k, Bo, no, co, Ao, lo, hk, rfl, rfl, hno, HI, hI⟩ := hrel
    by_cases hlt : k < nb
    · have hkl : k < lb.length := by rw [HNB.out]; exact hlt
      have hbl := (hI.at_ 2 rfl : Blobs wr B Ab nb lb ∧ B ≤ wr.heap.size)
      obtain ⟨ad, rfl, hadB, hc⟩ := Els.elem hbl.1.els hkl
      have HX : Hid (∀ W, All W [.low (.blobs Bo Ao no lo), .low (.blobs B Aa na la), .low (.blobs B (some ad) nb lb), .kept w w.heap.size] → ∀ q s, (blC lb[k])[q]? = some s → W.cell? ((ad.add (k * 33)).add q) = some s) := Lib.hid (fun W hW => by
        obtain ⟨ad', e, _, hc⟩ := Els.elem (hW.at_ 2 rfl : Blobs W B (some ad) nb lb ∧ B ≤ W.heap.size).1.els hkl
        obtain rfl := Option.some.inj e
        exact hc)
      have hx := Lib.hid (hbl.1.each _ (List.getElem_mem hkl)).d32
      have HXR : Hid (∀ W, All W [.low (.blobs Bo Ao no lo), .low (.blobs B Aa na la), .low (.blobs B (some ad) nb lb), .kept w w.heap.size] → Rd W B 1 lb[k].A lb[k].n (lb[k].b.map bv)) := Lib.hid (fun W hW => ((hW.at_ 2 rfl : Blobs W B (some ad) nb lb ∧ _).1.each _ (List.getElem_mem hkl)).rd)
      have HBO5 : Hid (∀ W, All W [.low (.blobs Bo Ao no lo), .low (.blobs B Aa na la), .low (.blobs B (some ad) nb lb), .kept w w.heap.size] → BlOk W W.heap.size lb[k]) := Lib.hid (fun W hW => ((hW.at_ 2 rfl : Blobs W B (some ad) nb lb ∧ _).1.each _ (List.getElem_mem hkl)).mono (hW.at_ 2 rfl : _ ∧ B ≤ W.heap.size).2)
      have HTK : Hid ((lb.map pr).take (k + 1) = (lb.map pr).take k ++ [pr lb[k]]) := Lib.hid (by
        rw [List.take_succ_eq_append_getElem (by rw [List.length_map]; exact hkl), List.getElem_map])
      have HMB : Hid (pr lb[k] ∈ lb.map pr) := Lib.hid (List.mem_map_of_mem (List.getElem_mem hkl))
      have HFR : Hid (lookP (mrgP (la.map pr) ((lb.map pr).take k)) (pr lb[k]).1 = lookP (la.map pr) (pr lb[k]).1) := Lib.hid (lookP_far (by
        have := take_fresh HAB.out (k := k) (by rw [List.length_map]; exact hkl)
        rwa [List.getElem_map] at this))
      clear hc hbl
      generalize lb[k] = x at *
      have d1 : decide ((k : Int) < (nb : Int)) = true := by simp; omega
      have wk0 : (0 : Int) ≤ (k : Int) := by omega
      have wk1 : (k : Int) < (nb : Int) := by omega
      have wk2 : ((k : Int)).toNat = k := by omega
      have hge := refGet_any wr B Aa na ca la x.d (hI.at_ 1 rfl : Blobs wr B Aa na la ∧ _).1 hx.out hna (hI.at_ 1 rfl : _ ∧ B ≤ wr.heap.size).2
      go_wp2_with (refine wl_load_any rfl 31 (.tmp 32) rfl (ad.add (k * 33)) rfl (x.d.map bv) _ (fun q s hs => HX.out wr hI q s (by have := bl_sub0 x q s hs; rwa [Nat.zero_add] at this)) Try.underlying31 rfl (by rw [List.length_map, hx.out]; kernel_rfl) ?_)
      refine hge.mono ?_
      clear hge
      rintro e w2 ⟨rfl, hb2⟩
      have hW2 := hI.call hb2
      clear hb2 hI hadB
      cases hlk : lookB la x.d with
      | none =>
        have hla : lookP (la.map pr) x.d = none := by rw [lookP_pr, hlk]; rfl
        have HM : Hid (misP (la.map pr) ((lb.map pr).take (k + 1)) = false) := Lib.hid (by rw [HTK.out]; exact misP_none HI.out.2.2.2 hla)
        have hpu : mrgP (la.map pr) ((lb.map pr).take (k + 1)) = (lo.map pr).take (placeB lo x.d) ++ (x.d, x.b) :: (lo.map pr).drop (placeB lo x.d) := by
          have h1 := HFR.out
          rw [show (pr x).1 = x.d from rfl, hla] at h1
          rw [HTK.out, mrgP_snoc, show pr x = (x.d, x.b) from rfl, putP_new h1, ← HI.out.2.2.1, map_pr_fst, ← placeB_map]
        have HPU := Lib.hid hpu
        clear hla hpu hlk
        unfold got
        go_upto_region 8 with (fail)
        refine wp_region_hopsH 11 (37 :: 38 :: 39 :: 40 :: 41 :: 42 :: 43 :: 44 :: 45 :: 46 :: 47 :: []) [.low (.blobs Bo Ao no lo), .low (.blobs B Aa na la), .low (.blobs B (some ad) nb lb), .kept w w.heap.size]
          (.eq (.bool false) :: .eq (.bool false) :: .eq undef :: .eq undef :: .eq undef :: .eq undef :: .eq undef :: .eq undef :: .eq undef :: .eq undef :: .eq undef :: [])
          (by kernel_rfl) (by kernel_rfl) hW2 rfl ?hops ?fin
        case hops =>
          refine ⟨?_, ?_, ?_, ?_, ?_, ?_, ?_, ?_, ?_, ?_, ?_, trivial⟩
          · intro a W hW hb hd K hK
            have b9 := hb 9 rfl
            go_simp
            exact hK _ _ (World.grownBy.refl _ _) rfl
          · intro a W hW hb hd K hK
            have b37 : a.tmps[37]?.getD undef = _ := hd ⟨0, .data⟩ (by simp) rfl
            go_simp
            exact hK _ _ (World.grownBy.refl _ _) rfl
          · exact Or.inr ⟨fun v w h => by rw [show v = _ from h]; first | (intro h2; cases h2) | (simp [undef]), fun w => rfl⟩
          · exact Or.inr ⟨fun v w h => by rw [show v = _ from h]; first | (intro h2; cases h2) | (simp [undef]), fun w => rfl⟩
          · exact Or.inr ⟨fun v w h => by rw [show v = _ from h]; first | (intro h2; cases h2) | (simp [undef]), fun w => rfl⟩
          · exact Or.inr ⟨fun v w h => by rw [show v = _ from h]; first | (intro h2; cases h2) | (simp [undef]), fun w => rfl⟩
          · exact Or.inr ⟨fun v w h => by rw [show v = _ from h]; first | (intro h2; cases h2) | (simp [undef]), fun w => rfl⟩
          · exact Or.inr ⟨fun v w h => by rw [show v = _ from h]; first | (intro h2; cases h2) | (simp [undef]), fun w => rfl⟩
          · exact Or.inr ⟨fun v w h => by rw [show v = _ from h]; first | (intro h2; cases h2) | (simp [undef]), fun w => rfl⟩
          · exact Or.inr ⟨fun v w h => by rw [show v = _ from h]; first | (intro h2; cases h2) | (simp [undef]), fun w => rfl⟩
          · exact Or.inr ⟨fun v w h => by rw [show v = _ from h]; first | (intro h2; cases h2) | (simp [undef]), fun w => rfl⟩
        case fin =>
          intro vs V hV hv
          have e1 : vs 1 = _ := hv 1 (by decide)
          clear hv hW2
          simp only [putAll, List.drop_succ_cons, List.drop_zero, e1, Act.put, List.setIfInBounds_toArray, List.set_cons_succ, List.set_cons_zero]
          clear e1
          have hbo := (hV.at_ 0 rfl : Blobs V Bo Ao no lo ∧ Bo ≤ V.heap.size)
          have hins := insert_any V Bo Ao no co lo x hbo.1 hx.out (by omega) HI.out.1 hbo.2
          have hplc : placeB lo x.d ≤ no := by have := placeB_le lo x.d; rw [hbo.1.len] at this; exact this
          clear hbo
          go_wp2_with (refine wl_load_any rfl 52 (.tmp 54) rfl (ad.add (k * 33)) rfl (blC x) _ (HX.out V hV) Try.underlying52 rfl (by rw [blC_len hx.out]; kernel_rfl) ?_)
          refine hins.mono ?_
          clear hins
          rintro e w5 ⟨A5, c5, rfl, ho5, hb5⟩
          have hW5 := hV.call hb5
          have hbo5 := (hW5.at_ 0 rfl : Blobs w5 Bo Ao no lo ∧ Bo ≤ w5.heap.size)
          have hbl5 := blobs_ins (B := w5.heap.size) (l := lo) (x := x) (i := placeB lo x.d) (Nat.le_refl _) (hbo5.1.mono hbo5.2) (HBO5.out w5 hW5) hplc ho5
          have hK5 : All w5 [.low (.blobs w5.heap.size A5 (no + 1) (lo.take (placeB lo x.d) ++ x :: lo.drop (placeB lo x.d))), .low (.blobs B Aa na la), .low (.blobs B (some ad) nb lb), .kept w w.heap.size] := ⟨⟨hbl5, Nat.le_refl _⟩, hW5.2⟩
          have HI5 : Hid (no + 1 ≤ c5 ∧ c5 ≤ maxLen ∧ (lo.take (placeB lo x.d) ++ x :: lo.drop (placeB lo x.d)).map pr = mrgP (la.map pr) ((lb.map pr).take (k + 1)) ∧ misP (la.map pr) ((lb.map pr).take (k + 1)) = false) := Lib.hid ⟨ho5.cap.1, ho5.cap.2, by rw [HPU.out, List.map_append, List.map_cons, List.map_take, List.map_drop]; rfl, HM.out⟩
          have hno5 : no + 1 ≤ 512 := by
            have h1 := congrArg List.length HI5.out.2.2.1
            rw [List.length_map, hbl5.len] at h1
            have h2 := mrgP_len (Pa := la.map pr) (Pb := (lb.map pr).take (k + 1))
            rw [List.length_map, List.length_take, List.length_map] at h2
            have h3 := validB_len HVA.out
            have h4 := validB_len HVB.out
            omega
          clear hbo5 hbl5 hW5 hV ho5 hb5 hplc
          generalize lo.take (placeB lo x.d) ++ x :: lo.drop (placeB lo x.d) = l5 at *
          generalize w5.heap.size = B5 at hK5
          go_wp2_with fail
          exact ⟨⟨k + 1, B5, no + 1, c5, A5, l5, by omega, by go_num, rfl, hno5, HI5, hK5⟩, by simp [intOf]; omega⟩
      | some y =>
        have hla : lookP (la.map pr) x.d = some y.b := by rw [lookP_pr, hlk]; rfl
        have hym := lookB_mem hlk
        have HYR : Hid (∀ W, All W [.low (.blobs Bo Ao no lo), .low (.blobs B Aa na la), .low (.blobs B (some ad) nb lb), .kept w w.heap.size] → Rd W B 1 y.A y.n (y.b.map bv)) := Lib.hid (fun W hW => ((hW.at_ 1 rfl : Blobs W B Aa na la ∧ _).1.each _ hym).rd)
        have HM1 : Hid (y.b = x.b → misP (la.map pr) ((lb.map pr).take (k + 1)) = false) := Lib.hid (fun h => by rw [HTK.out]; exact misP_same HI.out.2.2.2 (by rw [hla, h]))
        have HM2 : Hid (y.b ≠ x.b → misP (la.map pr) (lb.map pr) = true) := Lib.hid (fun h => misP_at HMB.out hla h)
        have hpu : mrgP (la.map pr) ((lb.map pr).take (k + 1)) = mrgP (la.map pr) ((lb.map pr).take k) := by
          have h1 := HFR.out
          rw [show (pr x).1 = x.d from rfl, hla] at h1
          rw [HTK.out, mrgP_snoc, show pr x = (x.d, x.b) from rfl, putP_had h1]
        have HPU := Lib.hid hpu
        obtain ⟨sx, hsx⟩ : ∃ s : ByteArray, s = ⟨x.b.toArray⟩ := ⟨_, rfl⟩
        obtain ⟨sy, hsy⟩ : ∃ s : ByteArray, s = ⟨y.b.toArray⟩ := ⟨_, rfl⟩
        have HSX := Lib.hid hsx
        have HSY := Lib.hid hsy
        have hbe : ∀ v : Bool, decide (y.b = x.b) = v → ((sy.data.toList == sx.data.toList) = v) ∧ ((sy.toList == sx.toList) = v) := fun v h => by
          rw [hsx, hsy, ByteArray.toList_eq, ByteArray.toList_eq]
          by_cases e : y.b = x.b
          · rw [decide_eq_true e] at h; subst h; simp [e]
          · rw [decide_eq_false e] at h; subst h; simp [e]
        have HBE := Lib.hid hbe
        clear hla hpu hlk hym hsx hsy hbe
        unfold got
        by_cases hyx : y.b = x.b
        · have HM := Lib.hid (HM1.out hyx)
          have HNE := Lib.hid (HBE.out true (decide_eq_true hyx))
          clear hyx HBE HM1 HM2
          go_upto_region 8 with (fail)
          refine wp_region_hopsH 11 (37 :: 38 :: 39 :: 40 :: 41 :: 42 :: 43 :: 44 :: 45 :: 46 :: 47 :: []) [.low (.blobs Bo Ao no lo), .low (.blobs B Aa na la), .low (.blobs B (some ad) nb lb), .kept w w.heap.size]
            (.eq (.bool true) :: .eq (.bool true) :: .eq (.slice y.A y.n y.c) :: .eq (.string sy) :: .eq (.slice (some ad) nb cb) :: .eq (.int .i64 k) :: .eq (.pointer (some (ad.add (k * 33)))) :: .eq (.pointer (some ⟨(ad.add (k * 33)).block, (ad.add (k * 33)).off + 32, none⟩)) :: .eq (.slice x.A x.n x.c) :: .eq (.string sx) :: .eq (.bool false) :: [])
            (by kernel_rfl) (by kernel_rfl) hW2 rfl ?hops ?fin
          case hops =>
            refine ⟨?_, ?_, ?_, ?_, ?_, ?_, ?_, ?_, ?_, ?_, ?_, trivial⟩
            · intro a W hW hb hd K hK
              have b9 := hb 9 rfl
              go_simp
              exact hK _ _ (World.grownBy.refl _ _) rfl
            · intro a W hW hb hd K hK
              have b37 : a.tmps[37]?.getD undef = _ := hd ⟨0, .data⟩ (by simp) rfl
              go_simp
              exact hK _ _ (World.grownBy.refl _ _) rfl
            · refine Or.inl ⟨fun v w h => h, ?_⟩
              intro a W hW hb hd K hK
              have b8 := hb 8 rfl
              go_simp
              exact hK _ _ (World.grownBy.refl _ _) rfl
            · refine Or.inl ⟨fun v w h => h, ?_⟩
              intro a W hW hb hd K hK
              have b39 : a.tmps[39]?.getD undef = _ := hd ⟨2, .data⟩ (by simp) rfl
              have q1 : (convert 23 9 (.slice y.A y.n y.c)).run Try.prog W = .ok (.string sy) W := by rw [HSY.out]; exact conv_b (HYR.out W hW)
              go_simp
              exact hK _ _ (World.grownBy.refl _ _) rfl
            · refine Or.inl ⟨fun v w h => h, ?_⟩
              intro a W hW hb hd K hK
              have b1 := hb 1 rfl
              go_simp
              exact hK _ _ (World.grownBy.refl _ _) rfl
            · refine Or.inl ⟨fun v w h => h, ?_⟩
              intro a W hW hb hd K hK
              have b7 := hb 7 rfl
              go_simp
              exact hK _ _ (World.grownBy.refl _ _) rfl
            · refine Or.inl ⟨fun v w h => h, ?_⟩
              intro a W hW hb hd K hK
              have b41 : a.tmps[41]?.getD undef = _ := hd ⟨4, .data⟩ (by simp) rfl
              have b42 : a.tmps[42]?.getD undef = _ := hd ⟨5, .data⟩ (by simp) rfl
              go_simp
              exact hK _ _ (World.grownBy.refl _ _) rfl
            · refine Or.inl ⟨fun v w h => h, ?_⟩
              intro a W hW hb hd K hK
              have b43 : a.tmps[43]?.getD undef = _ := hd ⟨6, .data⟩ (by simp) rfl
              go_simp
              exact hK _ _ (World.grownBy.refl _ _) rfl
            · refine Or.inl ⟨fun v w h => h, ?_⟩
              intro a W hW hb hd K hK
              have b44 : a.tmps[44]?.getD undef = _ := hd ⟨7, .data⟩ (by simp) rfl
              have q1 : W.cell? ⟨(ad.add (k * 33)).block, (ad.add (k * 33)).off + 32, none⟩ = some (.slice x.A x.n x.c) := HX.out W hW 32 _ (bl_last hx.out)
              go_simp
              exact hK _ _ (World.grownBy.refl _ _) rfl
            · refine Or.inl ⟨fun v w h => h, ?_⟩
              intro a W hW hb hd K hK
              have b45 : a.tmps[45]?.getD undef = _ := hd ⟨8, .data⟩ (by simp) rfl
              have q1 : (convert 23 9 (.slice x.A x.n x.c)).run Try.prog W = .ok (.string sx) W := by rw [HSX.out]; exact conv_b (HXR.out W hW)
              go_simp
              exact hK _ _ (World.grownBy.refl _ _) rfl
            · refine Or.inl ⟨fun v w h => h, ?_⟩
              intro a W hW hb hd K hK
              have b40 : a.tmps[40]?.getD undef = _ := hd ⟨3, .data⟩ (by simp) rfl
              have b46 : a.tmps[46]?.getD undef = _ := hd ⟨9, .data⟩ (by simp) rfl
              have q1 := HNE.out.1
              have q2 := HNE.out.2
              go_simp
              exact hK _ _ (World.grownBy.refl _ _) rfl
          case fin =>
            intro vs V hV hv
            have e1 : vs 1 = _ := hv 1 (by decide)
            have e10 : vs 10 = _ := hv 10 (by decide)
            clear hv hW2
            simp only [putAll, List.drop_succ_cons, List.drop_zero, e1, e10, Act.put, List.setIfInBounds_toArray, List.set_cons_succ, List.set_cons_zero]
            clear e1 e10
            have HI5 : Hid (no ≤ co ∧ co ≤ maxLen ∧ lo.map pr = mrgP (la.map pr) ((lb.map pr).take (k + 1)) ∧ misP (la.map pr) ((lb.map pr).take (k + 1)) = false) := Lib.hid ⟨HI.out.1, HI.out.2.1, by rw [HPU.out]; exact HI.out.2.2.1, HM.out⟩
            go_wp2_with fail
            exact ⟨⟨k + 1, Bo, no, co, Ao, lo, by omega, by go_num, rfl, hno, HI5, hV⟩, by simp [intOf]; omega⟩
        · have HF := Lib.hid (merge3_mis HVA.out HVB.out (HM2.out hyx))
          have HNE := Lib.hid (HBE.out false (decide_eq_false hyx))
          clear hyx HBE HM1 HM2
          go_upto_region 8 with (fail)
          refine wp_region_hopsH 11 (37 :: 38 :: 39 :: 40 :: 41 :: 42 :: 43 :: 44 :: 45 :: 46 :: 47 :: []) [.low (.blobs Bo Ao no lo), .low (.blobs B Aa na la), .low (.blobs B (some ad) nb lb), .kept w w.heap.size]
            (.eq (.bool true) :: .eq (.bool true) :: .eq (.slice y.A y.n y.c) :: .eq (.string sy) :: .eq (.slice (some ad) nb cb) :: .eq (.int .i64 k) :: .eq (.pointer (some (ad.add (k * 33)))) :: .eq (.pointer (some ⟨(ad.add (k * 33)).block, (ad.add (k * 33)).off + 32, none⟩)) :: .eq (.slice x.A x.n x.c) :: .eq (.string sx) :: .eq (.bool true) :: [])
            (by kernel_rfl) (by kernel_rfl) hW2 rfl ?hops ?fin
          case hops =>
            refine ⟨?_, ?_, ?_, ?_, ?_, ?_, ?_, ?_, ?_, ?_, ?_, trivial⟩
            · intro a W hW hb hd K hK
              have b9 := hb 9 rfl
              go_simp
              exact hK _ _ (World.grownBy.refl _ _) rfl
            · intro a W hW hb hd K hK
              have b37 : a.tmps[37]?.getD undef = _ := hd ⟨0, .data⟩ (by simp) rfl
              go_simp
              exact hK _ _ (World.grownBy.refl _ _) rfl
            · refine Or.inl ⟨fun v w h => h, ?_⟩
              intro a W hW hb hd K hK
              have b8 := hb 8 rfl
              go_simp
              exact hK _ _ (World.grownBy.refl _ _) rfl
            · refine Or.inl ⟨fun v w h => h, ?_⟩
              intro a W hW hb hd K hK
              have b39 : a.tmps[39]?.getD undef = _ := hd ⟨2, .data⟩ (by simp) rfl
              have q1 : (convert 23 9 (.slice y.A y.n y.c)).run Try.prog W = .ok (.string sy) W := by rw [HSY.out]; exact conv_b (HYR.out W hW)
              go_simp
              exact hK _ _ (World.grownBy.refl _ _) rfl
            · refine Or.inl ⟨fun v w h => h, ?_⟩
              intro a W hW hb hd K hK
              have b1 := hb 1 rfl
              go_simp
              exact hK _ _ (World.grownBy.refl _ _) rfl
            · refine Or.inl ⟨fun v w h => h, ?_⟩
              intro a W hW hb hd K hK
              have b7 := hb 7 rfl
              go_simp
              exact hK _ _ (World.grownBy.refl _ _) rfl
            · refine Or.inl ⟨fun v w h => h, ?_⟩
              intro a W hW hb hd K hK
              have b41 : a.tmps[41]?.getD undef = _ := hd ⟨4, .data⟩ (by simp) rfl
              have b42 : a.tmps[42]?.getD undef = _ := hd ⟨5, .data⟩ (by simp) rfl
              go_simp
              exact hK _ _ (World.grownBy.refl _ _) rfl
            · refine Or.inl ⟨fun v w h => h, ?_⟩
              intro a W hW hb hd K hK
              have b43 : a.tmps[43]?.getD undef = _ := hd ⟨6, .data⟩ (by simp) rfl
              go_simp
              exact hK _ _ (World.grownBy.refl _ _) rfl
            · refine Or.inl ⟨fun v w h => h, ?_⟩
              intro a W hW hb hd K hK
              have b44 : a.tmps[44]?.getD undef = _ := hd ⟨7, .data⟩ (by simp) rfl
              have q1 : W.cell? ⟨(ad.add (k * 33)).block, (ad.add (k * 33)).off + 32, none⟩ = some (.slice x.A x.n x.c) := HX.out W hW 32 _ (bl_last hx.out)
              go_simp
              exact hK _ _ (World.grownBy.refl _ _) rfl
            · refine Or.inl ⟨fun v w h => h, ?_⟩
              intro a W hW hb hd K hK
              have b45 : a.tmps[45]?.getD undef = _ := hd ⟨8, .data⟩ (by simp) rfl
              have q1 : (convert 23 9 (.slice x.A x.n x.c)).run Try.prog W = .ok (.string sx) W := by rw [HSX.out]; exact conv_b (HXR.out W hW)
              go_simp
              exact hK _ _ (World.grownBy.refl _ _) rfl
            · refine Or.inl ⟨fun v w h => h, ?_⟩
              intro a W hW hb hd K hK
              have b40 : a.tmps[40]?.getD undef = _ := hd ⟨3, .data⟩ (by simp) rfl
              have b46 : a.tmps[46]?.getD undef = _ := hd ⟨9, .data⟩ (by simp) rfl
              have q1 := HNE.out.1
              have q2 := HNE.out.2
              go_simp
              exact hK _ _ (World.grownBy.refl _ _) rfl
          case fin =>
            intro vs V hV hv
            have e1 : vs 1 = _ := hv 1 (by decide)
            have e10 : vs 10 = _ := hv 10 (by decide)
            clear hv hW2
            simp only [putAll, List.drop_succ_cons, List.drop_zero, e1, e10, Act.put, List.setIfInBounds_toArray, List.set_cons_succ, List.set_cons_zero]
            clear e1 e10
            go_wp2_with fail
            go_ret2
            exact ⟨none, 0, 0, [], by rw [HF.out]; rfl, Blobs.nil, Nat.le_refl _, by decide, by rw [HF.out]; rfl, (hV.at_ 3 rfl : _ ∧ _).1⟩
    · obtain rfl : k = nb := by omega
      have d1 : decide ((k : Int) < (k : Int)) = false := by simp
      have htk : (lb.map pr).take k = lb.map pr := List.take_of_length_le (by rw [List.length_map, HNB.out]; exact Nat.le_refl _)
      have hbo := (hI.at_ 0 rfl : Blobs wr Bo Ao no lo ∧ Bo ≤ wr.heap.size)
      have HJ : Hid (lo.map pr = mrgP (la.map pr) (lb.map pr) ∧ misP (la.map pr) (lb.map pr) = false ∧ no = (mrgP (la.map pr) (lb.map pr)).length) := Lib.hid (by
        have h1 := HI.out.2.2.1
        have h2 := HI.out.2.2.2
        rw [htk] at h1 h2
        exact ⟨h1, h2, by rw [← h1, List.length_map]; exact hbo.1.len.symm⟩)
      have HB := Lib.hid (hbo.1.mono hbo.2)
      clear htk hlt hbo
      by_cases hmany : 256 < no
      · have HF := Lib.hid (merge3_many HVA.out HVB.out HJ.out.2.1 (by rw [← HJ.out.2.2]; exact hmany))
        have d2 : decide (256 < (no : Int)) = true := by simp; omega
        have d3 : decide (256 < no) = true := by simp; omega
        clear hmany
        go_wp2_with fail
        go_ret2
        exact ⟨none, 0, 0, [], by rw [HF.out]; rfl, Blobs.nil, Nat.le_refl _, by decide, by rw [HF.out]; rfl, (hI.at_ 3 rfl : _ ∧ _).1⟩
      · have HF := Lib.hid (merge3_ok HVA.out HVB.out HJ.out.2.1 (by rw [← HJ.out.2.2]; exact hmany))
        have d2 : decide (256 < (no : Int)) = false := by simp; omega
        have d3 : decide (256 < no) = false := by simp; omega
        clear hmany
        go_wp2_with fail
        go_ret2
        exact ⟨Ao, no, co, lo, by rw [HF.out]; rfl, HB.out, HI.out.1, HI.out.2.1, by rw [HF.out]; exact HJ.out.1, (hI.at_ 3 rfl : _ ∧ _).1⟩
end Go.Proofs.Ytahfhlpolhibdaa

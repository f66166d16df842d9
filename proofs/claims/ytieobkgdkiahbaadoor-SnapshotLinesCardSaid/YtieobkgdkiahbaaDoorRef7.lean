/- Apply of the reference. -/
import Derived.Test.YtieobkgdkiahbaaDoorRef5
set_option linter.unusedSimpArgs false
set_option linter.unusedVariables false
set_option maxRecDepth 100000
namespace Go.Proofs.YtieobkgdkiahbaaDoor
open Go Go.RowKit Go.Adm

set_option maxHeartbeats 6400000 in
theorem refApply_any (w : World) (m : Int) (hm : w.cell? ⟨0, 0, none⟩ = some (.int .i64 m)) (B : Nat) (A1 A2 : Option Addr) (n1 c1 n2 c2 : Nat) (s : List E) (l : List C) (h1 : Els w B 33 A1 n1 (s.map entC)) (h2 : Els w B 65 A2 n2 (l.map chgC)) (h321 : ∀ e ∈ s, E32 e) (h322 : ∀ e ∈ l, C32 e) (e1 : s.length = n1) (e2 : l.length = n2) (hns : n1 ≤ 400000) (hnl : n2 ≤ 400000) (hB : B ≤ w.heap.size) :
    Calls Tryd.prog 13 #[.slice A1 n1 c1, .slice A2 n2 c2] w (ResPost entC 33 (rApp s l).1 (rApp s l).2 72 w) := by
  have hR : All w [.low (.els B 33 A1 n1 (s.map entC)), .low (.els B 65 A2 n2 (l.map chgC)), .kept w w.heap.size] := ⟨⟨h1, hB⟩, ⟨h2, hB⟩, ⟨Below.refl _ _, Nat.le_refl _⟩, trivial⟩
  have HNs := Lib.hid e1
  have HNl := Lib.hid e2
  have H32s := Lib.hid h321
  have H32l := Lib.hid h322
  clear h1 h2 h321 h322 e1 e2
  replace hns : n1 ≤ 1000000 ∧ n1 ≤ 400000 := ⟨by omega, hns⟩
  replace hnl : n2 ≤ 1000000 ∧ n2 ≤ 400000 := ⟨by omega, hnl⟩
  obtain ⟨hns, hms⟩ := hns
  obtain ⟨hnl, hml⟩ := hnl
  have hcV := refValid_any w m (glob_keep hm (hR.at_ 2 rfl).1) B A1 n1 c1 s (hR.at_ 0 rfl : Els w B 33 A1 n1 (s.map entC) ∧ B ≤ w.heap.size).1 H32s.out HNs.out hns (hR.at_ 0 rfl : Els w B 33 A1 n1 (s.map entC) ∧ B ≤ w.heap.size).2
  cases hva : validB s with
  | false =>
    have HF : Hid (rApp s l = ([], 1)) := Lib.hid (by unfold rApp; rw [hva]; rfl)
    rw [hva] at hcV
    clear hva
    go_enter Tryd.func13, Tryd.ntmps13
    go_wp2_with (first | (refine hcV.mono ?_; clear hcV; rintro e w1 ⟨rfl, hb1⟩; have hR1 := hR.call hb1))
    go_ret2
    rw [HF.out]
    exact ResPost.nil rfl (hR1.at_ 2 rfl).1
  | true =>
  rw [hva] at hcV
  cases hvb : changesB l with
  | false =>
    have HF : Hid (rApp s l = ([], 1)) := Lib.hid (by unfold rApp; rw [hva, hvb]; rfl)
    have HVb := Lib.hid hvb
    clear hva hvb
    go_enter Tryd.func13, Tryd.ntmps13
    go_wp2_with (first | (refine hcV.mono ?_; clear hcV; rintro e w1 ⟨rfl, hb1⟩; have hR1 := hR.call hb1; have hcW := refChanges_any w1 m (glob_keep hm (hR1.at_ 2 rfl).1) B A2 n2 c2 l (hR1.at_ 1 rfl : Els w1 B 65 A2 n2 (l.map chgC) ∧ B ≤ w1.heap.size).1 H32l.out HNl.out hnl (hR1.at_ 1 rfl : Els w1 B 65 A2 n2 (l.map chgC) ∧ B ≤ w1.heap.size).2; rw [HVb.out] at hcW) | (refine hcW.mono ?_; clear hcW; rintro e wv ⟨rfl, hbv⟩; have hRv := hR1.call hbv))
    go_ret2
    rw [HF.out]
    exact ResPost.nil rfl (hRv.at_ 2 rfl).1
  | true =>
  have HVb := Lib.hid hvb
  have HVV : Hid ((validB s && changesB l) = true) := Lib.hid (by rw [hva, hvb]; rfl)
  clear hva hvb
  go_enter Tryd.func13, Tryd.ntmps13
  go_wp2_with (first | (refine hcV.mono ?_; clear hcV; rintro e w1 ⟨rfl, hb1⟩; have hR1 := hR.call hb1; have hcW := refChanges_any w1 m (glob_keep hm (hR1.at_ 2 rfl).1) B A2 n2 c2 l (hR1.at_ 1 rfl : Els w1 B 65 A2 n2 (l.map chgC) ∧ B ≤ w1.heap.size).1 H32l.out HNl.out hnl (hR1.at_ 1 rfl : Els w1 B 65 A2 n2 (l.map chgC) ∧ B ≤ w1.heap.size).2; rw [HVb.out] at hcW) | (refine hcW.mono ?_; clear hcW; rintro e wv ⟨rfl, hbv⟩; have hRv := hR1.call hbv))
  clear hR hR1 hb1 hbv HVb
  have hsv : w.heap.size ≤ wv.heap.size := hRv.size_kept 2 rfl
  go_loopw [6] (fun i wr => ∃ (k : Nat), k ≤ n2 ∧ i = .int .i64 k ∧ (∀ j (hj : j < l.length), j < k → lookZ z32 s l[j].p = l[j].o) ∧ w.heap.size ≤ wr.heap.size ∧ All wr [.low (.els B 33 A1 n1 (s.map entC)), .low (.els B 65 A2 n2 (l.map chgC)), .kept w w.heap.size]) (fun i _ => n2 - (intOf i).toNat)
  case atStart => exact ⟨0, by omega, rfl, fun _ _ h => absurd h (by omega), hsv, hRv⟩
  case round =>
    obtain ⟨k, hk, rfl, hall, hsr, hI⟩ := hrel
    have HALL := Lib.hid hall
    clear hall hRv hsv
    by_cases hlt : k < n2
    · have hkl : k < l.length := by rw [HNl.out]; exact hlt
      obtain ⟨ad, rfl, -, -⟩ := Els.elem (hI.at_ 1 rfl : Els wr B 65 A2 n2 (l.map chgC) ∧ B ≤ wr.heap.size).1 hkl
      have HX0 : Hid (∀ (g : Nat) (cs : List Value) (T : TypeId) W, All W (.cells g T cs :: [.low (.els B 33 A1 n1 (s.map entC)), .low (.els B 65 (some ad) n2 (l.map chgC)), .kept w w.heap.size]) → (∀ q s0, (chgC l[k])[q]? = some s0 → W.cell? ((ad.add (k * 65)).add q) = some s0) ∧ True) := Lib.hid (fun g cs T W hW => by
        obtain ⟨ad', e, _, hc⟩ := Els.elem (hW.at_ 2 rfl : Els W B 65 (some ad) n2 (l.map chgC) ∧ B ≤ W.heap.size).1 hkl
        obtain rfl := Option.some.inj e
        exact ⟨hc, trivial⟩)
      have hx := Lib.hid (H32l.out _ (List.getElem_mem hkl))
      have HT : Hid (l.take (k + 1) = l.take k ++ [l[k]]) := Lib.hid (List.take_succ_eq_append_getElem hkl)
      have HNO : Hid (lookZ z32 s l[k].p ≠ l[k].o → l.all (fun c => decide (lookZ z32 s c.p = c.o)) = false) := Lib.hid (fun h => by rw [List.all_eq_false]; exact ⟨_, List.getElem_mem hkl, by simpa using h⟩)
      have HYES : Hid (lookZ z32 s l[k].p = l[k].o → ∀ j (hj : j < l.length), j < k + 1 → lookZ z32 s l[j].p = l[j].o) := Lib.hid (fun h j hj h2 => by
        rcases Nat.lt_succ_iff_lt_or_eq.1 h2 with h4 | h4
        · exact HALL.out j hj h4
        · subst h4; exact h)
      have HC0 : Hid (∀ q s0, (chgC l[k])[q]? = some s0 → wr.cell? ((ad.add (k * 65)).add q) = some s0) := Lib.hid (by
        obtain ⟨ad', e, _, hc⟩ := Els.elem (hI.at_ 1 rfl : Els wr B 65 (some ad) n2 (l.map chgC) ∧ B ≤ wr.heap.size).1 hkl
        obtain rfl := Option.some.inj e
        exact hc)
      generalize l[k] = x at *
      have c0 : wr.cell? (ad.add (k * 65)) = some (.string x.p) := by have := HC0.out 0 (sv x.p) rfl; rwa [add_zero] at this
      have d1 : decide ((k : Int) < (n2 : Int)) = true := by simp; omega
      have wk0 : (0 : Int) ≤ (k : Int) := by omega
      have wk1 : (k : Int) < (n2 : Int) := by omega
      have wk2 : ((k : Int)).toNat = k := by omega
      have hcL := Lookup_any wr B A1 n1 c1 s x.p (hI.at_ 0 rfl : Els wr B 33 A1 n1 (s.map entC) ∧ B ≤ wr.heap.size).1 H32s.out HNs.out hns (hI.at_ 0 rfl : Els wr B 33 A1 n1 (s.map entC) ∧ B ≤ wr.heap.size).2
      have hdd := Lib.hid (lookZ_32 H32s.out x.p)
      obtain ⟨dd, hdv⟩ : ∃ dd, lookZ z32 s x.p = dd := ⟨_, rfl⟩
      obtain ⟨bb, hbv⟩ : ∃ bb, (lookR s x.p).isSome = bb := ⟨_, rfl⟩
      rw [hdv, hbv] at hcL
      rw [hdv] at hdd
      have HDV := Lib.hid hdv
      have HBV := Lib.hid hbv
      clear hdv hbv
      go_upto_region 7 with (first
        | (go_at_call 43; refine hcL.mono ?_; clear hcL; rintro e w2 ⟨rfl, hb2⟩; have hI2 := hI.call hb2; have hs2 : w.heap.size ≤ w2.heap.size := hI2.size_kept 2 rfl; obtain ⟨gx, hgx⟩ : ∃ gx, gx = w2.heap.size := ⟨_, rfl⟩)
        | (refine wl_store_at (hI2.new (l := z32.map bv) _ 58 hgx rfl) 0 rfl 58 (.tmp 7) (.tmp 36) rfl gx _ _ (dd.map bv) rfl (by rw [hgx]; rfl) rfl (by rw [List.length_map, hdd.out]; rfl) (by rw [List.length_map, hdd.out]; kernel_rfl) (bv_one _) ⟨fun g' e => by injection e with e; simp only [Low.els]; omega, fun g' e => by injection e with e; simp only [Low.els]; omega, fun g' e => by injection e with e; omega, trivial⟩ ?_; intro W3 hW3 hs3; simp only [List.set_cons_zero] at hW3))
      have HX : Hid (∀ W, All W [.cells gx 58 (dd.map bv), .low (.els B 33 A1 n1 (s.map entC)), .low (.els B 65 (some ad) n2 (l.map chgC)), .kept w w.heap.size] → (∀ q s0, (chgC x)[q]? = some s0 → W.cell? ((ad.add (k * 65)).add q) = some s0) ∧ True) := Lib.hid (fun W hW => HX0.out gx _ _ W hW)
      simp only [← hgx]
      clear hgx c0 hI hI2 hb2 HC0
      cases hq : decide (dd = x.o) with
      | true =>
        have HQ : Hid (Value.bool (!decide (dd = x.o)) = .bool false) := Lib.hid (by rw [hq]; rfl)
        have HA1 := Lib.hid (HYES.out (by rw [HDV.out]; exact of_decide_eq_true hq))
        clear hq
        refine wp_region_hops 6 [38, 39, 40, 41, 42, 43] [.cells gx 58 (dd.map bv), .low (.els B 33 A1 n1 (s.map entC)), .low (.els B 65 (some ad) n2 (l.map chgC)), .kept w w.heap.size]
          [.eq (.agg (dd.map bv).toArray), .eq (.slice (some ad) n2 c2), .eq (.int .i64 k), .eq (.pointer (some (ad.add (k * 65)))), .eq (.pointer (some ((ad.add (k * 65)).add 1))), .eq (.agg (x.o.map bv).toArray)]
          (by kernel_rfl) (by kernel_rfl) hW3 rfl ?hops ?fin
        case hops =>
          refine ⟨?_, ?_, ?_, ?_, ?_, ?_, trivial⟩
          · intro a W hW hb hd K hK
            have b7 := hb 7 rfl
            refine wp_load_any 58 (.tmp 7) rfl ⟨gx, 0, none⟩ (show a.eval (.tmp 7) = _ from by simp only [Act.eval, Array.getD_eq_getD_getElem?]; exact b7) (dd.map bv) _ (Cells.sub (hW.at_ 0 rfl) 0 (fun j u hu => by rw [Nat.zero_add]; exact hu)) Tryd.underlying58 rfl (by rw [List.length_map, hdd.out]; kernel_rfl) ?_
            exact hK _ _ (World.grownBy.refl _ _) rfl
          · intro a W hW hb hd K hK
            have b1 := hb 1 rfl
            go_simp
            exact hK _ _ (World.grownBy.refl _ _) rfl
          · intro a W hW hb hd K hK
            have b6 := hb 6 rfl
            go_simp
            exact hK _ _ (World.grownBy.refl _ _) rfl
          · intro a W hW hb hd K hK
            have b39 : a.tmps[39]?.getD undef = _ := hd ⟨1, .data⟩ (by simp) rfl
            have b40 : a.tmps[40]?.getD undef = _ := hd ⟨2, .data⟩ (by simp) rfl
            go_simp
            exact hK _ _ (World.grownBy.refl _ _) rfl
          · intro a W hW hb hd K hK
            have b41 : a.tmps[41]?.getD undef = _ := hd ⟨3, .data⟩ (by simp) rfl
            go_simp
            exact hK _ _ (World.grownBy.refl _ _) (by first | rfl | (rw [add_zero]; rfl) | (simp [add_zero]; rfl))
          · intro a W hW hb hd K hK
            have b42 : a.tmps[42]?.getD undef = _ := hd ⟨4, .data⟩ (by simp) rfl
            refine wp_load_any 58 (.tmp 42) rfl ((ad.add (k * 65)).add 1) (show a.eval (.tmp 42) = _ from by simp only [Act.eval, Array.getD_eq_getD_getElem?]; exact b42) (x.o.map bv) _ (fun q s hs => by rw [add_add]; exact (HX.out W hW).1 _ s (chg_sub1 hx.out q s hs)) Tryd.underlying58 rfl (by rw [List.length_map, hx.out.1]; kernel_rfl) ?_
            exact hK _ _ (World.grownBy.refl _ _) rfl
        case fin =>
          intro vs V hV hv
          have e0 : vs 0 = _ := hv 0 (by decide)
          have e5 : vs 5 = _ := hv 5 (by decide)
          clear hv
          simp only [putAll, List.drop_succ_cons, List.drop_zero, e0, e5, Act.put, List.setIfInBounds_toArray, List.set_cons_succ, List.set_cons_zero]
          clear e0 e5
          go_wp2_with (refine wl_neq (.tmp 38) (.tmp 43) rfl rfl (.bool false) ((ne_dg _ dd x.o (hdd.out) (hx.out.1)).trans (by rw [HQ.out])) (by go_simp) ?_)
          exact ⟨⟨k + 1, by omega, by go_num, HA1.out, hV.size_kept 3 rfl, hV.erase 0⟩, by simp [intOf]; omega⟩
      | false =>
        have HQ : Hid (Value.bool (!decide (dd = x.o)) = .bool true) := Lib.hid (by rw [hq]; rfl)
        have HFIN : Hid (rApp s l = ([], 9)) := Lib.hid (by unfold rApp refApp; rw [HVV.out, if_pos rfl, HNO.out (by rw [HDV.out]; exact of_decide_eq_false hq)]; rfl)
        clear hq
        refine wp_region_hops 6 [38, 39, 40, 41, 42, 43] [.cells gx 58 (dd.map bv), .low (.els B 33 A1 n1 (s.map entC)), .low (.els B 65 (some ad) n2 (l.map chgC)), .kept w w.heap.size]
          [.eq (.agg (dd.map bv).toArray), .eq (.slice (some ad) n2 c2), .eq (.int .i64 k), .eq (.pointer (some (ad.add (k * 65)))), .eq (.pointer (some ((ad.add (k * 65)).add 1))), .eq (.agg (x.o.map bv).toArray)]
          (by kernel_rfl) (by kernel_rfl) hW3 rfl ?hops ?fin
        case hops =>
          refine ⟨?_, ?_, ?_, ?_, ?_, ?_, trivial⟩
          · intro a W hW hb hd K hK
            have b7 := hb 7 rfl
            refine wp_load_any 58 (.tmp 7) rfl ⟨gx, 0, none⟩ (show a.eval (.tmp 7) = _ from by simp only [Act.eval, Array.getD_eq_getD_getElem?]; exact b7) (dd.map bv) _ (Cells.sub (hW.at_ 0 rfl) 0 (fun j u hu => by rw [Nat.zero_add]; exact hu)) Tryd.underlying58 rfl (by rw [List.length_map, hdd.out]; kernel_rfl) ?_
            exact hK _ _ (World.grownBy.refl _ _) rfl
          · intro a W hW hb hd K hK
            have b1 := hb 1 rfl
            go_simp
            exact hK _ _ (World.grownBy.refl _ _) rfl
          · intro a W hW hb hd K hK
            have b6 := hb 6 rfl
            go_simp
            exact hK _ _ (World.grownBy.refl _ _) rfl
          · intro a W hW hb hd K hK
            have b39 : a.tmps[39]?.getD undef = _ := hd ⟨1, .data⟩ (by simp) rfl
            have b40 : a.tmps[40]?.getD undef = _ := hd ⟨2, .data⟩ (by simp) rfl
            go_simp
            exact hK _ _ (World.grownBy.refl _ _) rfl
          · intro a W hW hb hd K hK
            have b41 : a.tmps[41]?.getD undef = _ := hd ⟨3, .data⟩ (by simp) rfl
            go_simp
            exact hK _ _ (World.grownBy.refl _ _) (by first | rfl | (rw [add_zero]; rfl) | (simp [add_zero]; rfl))
          · intro a W hW hb hd K hK
            have b42 : a.tmps[42]?.getD undef = _ := hd ⟨4, .data⟩ (by simp) rfl
            refine wp_load_any 58 (.tmp 42) rfl ((ad.add (k * 65)).add 1) (show a.eval (.tmp 42) = _ from by simp only [Act.eval, Array.getD_eq_getD_getElem?]; exact b42) (x.o.map bv) _ (fun q s hs => by rw [add_add]; exact (HX.out W hW).1 _ s (chg_sub1 hx.out q s hs)) Tryd.underlying58 rfl (by rw [List.length_map, hx.out.1]; kernel_rfl) ?_
            exact hK _ _ (World.grownBy.refl _ _) rfl
        case fin =>
          intro vs V hV hv
          have e0 : vs 0 = _ := hv 0 (by decide)
          have e5 : vs 5 = _ := hv 5 (by decide)
          clear hv
          simp only [putAll, List.drop_succ_cons, List.drop_zero, e0, e5, Act.put, List.setIfInBounds_toArray, List.set_cons_succ, List.set_cons_zero]
          clear e0 e5
          go_wp2_with (refine wl_neq (.tmp 38) (.tmp 43) rfl rfl (.bool true) ((ne_dg _ dd x.o (hdd.out) (hx.out.1)).trans (by rw [HQ.out])) (by go_simp) ?_)
          go_ret2
          rw [HFIN.out]
          exact ResPost.nil rfl (hV.at_ 3 rfl).1
    · have hkn : k = n2 := by omega
      have d1 : decide ((k : Int) < (n2 : Int)) = false := by simp; omega
      have HFA : Hid (l.all (fun c => decide (lookZ z32 s c.p = c.o)) = true) := Lib.hid (by
        rw [List.all_eq_true]
        intro x hx
        obtain ⟨j, hj, rfl⟩ := List.getElem_of_mem hx
        exact decide_eq_true (HALL.out j hj (by rw [HNl.out] at hj; omega)))
      go_wp2_with fail
      clear d1 hkn hk hlt HALL
      have hI0 : All wr [.own w.heap.size 72 33 none ([] : List E).length 0 (([] : List E).map entC).flatten, .low (.els B 33 A1 n1 (s.map entC)), .low (.els B 65 A2 n2 (l.map chgC)), .kept w w.heap.size] := ⟨Go.Adm.Own.nil _ _ _ _, hI⟩
      clear hI
      go_loopw [9, 10] (fun v i wr => ∃ (k : Nat) (A' : Option Addr) (c' : Nat) (out : List E), k ≤ n1 ∧ i = .int .i64 k ∧ v = .slice A' out.length c' ∧ (s.take k).filter (fun x => !(findR l x.p).isSome) = out ∧ out.length ≤ k ∧ (∀ e ∈ out, E32 e) ∧ w.heap.size ≤ wr.heap.size ∧ All wr [.own w.heap.size 72 33 A' out.length c' (out.map entC).flatten, .low (.els B 33 A1 n1 (s.map entC)), .low (.els B 65 A2 n2 (l.map chgC)), .kept w w.heap.size]) (fun _ i _ => n1 - (intOf i).toNat)
      case atStart => exact ⟨0, none, 0, [], by omega, rfl, rfl, rfl, Nat.le_refl _, fun _ h => (by cases h), hsr, hI0⟩
      case round =>
        clear hI0 hsr
        obtain ⟨k, A', c', out, hk, rfl, rfl, hout, hol, ho32, hsr, hI⟩ := hrel
        have HOUT := Lib.hid hout
        have HO32 := Lib.hid ho32
        clear hout ho32
        by_cases hlt : k < n1
        · have hkl : k < s.length := by rw [HNs.out]; exact hlt
          obtain ⟨ad, rfl, -, -⟩ := Els.elem (hI.at_ 1 rfl : Els wr B 33 A1 n1 (s.map entC) ∧ B ≤ wr.heap.size).1 hkl
          have HX0 : Hid (∀ (g : Nat) (cs : List Value) (T : TypeId) W, All W (.cells g T cs :: [.own w.heap.size 72 33 A' out.length c' (out.map entC).flatten, .low (.els B 33 (some ad) n1 (s.map entC)), .low (.els B 65 A2 n2 (l.map chgC)), .kept w w.heap.size]) → (∀ q s0, (entC s[k])[q]? = some s0 → W.cell? ((ad.add (k * 33)).add q) = some s0) ∧ True) := Lib.hid (fun g cs T W hW => by
            obtain ⟨ad', e, _, hc⟩ := Els.elem (hW.at_ 2 rfl : Els W B 33 (some ad) n1 (s.map entC) ∧ B ≤ W.heap.size).1 hkl
            obtain rfl := Option.some.inj e
            exact ⟨hc, trivial⟩)
          have hx := Lib.hid (H32s.out _ (List.getElem_mem hkl))
          have HT : Hid (s.take (k + 1) = s.take k ++ [s[k]]) := Lib.hid (List.take_succ_eq_append_getElem hkl)
          have HC0 : Hid (∀ q s0, (entC s[k])[q]? = some s0 → wr.cell? ((ad.add (k * 33)).add q) = some s0) := Lib.hid (by
            obtain ⟨ad', e, _, hc⟩ := Els.elem (hI.at_ 1 rfl : Els wr B 33 (some ad) n1 (s.map entC) ∧ B ≤ wr.heap.size).1 hkl
            obtain rfl := Option.some.inj e
            exact hc)
          generalize s[k] = x at *
          have c0 : wr.cell? (ad.add (k * 33)) = some (.string x.p) := by have := HC0.out 0 (sv x.p) rfl; rwa [add_zero] at this
          have d1 : decide ((k : Int) < (n1 : Int)) = true := by simp; omega
          have wk0 : (0 : Int) ≤ (k : Int) := by omega
          have wk1 : (k : Int) < (n1 : Int) := by omega
          have wk2 : ((k : Int)).toNat = k := by omega
          have hcL := find_any wr B A2 n2 c2 l x.p (hI.at_ 2 rfl : Els wr B 65 A2 n2 (l.map chgC) ∧ B ≤ wr.heap.size).1 H32l.out HNl.out hnl (hI.at_ 2 rfl : Els wr B 65 A2 n2 (l.map chgC) ∧ B ≤ wr.heap.size).2
          have hu := Lib.hid (findR_32 H32l.out x.p)
          obtain ⟨u, hdv⟩ : ∃ u, (findR l x.p).getD cZ = u := ⟨_, rfl⟩
          obtain ⟨bb, hbv⟩ : ∃ bb, (findR l x.p).isSome = bb := ⟨_, rfl⟩
          rw [hdv, hbv] at hcL
          rw [hdv] at hu
          have HDV := Lib.hid hdv
          have HBV := Lib.hid hbv
          clear hdv hbv
          cases hbb : bb with
          | true =>
            rw [hbb] at HBV hcL
            have HO1 : Hid ((s.take (k + 1)).filter (fun x => !(findR l x.p).isSome) = out) := Lib.hid (by rw [HT.out, List.filter_append, List.filter_cons_of_neg (by rw [HBV.out]; decide), List.filter_nil, List.append_nil, HOUT.out])
            go_wp2_with (first
            | (go_at_call 49; refine hcL.mono ?_; clear hcL; rintro e w2 ⟨rfl, hb2⟩; have hI2 := hI.call hb2; have hs2 : w.heap.size ≤ w2.heap.size := hI2.size_kept 3 rfl; obtain ⟨gx, hgx⟩ : ∃ gx, gx = w2.heap.size := ⟨_, rfl⟩; have hxo : ∀ g, (Value.slice A' out.length c').ownBlock = some g → g < gx := fun g hg => by rw [hgx]; exact ((hI2.at_ 0 rfl : Go.Adm.Own w2 _ _ _ _ _ _ _).lt hg).2)
            | (refine wl_store_at (hI2.new (l := chgZ) _ 70 hgx rfl) 0 rfl 70 (.tmp 11) (.tmp 59) rfl gx _ _ (chgC u) rfl (by rw [hgx]; rfl) rfl (by rw [chgC_len hu.out]; rfl) (by rw [chgC_len hu.out]; kernel_rfl) (chgC_one _) ⟨fun g' e => .inr (fun e2 => by injection e with e; have := hxo _ e2; omega), fun g' e => by injection e with e; simp only [Low.els]; omega, fun g' e => by injection e with e; simp only [Low.els]; omega, fun g' e => by injection e with e; omega, trivial⟩ ?_; intro W3 hW3 hs3; simp only [List.set_cons_zero] at hW3))
            clear hgx c0 hI hI2 hb2 HC0
            exact ⟨⟨k + 1, A', c', out, by omega, by go_num, rfl, HO1.out, by omega, HO32.out, hW3.size_kept 4 rfl, hW3.erase 0⟩, by simp [intOf]; omega⟩
          | false =>
            rw [hbb] at HBV hcL
            have HO1 : Hid ((s.take (k + 1)).filter (fun x => !(findR l x.p).isSome) = out ++ [x]) := Lib.hid (by rw [HT.out, List.filter_append, List.filter_cons_of_pos (by rw [HBV.out]; rfl), List.filter_nil, HOUT.out])
            go_wp2_with (first | (first
            | (go_at_call 49; refine hcL.mono ?_; clear hcL; rintro e w2 ⟨rfl, hb2⟩; have hI2 := hI.call hb2; have hs2 : w.heap.size ≤ w2.heap.size := hI2.size_kept 3 rfl; obtain ⟨gx, hgx⟩ : ∃ gx, gx = w2.heap.size := ⟨_, rfl⟩; have hxo : ∀ g, (Value.slice A' out.length c').ownBlock = some g → g < gx := fun g hg => by rw [hgx]; exact ((hI2.at_ 0 rfl : Go.Adm.Own w2 _ _ _ _ _ _ _).lt hg).2)
            | (refine wl_store_at (hI2.new (l := chgZ) _ 70 hgx rfl) 0 rfl 70 (.tmp 11) (.tmp 59) rfl gx _ _ (chgC u) rfl (by rw [hgx]; rfl) rfl (by rw [chgC_len hu.out]; rfl) (by rw [chgC_len hu.out]; kernel_rfl) (chgC_one _) ⟨fun g' e => .inr (fun e2 => by injection e with e; have := hxo _ e2; omega), fun g' e => by injection e with e; simp only [Low.els]; omega, fun g' e => by injection e with e; simp only [Low.els]; omega, fun g' e => by injection e with e; omega, trivial⟩ ?_; intro W3 hW3 hs3; simp only [List.set_cons_zero] at hW3)) | (refine wl_load_any rfl 72 (.tmp 66) rfl (ad.add (k * 33)) rfl (entC x) _ ((HX0.out gx _ _ _ hW3).1) Tryd.underlying72 rfl (by rw [entC_len hx.out]; kernel_rfl) ?_) | (refine wl_lit1 el_ent rfl _ rfl (entC x) rfl (entC_len hx.out) (by decide) ?_) | (at_builtin; refine wl_app_at el_ent (hW3.alloc _) 1 rfl (.tmp 63) (.tmp 68) rfl w.heap.size _ _ _ _ rfl rfl (W3.heap.size + 1) _ 1 1 (entC x) rfl (Rd.lit W3 (entC x).toArray _ 1 (by rw [List.size_toArray]; exact entC_len hx.out)) (entC_one _) (by omega) (by have := hW3.size_kept 4 rfl; simp; omega) (by intro g hg h; have hgx1 := hxo g h; have := hB; simp [Apart, Res.apart, Low.els] <;> omega) ?_; intro A7 c7 w7 hI7 hs7))
            clear hgx c0 hI hI2 hb2 HC0
            have hs7' : w.heap.size ≤ w7.heap.size := hI7.size_kept 4 rfl
            refine ⟨⟨k + 1, A7, c7, out ++ [x], by omega, by go_num, by rw [List.length_append]; rfl, HO1.out, by rw [List.length_append, List.length_singleton]; omega, fun e he => ?_, hs7', ?_⟩, by simp [intOf]; omega⟩
            · rcases List.mem_append.1 he with h | h
              · exact HO32.out e h
              · rw [List.mem_singleton.1 h]; exact hx.out
            · have h8 := hI7.erase 0
              rw [List.length_append, List.map_append, List.flatten_append]
              simpa using h8
        · have hkn : k = n1 := by omega
          have d1 : decide ((k : Int) < (n1 : Int)) = false := by simp; omega
          replace HOUT : Hid (s.filter (fun x => !(findR l x.p).isSome) = out) := Lib.hid (by rw [← HOUT.out, List.take_of_length_le (by rw [HNs.out]; omega)])
          have hol1 : out.length ≤ n1 := by omega
          go_wp2_with fail
          clear d1 hkn hk hlt hol
          obtain ⟨out1, ho1⟩ : ∃ out1, out = out1 := ⟨_, rfl⟩
          rw [ho1] at HOUT hol1
          have hI0 := hI
          have HO320 := HO32
          clear HO32 hI
          go_loopw [9, 13] (fun v i wr => ∃ (k : Nat) (A' : Option Addr) (c' : Nat) (out : List E), k ≤ n2 ∧ i = .int .i64 k ∧ v = .slice A' out.length c' ∧ foldPut blt Ent.p (aL z32) (l.take k) out1 = out ∧ out.length ≤ n1 + k ∧ (∀ e ∈ out, E32 e) ∧ w.heap.size ≤ wr.heap.size ∧ All wr [.own w.heap.size 72 33 A' out.length c' (out.map entC).flatten, .low (.els B 33 A1 n1 (s.map entC)), .low (.els B 65 A2 n2 (l.map chgC)), .kept w w.heap.size]) (fun _ i _ => n2 - (intOf i).toNat)
          case atStart => exact ⟨0, A', c', out, by omega, rfl, rfl, by rw [← ho1]; rfl, by rw [ho1]; omega, HO320.out, hsr, hI0⟩
          case round =>
            clear hI0 HO320 ho1 hsr
            have HOUT1 := HOUT
            obtain ⟨k, A', c', out, hk, rfl, rfl, hout, hol, ho32, hsr, hI⟩ := hrel
            have HOUT := Lib.hid hout
            have HO32 := Lib.hid ho32
            clear hout ho32
            by_cases hlt : k < n2
            · have hkl : k < l.length := by rw [HNl.out]; exact hlt
              obtain ⟨ad, rfl, -, -⟩ := Els.elem (hI.at_ 2 rfl : Els wr B 65 A2 n2 (l.map chgC) ∧ B ≤ wr.heap.size).1 hkl
              have HX : Hid (∀ W, All W [.own w.heap.size 72 33 A' out.length c' (out.map entC).flatten, .low (.els B 33 A1 n1 (s.map entC)), .low (.els B 65 (some ad) n2 (l.map chgC)), .kept w w.heap.size] → (∀ q s0, (chgC l[k])[q]? = some s0 → W.cell? ((ad.add (k * 65)).add q) = some s0) ∧ True) := Lib.hid (fun W hW => by
                obtain ⟨ad', e, _, hc⟩ := Els.elem (hW.at_ 2 rfl : Els W B 65 (some ad) n2 (l.map chgC) ∧ B ≤ W.heap.size).1 hkl
                obtain rfl := Option.some.inj e
                exact ⟨hc, trivial⟩)
              have hx := Lib.hid (H32l.out _ (List.getElem_mem hkl))
              have HT : Hid (l.take (k + 1) = l.take k ++ [l[k]]) := Lib.hid (List.take_succ_eq_append_getElem hkl)
              have HC0 : Hid (∀ q s0, (chgC l[k])[q]? = some s0 → wr.cell? ((ad.add (k * 65)).add q) = some s0) := Lib.hid (by
                obtain ⟨ad', e, _, hc⟩ := Els.elem (hI.at_ 2 rfl : Els wr B 65 (some ad) n2 (l.map chgC) ∧ B ≤ wr.heap.size).1 hkl
                obtain rfl := Option.some.inj e
                exact hc)
              generalize l[k] = x at *
              have c0 : wr.cell? (ad.add (k * 65)) = some (.string x.p) := by have := HC0.out 0 (sv x.p) rfl; rwa [add_zero] at this
              have d1 : decide ((k : Int) < (n2 : Int)) = true := by simp; omega
              have wk0 : (0 : Int) ≤ (k : Int) := by omega
              have wk1 : (k : Int) < (n2 : Int) := by omega
              have wk2 : ((k : Int)).toNat = k := by omega
              cases hq : decide (x.n = z32) with
              | true =>
                have HQ : Hid (Value.bool (!decide (x.n = z32)) = .bool false) := Lib.hid (by rw [hq]; rfl)
                have HO1 : Hid (foldPut blt Ent.p (aL z32) (l.take (k + 1)) out1 = out) := Lib.hid (by rw [HT.out, foldPut_snoc, aL, if_pos (of_decide_eq_true hq), HOUT.out])
                clear hq
                go_wp2_with (first | (refine wl_load_any rfl 58 (.tmp 79) rfl ((ad.add (k * 65)).add 33) rfl (x.n.map bv) _ (fun q s hs => by rw [add_add]; exact HC0.out _ s (chg_sub2 hx.out q s hs)) Tryd.underlying58 rfl (by rw [List.length_map, hx.out.2.1]; kernel_rfl) ?_) | (refine wl_neq (.tmp 80) (.tmp 81) rfl rfl (.bool false) ((ne_dg _ x.n z32 (hx.out.2.1) (rfl)).trans (by rw [HQ.out])) (by go_simp) ?_))
                exact ⟨⟨k + 1, A', c', out, by omega, by go_num, rfl, HO1.out, by omega, HO32.out, hsr, hI⟩, by simp [intOf]; omega⟩
              | false =>
                have HQ : Hid (Value.bool (!decide (x.n = z32)) = .bool true) := Lib.hid (by rw [hq]; rfl)
                have HO1 : Hid (foldPut blt Ent.p (aL z32) (l.take (k + 1)) out1 = putK blt Ent.p out (⟨x.p, x.n⟩ : E)) := Lib.hid (by rw [HT.out, foldPut_snoc, aL, if_neg (of_decide_eq_false hq), HOUT.out])
                clear hq
                go_upto_region 20 with (first | (refine wl_load_any rfl 58 (.tmp 79) rfl ((ad.add (k * 65)).add 33) rfl (x.n.map bv) _ (fun q s hs => by rw [add_add]; exact HC0.out _ s (chg_sub2 hx.out q s hs)) Tryd.underlying58 rfl (by rw [List.length_map, hx.out.2.1]; kernel_rfl) ?_) | (refine wl_neq (.tmp 80) (.tmp 81) rfl rfl (.bool true) ((ne_dg _ x.n z32 (hx.out.2.1) (rfl)).trans (by rw [HQ.out])) (by go_simp) ?_))
                clear c0 HC0
                refine wp_region_hops 12 [83, 84, 85, 86, 87, 88, 89, 90, 91, 92, 93, 94] [.own w.heap.size 72 33 A' out.length c' (out.map entC).flatten, .low (.els B 33 A1 n1 (s.map entC)), .low (.els B 65 (some ad) n2 (l.map chgC)), .kept w w.heap.size]
                  [.eq (.slice A' out.length c'), .eq (.slice (some ad) n2 c2), .eq (.int .i64 k), .eq (.pointer (some (ad.add (k * 65)))), .eq (.pointer (some (ad.add (k * 65)))), .eq (.string x.p), .eq (.slice (some ad) n2 c2), .eq (.int .i64 k), .eq (.pointer (some (ad.add (k * 65)))), .eq (.pointer (some ((ad.add (k * 65)).add 33))), .eq (.agg (x.n.map bv).toArray), .eq (.agg (entC (⟨x.p, x.n⟩ : E)).toArray)]
                  (by kernel_rfl) (by kernel_rfl) hI rfl ?hops ?fin
                case hops =>
                  refine ⟨?_, ?_, ?_, ?_, ?_, ?_, ?_, ?_, ?_, ?_, ?_, ?_, trivial⟩
                  · intro a W hW hb hd K hK
                    have b9 := hb 9 rfl
                    go_simp
                    exact hK _ _ (World.grownBy.refl _ _) rfl
                  · intro a W hW hb hd K hK
                    have b1 := hb 1 rfl
                    go_simp
                    exact hK _ _ (World.grownBy.refl _ _) rfl
                  · intro a W hW hb hd K hK
                    have b13 := hb 13 rfl
                    go_simp
                    exact hK _ _ (World.grownBy.refl _ _) rfl
                  · intro a W hW hb hd K hK
                    have b84 : a.tmps[84]?.getD undef = _ := hd ⟨1, .data⟩ (by simp) rfl
                    have b85 : a.tmps[85]?.getD undef = _ := hd ⟨2, .data⟩ (by simp) rfl
                    go_simp
                    exact hK _ _ (World.grownBy.refl _ _) rfl
                  · intro a W hW hb hd K hK
                    have b86 : a.tmps[86]?.getD undef = _ := hd ⟨3, .data⟩ (by simp) rfl
                    go_simp
                    exact hK _ _ (World.grownBy.refl _ _) (by first | rfl | (rw [add_zero]; rfl) | (simp [add_zero]; rfl))
                  · intro a W hW hb hd K hK
                    have b87 : a.tmps[87]?.getD undef = _ := hd ⟨4, .data⟩ (by simp) rfl
                    have q1 : W.cell? (ad.add (k * 65)) = some (.string x.p) := by have := (HX.out W hW).1 0 (sv x.p) rfl; rwa [add_zero] at this
                    go_simp
                    exact hK _ _ (World.grownBy.refl _ _) rfl
                  · intro a W hW hb hd K hK
                    have b1 := hb 1 rfl
                    go_simp
                    exact hK _ _ (World.grownBy.refl _ _) rfl
                  · intro a W hW hb hd K hK
                    have b13 := hb 13 rfl
                    go_simp
                    exact hK _ _ (World.grownBy.refl _ _) rfl
                  · intro a W hW hb hd K hK
                    have b89 : a.tmps[89]?.getD undef = _ := hd ⟨6, .data⟩ (by simp) rfl
                    have b90 : a.tmps[90]?.getD undef = _ := hd ⟨7, .data⟩ (by simp) rfl
                    go_simp
                    exact hK _ _ (World.grownBy.refl _ _) rfl
                  · intro a W hW hb hd K hK
                    have b91 : a.tmps[91]?.getD undef = _ := hd ⟨8, .data⟩ (by simp) rfl
                    go_simp
                    exact hK _ _ (World.grownBy.refl _ _) (by first | rfl | (rw [add_zero]; rfl) | (simp [add_zero]; rfl))
                  · intro a W hW hb hd K hK
                    have b92 : a.tmps[92]?.getD undef = _ := hd ⟨9, .data⟩ (by simp) rfl
                    refine wp_load_any 58 (.tmp 92) rfl ((ad.add (k * 65)).add 33) (show a.eval (.tmp 92) = _ from by simp only [Act.eval, Array.getD_eq_getD_getElem?]; exact b92) (x.n.map bv) _ (fun q s hs => by rw [add_add]; exact (HX.out W hW).1 _ s (chg_sub2 hx.out q s hs)) Tryd.underlying58 rfl (by rw [List.length_map, hx.out.2.1]; kernel_rfl) ?_
                    exact hK _ _ (World.grownBy.refl _ _) rfl
                  · intro a W hW hb hd K hK
                    have b88 : a.tmps[88]?.getD undef = _ := hd ⟨5, .data⟩ (by simp) rfl
                    have b93 : a.tmps[93]?.getD undef = _ := hd ⟨10, .data⟩ (by simp) rfl
                    refine wp_bld' 72 [(0, .tmp 88), (1, .tmp 93)] rfl _ _ #[(0, 1), (1, 32)] (entC (⟨x.p, x.n⟩ : E)).toArray zero_ent Tryd.underlying72 (fun w => by kernel_rfl) ?_ ?_
                    · simp only [List.map_cons, List.map_nil]
                      rw [(show a.eval (.tmp 88) = _ from by simp only [Act.eval, Array.getD_eq_getD_getElem?]; exact b88), (show a.eval (.tmp 93) = _ from by simp only [Act.eval, Array.getD_eq_getD_getElem?]; exact b93)]
                      exact fill_ent x.p x.n hx.out.2.1
                    exact hK _ _ (World.grownBy.refl _ _) rfl
                case fin =>
                  intro vs V2 hV2 hv
                  have e0 : vs 0 = _ := hv 0 (by decide)
                  have e11 : vs 11 = _ := hv 11 (by decide)
                  clear hv
                  simp only [putAll, List.drop_succ_cons, List.drop_zero, e0, e11, Act.put, List.setIfInBounds_toArray, List.set_cons_succ, List.set_cons_zero]
                  clear e0 e11
                  go_wp2_with (go_at_call 50; refine (insert_any V2 V2.heap.size A' out.length c' out (⟨x.p, x.n⟩ : E) (Els.of (hV2.at_ 0 rfl) (ents_len HO32.out) (by rw [List.length_map])) HO32.out ⟨hx.out.2.1, hx.out.2.2⟩ rfl (by omega) (own_le (hV2.at_ 0 rfl)) (Nat.le_refl _)).mono ?_; rintro e w5 ⟨A5, c5, rfl, ho5, hb5⟩)
                  have hs5 : w.heap.size ≤ w5.heap.size := Nat.le_trans (hV2.size_kept 3 rfl) hb5.size
                  have hsV : w.heap.size ≤ V2.heap.size := hV2.size_kept 3 rfl
                  refine ⟨⟨k + 1, A5, c5, putK blt Ent.p out (⟨x.p, x.n⟩ : E), by omega, by go_num, rfl, HO1.out, by rw [putK_len]; omega, fun e he => ?_, hs5, ⟨ho5.less hsV, ((hV2.call hb5)).erase 0⟩⟩, by simp [intOf]; omega⟩
                  rcases (mem_putK Ent.p out (⟨x.p, x.n⟩ : E) e).1 he with rfl | h
                  · exact ⟨hx.out.2.1, hx.out.2.2⟩
                  · exact HO32.out e h
            · have d1 : decide ((k : Int) < (n2 : Int)) = false := by simp; omega
              have HRA : Hid (refApp (lt := blt) z32 s l = some out) := Lib.hid (by unfold refApp; rw [HFA.out, if_pos rfl, HOUT1.out, ← HOUT.out, List.take_of_length_le (by rw [HNl.out]; omega)])
              by_cases hbig : 64 < out.length
              · have d2 : decide ((64 : Int) < (out.length : Int)) = true := by simp; omega
                have hfin : Hid (rApp s l = ([], 3)) := Lib.hid (by unfold rApp; rw [HVV.out, if_pos rfl, HRA.out]; simp only; rw [if_pos hbig])
                go_wp2_with fail
                go_ret2
                rw [hfin.out]
                exact ResPost.nil rfl (hI.at_ 3 rfl).1
              · have d2 : decide ((64 : Int) < (out.length : Int)) = false := by simp; omega
                have hfin : Hid (rApp s l = (out, 0)) := Lib.hid (by unfold rApp; rw [HVV.out, if_pos rfl, HRA.out]; simp only; rw [if_neg hbig])
                go_wp2_with fail
                go_ret2
                rw [hfin.out]
                exact ⟨A', c', rfl, hI.at_ 0 rfl, (hI.at_ 3 rfl).1⟩
end Go.Proofs.YtieobkgdkiahbaaDoor

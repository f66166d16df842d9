/- Diff of the reference. -/
import Derived.Test.YtmiohkfhmaklgaaDoorRef5
set_option linter.unusedSimpArgs false
set_option linter.unusedVariables false
set_option maxRecDepth 100000
namespace Go.Proofs.YtmiohkfhmaklgaaDoor
open Go Go.RowKit Go.Adm

set_option maxHeartbeats 6400000 in
theorem refDiff_any (w : World) (m : Int) (hm : w.cell? ⟨0, 0, none⟩ = some (.int .i64 m)) (B : Nat) (A1 A2 : Option Addr) (n1 c1 n2 c2 : Nat) (a : List E) (b : List E) (h1 : Els w B 33 A1 n1 (a.map entC)) (h2 : Els w B 33 A2 n2 (b.map entC)) (h321 : ∀ e ∈ a, E32 e) (h322 : ∀ e ∈ b, E32 e) (e1 : a.length = n1) (e2 : b.length = n2) (hna : n1 ≤ 400000) (hnb : n2 ≤ 400000) (hB : B ≤ w.heap.size) :
    Calls Tryd.prog 20 #[.slice A1 n1 c1, .slice A2 n2 c2] w (ResPost chgC 65 (rDiff a b).1 (rDiff a b).2 60 w) := by
  have hR : All w [.low (.els B 33 A1 n1 (a.map entC)), .low (.els B 33 A2 n2 (b.map entC)), .kept w w.heap.size] := ⟨⟨h1, hB⟩, ⟨h2, hB⟩, ⟨Below.refl _ _, Nat.le_refl _⟩, trivial⟩
  have HNa := Lib.hid e1
  have HNb := Lib.hid e2
  have H32a := Lib.hid h321
  have H32b := Lib.hid h322
  clear h1 h2 h321 h322 e1 e2
  replace hna : n1 ≤ 1000000 ∧ n1 ≤ 400000 := ⟨by omega, hna⟩
  replace hnb : n2 ≤ 1000000 ∧ n2 ≤ 400000 := ⟨by omega, hnb⟩
  obtain ⟨hna, hma⟩ := hna
  obtain ⟨hnb, hmb⟩ := hnb
  have hcV := refValid_any w m (glob_keep hm (hR.at_ 2 rfl).1) B A1 n1 c1 a (hR.at_ 0 rfl : Els w B 33 A1 n1 (a.map entC) ∧ B ≤ w.heap.size).1 H32a.out HNa.out hna (hR.at_ 0 rfl : Els w B 33 A1 n1 (a.map entC) ∧ B ≤ w.heap.size).2
  cases hva : validB a with
  | false =>
    have HF : Hid (rDiff a b = ([], 1)) := Lib.hid (by unfold rDiff; rw [hva]; rfl)
    rw [hva] at hcV
    clear hva
    go_enter Tryd.func20, Tryd.ntmps20
    go_wp2_with (first | (refine hcV.mono ?_; clear hcV; rintro e w1 ⟨rfl, hb1⟩; have hR1 := hR.call hb1))
    go_ret2
    rw [HF.out]
    exact ResPost.nil rfl (hR1.at_ 2 rfl).1
  | true =>
  rw [hva] at hcV
  cases hvb : validB b with
  | false =>
    have HF : Hid (rDiff a b = ([], 1)) := Lib.hid (by unfold rDiff; rw [hva, hvb]; rfl)
    have HVb := Lib.hid hvb
    clear hva hvb
    go_enter Tryd.func20, Tryd.ntmps20
    go_wp2_with (first | (refine hcV.mono ?_; clear hcV; rintro e w1 ⟨rfl, hb1⟩; have hR1 := hR.call hb1; have hcW := refValid_any w1 m (glob_keep hm (hR1.at_ 2 rfl).1) B A2 n2 c2 b (hR1.at_ 1 rfl : Els w1 B 33 A2 n2 (b.map entC) ∧ B ≤ w1.heap.size).1 H32b.out HNb.out hnb (hR1.at_ 1 rfl : Els w1 B 33 A2 n2 (b.map entC) ∧ B ≤ w1.heap.size).2; rw [HVb.out] at hcW) | (refine hcW.mono ?_; clear hcW; rintro e wv ⟨rfl, hbv⟩; have hRv := hR1.call hbv))
    go_ret2
    rw [HF.out]
    exact ResPost.nil rfl (hRv.at_ 2 rfl).1
  | true =>
  have HVb := Lib.hid hvb
  have HVV : Hid ((validB a && validB b) = true) := Lib.hid (by rw [hva, hvb]; rfl)
  clear hva hvb
  go_enter Tryd.func20, Tryd.ntmps20
  go_wp2_with (first | (refine hcV.mono ?_; clear hcV; rintro e w1 ⟨rfl, hb1⟩; have hR1 := hR.call hb1; have hcW := refValid_any w1 m (glob_keep hm (hR1.at_ 2 rfl).1) B A2 n2 c2 b (hR1.at_ 1 rfl : Els w1 B 33 A2 n2 (b.map entC) ∧ B ≤ w1.heap.size).1 H32b.out HNb.out hnb (hR1.at_ 1 rfl : Els w1 B 33 A2 n2 (b.map entC) ∧ B ≤ w1.heap.size).2; rw [HVb.out] at hcW) | (refine hcW.mono ?_; clear hcW; rintro e wv ⟨rfl, hbv⟩; have hRv := hR1.call hbv))
  clear hR hR1 hb1 hbv HVb
  have hI0 : All wv [.own w.heap.size 60 65 none ([] : List C).length 0 (([] : List C).map chgC).flatten, .low (.els B 33 A1 n1 (a.map entC)), .low (.els B 33 A2 n2 (b.map entC)), .kept w w.heap.size] := ⟨Go.Adm.Own.nil _ _ _ _, hRv⟩
  clear hRv
  go_loopw [6, 7] (fun v i wr => ∃ (k : Nat) (A' : Option Addr) (c' : Nat) (out : List C), k ≤ n1 ∧ i = .int .i64 k ∧ v = .slice A' out.length c' ∧ foldPut blt Chg.p (dA z32 b) (a.take k) [] = out ∧ out.length ≤ k ∧ (∀ e ∈ out, C32 e) ∧ w.heap.size ≤ wr.heap.size ∧ All wr [.own w.heap.size 60 65 A' out.length c' (out.map chgC).flatten, .low (.els B 33 A1 n1 (a.map entC)), .low (.els B 33 A2 n2 (b.map entC)), .kept w w.heap.size]) (fun _ i _ => n1 - (intOf i).toNat)
  case atStart => exact ⟨0, none, 0, [], by omega, rfl, rfl, rfl, Nat.le_refl _, fun _ h => (by cases h), hI0.size_kept 3 rfl, hI0⟩
  case round =>
    obtain ⟨k, A', c', out, hk, rfl, rfl, hout, hol, ho32, hsr, hI⟩ := hrel
    have HOUT := Lib.hid hout
    have HO32 := Lib.hid ho32
    clear hI0 hout ho32
    by_cases hlt : k < n1
    · have hkl : k < a.length := by rw [HNa.out]; exact hlt
      obtain ⟨ad, rfl, -, -⟩ := Els.elem (hI.at_ 1 rfl : Els wr B 33 A1 n1 (a.map entC) ∧ B ≤ wr.heap.size).1 hkl
      have HX0 : Hid (∀ (g : Nat) (cs : List Value) (T : TypeId) W, All W (.cells g T cs :: [.own w.heap.size 60 65 A' out.length c' (out.map chgC).flatten, .low (.els B 33 (some ad) n1 (a.map entC)), .low (.els B 33 A2 n2 (b.map entC)), .kept w w.heap.size]) → (∀ q s, (entC a[k])[q]? = some s → W.cell? ((ad.add (k * 33)).add q) = some s) ∧ True) := Lib.hid (fun g cs T W hW => by
        obtain ⟨ad', e, _, hc⟩ := Els.elem (hW.at_ 2 rfl : Els W B 33 (some ad) n1 (a.map entC) ∧ B ≤ W.heap.size).1 hkl
        obtain rfl := Option.some.inj e
        exact ⟨hc, trivial⟩)
      have hx := Lib.hid (H32a.out _ (List.getElem_mem hkl))
      have HT : Hid (a.take (k + 1) = a.take k ++ [a[k]]) := Lib.hid (List.take_succ_eq_append_getElem hkl)
      have HC0 : Hid (∀ q s, (entC a[k])[q]? = some s → wr.cell? ((ad.add (k * 33)).add q) = some s) := Lib.hid (by
        obtain ⟨ad', e, _, hc⟩ := Els.elem (hI.at_ 1 rfl : Els wr B 33 (some ad) n1 (a.map entC) ∧ B ≤ wr.heap.size).1 hkl
        obtain rfl := Option.some.inj e
        exact hc)
      generalize a[k] = x at *
      have c0 : wr.cell? (ad.add (k * 33)) = some (.string x.p) := by have := HC0.out 0 (sv x.p) rfl; rwa [add_zero] at this
      have d1 : decide ((k : Int) < (n1 : Int)) = true := by simp; omega
      have wk0 : (0 : Int) ≤ (k : Int) := by omega
      have wk1 : (k : Int) < (n1 : Int) := by omega
      have wk2 : ((k : Int)).toNat = k := by omega
      have hcL := Lookup_any wr B A2 n2 c2 b x.p (hI.at_ 2 rfl : Els wr B 33 A2 n2 (b.map entC) ∧ B ≤ wr.heap.size).1 H32b.out HNb.out hnb (hI.at_ 2 rfl : Els wr B 33 A2 n2 (b.map entC) ∧ B ≤ wr.heap.size).2
      have hdd := Lib.hid (lookZ_32 H32b.out x.p)
      obtain ⟨dd, hdv⟩ : ∃ dd, lookZ z32 b x.p = dd := ⟨_, rfl⟩
      obtain ⟨bb, hbv⟩ : ∃ bb, (lookR b x.p).isSome = bb := ⟨_, rfl⟩
      rw [hdv, hbv] at hcL
      rw [hdv] at hdd
      have HDV := Lib.hid hdv
      have HBV := Lib.hid hbv
      clear hdv hbv
      go_upto_region 8 with (first
        | (go_at_call 30; refine hcL.mono ?_; clear hcL; rintro e w2 ⟨rfl, hb2⟩; have hI2 := hI.call hb2; have hs2 : w.heap.size ≤ w2.heap.size := hI2.size_kept 3 rfl; obtain ⟨gx, hgx⟩ : ∃ gx, gx = w2.heap.size := ⟨_, rfl⟩; have hxo : ∀ g, (Value.slice A' out.length c').ownBlock = some g → g < gx := fun g hg => by rw [hgx]; exact ((hI2.at_ 0 rfl : Go.Adm.Own w2 _ _ _ _ _ _ _).lt hg).2)
        | (refine wl_store_at (hI2.new (l := z32.map bv) _ 51 hgx rfl) 0 rfl 51 (.tmp 8) (.tmp 35) rfl gx _ _ (dd.map bv) rfl (by rw [hgx]; rfl) rfl (by rw [List.length_map, hdd.out]; rfl) (by rw [List.length_map, hdd.out]; kernel_rfl) (bv_one _) ⟨fun g' e => .inr (fun e2 => by injection e with e; have := hxo _ e2; omega), fun g' e => by injection e with e; simp only [Low.els]; omega, fun g' e => by injection e with e; simp only [Low.els]; omega, fun g' e => by injection e with e; omega, trivial⟩ ?_; intro W3 hW3 hs3; simp only [List.set_cons_zero] at hW3))
      have HX : Hid (∀ W, All W [.cells gx 51 (dd.map bv), .own w.heap.size 60 65 A' out.length c' (out.map chgC).flatten, .low (.els B 33 (some ad) n1 (a.map entC)), .low (.els B 33 A2 n2 (b.map entC)), .kept w w.heap.size] → (∀ q s, (entC x)[q]? = some s → W.cell? ((ad.add (k * 33)).add q) = some s) ∧ True) := Lib.hid (fun W hW => HX0.out gx _ _ W hW)
      simp only [← hgx]
      clear hgx c0 hI hI2 hb2 HC0
      cases hq : decide (dd = x.d) with
      | true =>
        have HQ : Hid (Value.bool (!decide (dd = x.d)) = .bool false) := Lib.hid (by rw [hq]; rfl)
        have HO1 : Hid (foldPut blt Chg.p (dA z32 b) (a.take (k + 1)) [] = out) := Lib.hid (by rw [HT.out, foldPut_snoc, dA, HDV.out, if_pos (of_decide_eq_true hq), HOUT.out])
        clear hq
        refine wp_region_hops 6 [37, 38, 39, 40, 41, 42] [.cells gx 51 (dd.map bv), .own w.heap.size 60 65 A' out.length c' (out.map chgC).flatten, .low (.els B 33 (some ad) n1 (a.map entC)), .low (.els B 33 A2 n2 (b.map entC)), .kept w w.heap.size]
          [.eq (.agg (dd.map bv).toArray), .eq (.slice (some ad) n1 c1), .eq (.int .i64 k), .eq (.pointer (some (ad.add (k * 33)))), .eq (.pointer (some ((ad.add (k * 33)).add 1))), .eq (.agg (x.d.map bv).toArray)]
          (by kernel_rfl) (by kernel_rfl) hW3 rfl ?hops ?fin
        case hops =>
          refine ⟨?_, ?_, ?_, ?_, ?_, ?_, trivial⟩
          · intro a W hW hb hd K hK
            have b8 := hb 8 rfl
            refine wp_load_any 51 (.tmp 8) rfl ⟨gx, 0, none⟩ (show a.eval (.tmp 8) = _ from by simp only [Act.eval, Array.getD_eq_getD_getElem?]; exact b8) (dd.map bv) _ (Cells.sub (hW.at_ 0 rfl) 0 (fun j u hu => by rw [Nat.zero_add]; exact hu)) Tryd.underlying51 rfl (by rw [List.length_map, hdd.out]; kernel_rfl) ?_
            exact hK _ _ (World.grownBy.refl _ _) rfl
          · intro a W hW hb hd K hK
            have b0 := hb 0 rfl
            go_simp
            exact hK _ _ (World.grownBy.refl _ _) rfl
          · intro a W hW hb hd K hK
            have b7 := hb 7 rfl
            go_simp
            exact hK _ _ (World.grownBy.refl _ _) rfl
          · intro a W hW hb hd K hK
            have b38 : a.tmps[38]?.getD undef = _ := hd ⟨1, .data⟩ (by simp) rfl
            have b39 : a.tmps[39]?.getD undef = _ := hd ⟨2, .data⟩ (by simp) rfl
            go_simp
            exact hK _ _ (World.grownBy.refl _ _) rfl
          · intro a W hW hb hd K hK
            have b40 : a.tmps[40]?.getD undef = _ := hd ⟨3, .data⟩ (by simp) rfl
            go_simp
            exact hK _ _ (World.grownBy.refl _ _) (by first | rfl | (rw [add_zero]; rfl) | (simp [add_zero]; rfl))
          · intro a W hW hb hd K hK
            have b41 : a.tmps[41]?.getD undef = _ := hd ⟨4, .data⟩ (by simp) rfl
            refine wp_load_any 51 (.tmp 41) rfl ((ad.add (k * 33)).add 1) (show a.eval (.tmp 41) = _ from by simp only [Act.eval, Array.getD_eq_getD_getElem?]; exact b41) (x.d.map bv) _ (fun q s hs => by rw [add_add]; exact (HX.out W hW).1 _ s (ent_sub x q s hs)) Tryd.underlying51 rfl (by rw [List.length_map, hx.out.1]; kernel_rfl) ?_
            exact hK _ _ (World.grownBy.refl _ _) rfl
        case fin =>
          intro vs V hV hv
          have e0 : vs 0 = _ := hv 0 (by decide)
          have e5 : vs 5 = _ := hv 5 (by decide)
          clear hv
          simp only [putAll, List.drop_succ_cons, List.drop_zero, e0, e5, Act.put, List.setIfInBounds_toArray, List.set_cons_succ, List.set_cons_zero]
          clear e0 e5
          go_wp2_with (refine wl_neq (.tmp 37) (.tmp 42) rfl rfl (.bool false) ((ne_dg _ dd x.d (hdd.out) (hx.out.1)).trans (by rw [HQ.out])) (by go_simp) ?_)
          exact ⟨⟨k + 1, A', c', out, by omega, by go_num, rfl, HO1.out, by omega, HO32.out, hV.size_kept 4 rfl, hV.erase 0⟩, by simp [intOf]; omega⟩
      | false =>
        have HQ : Hid (Value.bool (!decide (dd = x.d)) = .bool true) := Lib.hid (by rw [hq]; rfl)
        have HO1 : Hid (foldPut blt Chg.p (dA z32 b) (a.take (k + 1)) [] = putK blt Chg.p out (⟨x.p, x.d, dd⟩ : C)) := Lib.hid (by rw [HT.out, foldPut_snoc, dA, HDV.out, if_neg (of_decide_eq_false hq), HOUT.out])
        clear hq
        refine wp_region_hops 6 [37, 38, 39, 40, 41, 42] [.cells gx 51 (dd.map bv), .own w.heap.size 60 65 A' out.length c' (out.map chgC).flatten, .low (.els B 33 (some ad) n1 (a.map entC)), .low (.els B 33 A2 n2 (b.map entC)), .kept w w.heap.size]
          [.eq (.agg (dd.map bv).toArray), .eq (.slice (some ad) n1 c1), .eq (.int .i64 k), .eq (.pointer (some (ad.add (k * 33)))), .eq (.pointer (some ((ad.add (k * 33)).add 1))), .eq (.agg (x.d.map bv).toArray)]
          (by kernel_rfl) (by kernel_rfl) hW3 rfl ?hops ?fin
        case hops =>
          refine ⟨?_, ?_, ?_, ?_, ?_, ?_, trivial⟩
          · intro a W hW hb hd K hK
            have b8 := hb 8 rfl
            refine wp_load_any 51 (.tmp 8) rfl ⟨gx, 0, none⟩ (show a.eval (.tmp 8) = _ from by simp only [Act.eval, Array.getD_eq_getD_getElem?]; exact b8) (dd.map bv) _ (Cells.sub (hW.at_ 0 rfl) 0 (fun j u hu => by rw [Nat.zero_add]; exact hu)) Tryd.underlying51 rfl (by rw [List.length_map, hdd.out]; kernel_rfl) ?_
            exact hK _ _ (World.grownBy.refl _ _) rfl
          · intro a W hW hb hd K hK
            have b0 := hb 0 rfl
            go_simp
            exact hK _ _ (World.grownBy.refl _ _) rfl
          · intro a W hW hb hd K hK
            have b7 := hb 7 rfl
            go_simp
            exact hK _ _ (World.grownBy.refl _ _) rfl
          · intro a W hW hb hd K hK
            have b38 : a.tmps[38]?.getD undef = _ := hd ⟨1, .data⟩ (by simp) rfl
            have b39 : a.tmps[39]?.getD undef = _ := hd ⟨2, .data⟩ (by simp) rfl
            go_simp
            exact hK _ _ (World.grownBy.refl _ _) rfl
          · intro a W hW hb hd K hK
            have b40 : a.tmps[40]?.getD undef = _ := hd ⟨3, .data⟩ (by simp) rfl
            go_simp
            exact hK _ _ (World.grownBy.refl _ _) (by first | rfl | (rw [add_zero]; rfl) | (simp [add_zero]; rfl))
          · intro a W hW hb hd K hK
            have b41 : a.tmps[41]?.getD undef = _ := hd ⟨4, .data⟩ (by simp) rfl
            refine wp_load_any 51 (.tmp 41) rfl ((ad.add (k * 33)).add 1) (show a.eval (.tmp 41) = _ from by simp only [Act.eval, Array.getD_eq_getD_getElem?]; exact b41) (x.d.map bv) _ (fun q s hs => by rw [add_add]; exact (HX.out W hW).1 _ s (ent_sub x q s hs)) Tryd.underlying51 rfl (by rw [List.length_map, hx.out.1]; kernel_rfl) ?_
            exact hK _ _ (World.grownBy.refl _ _) rfl
        case fin =>
          intro vs V hV hv
          have e0 : vs 0 = _ := hv 0 (by decide)
          have e5 : vs 5 = _ := hv 5 (by decide)
          clear hv
          simp only [putAll, List.drop_succ_cons, List.drop_zero, e0, e5, Act.put, List.setIfInBounds_toArray, List.set_cons_succ, List.set_cons_zero]
          clear e0 e5
          go_upto_region 9 with (refine wl_neq (.tmp 37) (.tmp 42) rfl rfl (.bool true) ((ne_dg _ dd x.d (hdd.out) (hx.out.1)).trans (by rw [HQ.out])) (by go_simp) ?_)
          refine wp_region_hops 13 [44, 45, 46, 47, 48, 49, 50, 51, 52, 53, 54, 55, 56] [.cells gx 51 (dd.map bv), .own w.heap.size 60 65 A' out.length c' (out.map chgC).flatten, .low (.els B 33 (some ad) n1 (a.map entC)), .low (.els B 33 A2 n2 (b.map entC)), .kept w w.heap.size]
            [.eq (.slice A' out.length c'), .eq (.slice (some ad) n1 c1), .eq (.int .i64 k), .eq (.pointer (some (ad.add (k * 33)))), .eq (.pointer (some (ad.add (k * 33)))), .eq (.string x.p), .eq (.slice (some ad) n1 c1), .eq (.int .i64 k), .eq (.pointer (some (ad.add (k * 33)))), .eq (.pointer (some ((ad.add (k * 33)).add 1))), .eq (.agg (x.d.map bv).toArray), .eq (.agg (dd.map bv).toArray), .eq (.agg (chgC (⟨x.p, x.d, dd⟩ : C)).toArray)]
            (by kernel_rfl) (by kernel_rfl) hV rfl ?hops ?fin
          case hops =>
            refine ⟨?_, ?_, ?_, ?_, ?_, ?_, ?_, ?_, ?_, ?_, ?_, ?_, ?_, trivial⟩
            · intro a W hW hb hd K hK
              have b6 := hb 6 rfl
              go_simp
              exact hK _ _ (World.grownBy.refl _ _) rfl
            · intro a W hW hb hd K hK
              have b0 := hb 0 rfl
              go_simp
              exact hK _ _ (World.grownBy.refl _ _) rfl
            · intro a W hW hb hd K hK
              have b7 := hb 7 rfl
              go_simp
              exact hK _ _ (World.grownBy.refl _ _) rfl
            · intro a W hW hb hd K hK
              have b45 : a.tmps[45]?.getD undef = _ := hd ⟨1, .data⟩ (by simp) rfl
              have b46 : a.tmps[46]?.getD undef = _ := hd ⟨2, .data⟩ (by simp) rfl
              go_simp
              exact hK _ _ (World.grownBy.refl _ _) rfl
            · intro a W hW hb hd K hK
              have b47 : a.tmps[47]?.getD undef = _ := hd ⟨3, .data⟩ (by simp) rfl
              go_simp
              exact hK _ _ (World.grownBy.refl _ _) (by first | rfl | (rw [add_zero]; rfl) | (simp [add_zero]; rfl))
            · intro a W hW hb hd K hK
              have b48 : a.tmps[48]?.getD undef = _ := hd ⟨4, .data⟩ (by simp) rfl
              have q1 : W.cell? (ad.add (k * 33)) = some (.string x.p) := by have := (HX.out W hW).1 0 (sv x.p) rfl; rwa [add_zero] at this
              go_simp
              exact hK _ _ (World.grownBy.refl _ _) rfl
            · intro a W hW hb hd K hK
              have b0 := hb 0 rfl
              go_simp
              exact hK _ _ (World.grownBy.refl _ _) rfl
            · intro a W hW hb hd K hK
              have b7 := hb 7 rfl
              go_simp
              exact hK _ _ (World.grownBy.refl _ _) rfl
            · intro a W hW hb hd K hK
              have b50 : a.tmps[50]?.getD undef = _ := hd ⟨6, .data⟩ (by simp) rfl
              have b51 : a.tmps[51]?.getD undef = _ := hd ⟨7, .data⟩ (by simp) rfl
              go_simp
              exact hK _ _ (World.grownBy.refl _ _) rfl
            · intro a W hW hb hd K hK
              have b52 : a.tmps[52]?.getD undef = _ := hd ⟨8, .data⟩ (by simp) rfl
              go_simp
              exact hK _ _ (World.grownBy.refl _ _) (by first | rfl | (rw [add_zero]; rfl) | (simp [add_zero]; rfl))
            · intro a W hW hb hd K hK
              have b53 : a.tmps[53]?.getD undef = _ := hd ⟨9, .data⟩ (by simp) rfl
              refine wp_load_any 51 (.tmp 53) rfl ((ad.add (k * 33)).add 1) (show a.eval (.tmp 53) = _ from by simp only [Act.eval, Array.getD_eq_getD_getElem?]; exact b53) (x.d.map bv) _ (fun q s hs => by rw [add_add]; exact (HX.out W hW).1 _ s (ent_sub x q s hs)) Tryd.underlying51 rfl (by rw [List.length_map, hx.out.1]; kernel_rfl) ?_
              exact hK _ _ (World.grownBy.refl _ _) rfl
            · intro a W hW hb hd K hK
              have b8 := hb 8 rfl
              refine wp_load_any 51 (.tmp 8) rfl ⟨gx, 0, none⟩ (show a.eval (.tmp 8) = _ from by simp only [Act.eval, Array.getD_eq_getD_getElem?]; exact b8) (dd.map bv) _ (Cells.sub (hW.at_ 0 rfl) 0 (fun j u hu => by rw [Nat.zero_add]; exact hu)) Tryd.underlying51 rfl (by rw [List.length_map, hdd.out]; kernel_rfl) ?_
              exact hK _ _ (World.grownBy.refl _ _) rfl
            · intro a W hW hb hd K hK
              have b49 : a.tmps[49]?.getD undef = _ := hd ⟨5, .data⟩ (by simp) rfl
              have b54 : a.tmps[54]?.getD undef = _ := hd ⟨10, .data⟩ (by simp) rfl
              have b55 : a.tmps[55]?.getD undef = _ := hd ⟨11, .data⟩ (by simp) rfl
              refine wp_bld' 60 [(0, .tmp 49), (1, .tmp 54), (2, .tmp 55)] rfl _ _ #[(0, 1), (1, 32), (33, 32)] (chgC (⟨x.p, x.d, dd⟩ : C)).toArray zero_chg Tryd.underlying60 (fun w => by kernel_rfl) ?_ ?_
              · simp only [List.map_cons, List.map_nil]
                rw [(show a.eval (.tmp 49) = _ from by simp only [Act.eval, Array.getD_eq_getD_getElem?]; exact b49), (show a.eval (.tmp 54) = _ from by simp only [Act.eval, Array.getD_eq_getD_getElem?]; exact b54), (show a.eval (.tmp 55) = _ from by simp only [Act.eval, Array.getD_eq_getD_getElem?]; exact b55)]
                exact fill_chg012 x.p x.d dd hx.out.1 hdd.out
              exact hK _ _ (World.grownBy.refl _ _) rfl
          case fin =>
            intro vs V2 hV2 hv
            have e0 : vs 0 = _ := hv 0 (by decide)
            have e12 : vs 12 = _ := hv 12 (by decide)
            clear hv
            simp only [putAll, List.drop_succ_cons, List.drop_zero, e0, e12, Act.put, List.setIfInBounds_toArray, List.set_cons_succ, List.set_cons_zero]
            clear e0 e12
            go_wp2_with (go_at_call 31; refine (put_any V2 V2.heap.size A' out.length c' out (⟨x.p, x.d, dd⟩ : C) (Els.of (hV2.at_ 1 rfl) (chgs_len HO32.out) (by rw [List.length_map])) HO32.out ⟨hx.out.1, hdd.out, hx.out.2⟩ rfl (by omega) (own_le (hV2.at_ 1 rfl)) (Nat.le_refl _)).mono ?_; rintro e w5 ⟨A5, c5, rfl, ho5, hb5⟩)
            have hs5 : w.heap.size ≤ w5.heap.size := Nat.le_trans (hV2.size_kept 4 rfl) hb5.size
            have hsV : w.heap.size ≤ V2.heap.size := hV2.size_kept 4 rfl
            refine ⟨⟨k + 1, A5, c5, putK blt Chg.p out (⟨x.p, x.d, dd⟩ : C), by omega, by go_num, rfl, HO1.out, by rw [putK_len]; omega, fun e he => ?_, hs5, ⟨ho5.less hsV, (((hV2.call hb5)).erase 0).erase 0⟩⟩, by simp [intOf]; omega⟩
            rcases (mem_putK Chg.p out (⟨x.p, x.d, dd⟩ : C) e).1 he with rfl | h
            · exact ⟨hx.out.1, hdd.out, hx.out.2⟩
            · exact HO32.out e h
    · have hkn : k = n1 := by omega
      have d1 : decide ((k : Int) < (n1 : Int)) = false := by simp; omega
      replace HOUT : Hid (foldPut blt Chg.p (dA z32 b) a [] = out) := Lib.hid (by rw [← HOUT.out, List.take_of_length_le (by rw [HNa.out]; omega)])
      have hol1 : out.length ≤ n1 := by omega
      go_wp2_with fail
      clear d1 hkn hk hlt hol
      obtain ⟨out1, ho1⟩ : ∃ out1, out = out1 := ⟨_, rfl⟩
      rw [ho1] at HOUT hol1
      have hI0 := hI
      have HO320 := HO32
      clear HO32 hI
      go_loopw [6, 10] (fun v i wr => ∃ (k : Nat) (A' : Option Addr) (c' : Nat) (out : List C), k ≤ n2 ∧ i = .int .i64 k ∧ v = .slice A' out.length c' ∧ foldPut blt Chg.p (dB z32 a) (b.take k) out1 = out ∧ out.length ≤ n1 + k ∧ (∀ e ∈ out, C32 e) ∧ w.heap.size ≤ wr.heap.size ∧ All wr [.own w.heap.size 60 65 A' out.length c' (out.map chgC).flatten, .low (.els B 33 A1 n1 (a.map entC)), .low (.els B 33 A2 n2 (b.map entC)), .kept w w.heap.size]) (fun _ i _ => n2 - (intOf i).toNat)
      case atStart => exact ⟨0, A', c', out, by omega, rfl, rfl, by rw [← ho1]; rfl, by rw [ho1]; omega, HO320.out, hsr, hI0⟩
      case round =>
        clear hI0 HO320 ho1 hsr
        obtain ⟨k, A', c', out, hk, rfl, rfl, hout, hol, ho32, hsr, hI⟩ := hrel
        have HOUT1 := HOUT
        have HOUT := Lib.hid hout
        have HO32 := Lib.hid ho32
        clear hout ho32
        by_cases hlt : k < n2
        · have hkl : k < b.length := by rw [HNb.out]; exact hlt
          obtain ⟨ad, rfl, -, -⟩ := Els.elem (hI.at_ 2 rfl : Els wr B 33 A2 n2 (b.map entC) ∧ B ≤ wr.heap.size).1 hkl
          have HX0 : Hid (∀ (g : Nat) (cs : List Value) (T : TypeId) W, All W (.cells g T cs :: [.own w.heap.size 60 65 A' out.length c' (out.map chgC).flatten, .low (.els B 33 A1 n1 (a.map entC)), .low (.els B 33 (some ad) n2 (b.map entC)), .kept w w.heap.size]) → (∀ q s, (entC b[k])[q]? = some s → W.cell? ((ad.add (k * 33)).add q) = some s) ∧ True) := Lib.hid (fun g cs T W hW => by
            obtain ⟨ad', e, _, hc⟩ := Els.elem (hW.at_ 3 rfl : Els W B 33 (some ad) n2 (b.map entC) ∧ B ≤ W.heap.size).1 hkl
            obtain rfl := Option.some.inj e
            exact ⟨hc, trivial⟩)
          have hx := Lib.hid (H32b.out _ (List.getElem_mem hkl))
          have HT : Hid (b.take (k + 1) = b.take k ++ [b[k]]) := Lib.hid (List.take_succ_eq_append_getElem hkl)
          have HC0 : Hid (∀ q s, (entC b[k])[q]? = some s → wr.cell? ((ad.add (k * 33)).add q) = some s) := Lib.hid (by
            obtain ⟨ad', e, _, hc⟩ := Els.elem (hI.at_ 2 rfl : Els wr B 33 (some ad) n2 (b.map entC) ∧ B ≤ wr.heap.size).1 hkl
            obtain rfl := Option.some.inj e
            exact hc)
          generalize b[k] = x at *
          have c0 : wr.cell? (ad.add (k * 33)) = some (.string x.p) := by have := HC0.out 0 (sv x.p) rfl; rwa [add_zero] at this
          have d1 : decide ((k : Int) < (n2 : Int)) = true := by simp; omega
          have wk0 : (0 : Int) ≤ (k : Int) := by omega
          have wk1 : (k : Int) < (n2 : Int) := by omega
          have wk2 : ((k : Int)).toNat = k := by omega
          have hcL := Lookup_any wr B A1 n1 c1 a x.p (hI.at_ 1 rfl : Els wr B 33 A1 n1 (a.map entC) ∧ B ≤ wr.heap.size).1 H32a.out HNa.out hna (hI.at_ 1 rfl : Els wr B 33 A1 n1 (a.map entC) ∧ B ≤ wr.heap.size).2
          have hdd := Lib.hid (lookZ_32 H32a.out x.p)
          obtain ⟨dd, hdv⟩ : ∃ dd, lookZ z32 a x.p = dd := ⟨_, rfl⟩
          obtain ⟨bb, hbv⟩ : ∃ bb, (lookR a x.p).isSome = bb := ⟨_, rfl⟩
          rw [hdv, hbv] at hcL
          rw [hdv] at hdd
          have HDV := Lib.hid hdv
          have HBV := Lib.hid hbv
          clear hdv hbv
          cases hbb : bb with
          | true =>
            rw [hbb] at HBV hcL
            have HO1 : Hid (foldPut blt Chg.p (dB z32 a) (b.take (k + 1)) out1 = out) := Lib.hid (by rw [HT.out, foldPut_snoc, dB, HBV.out, if_pos rfl, HOUT.out])
            go_wp2_with (first
            | (go_at_call 30; refine hcL.mono ?_; clear hcL; rintro e w2 ⟨rfl, hb2⟩; have hI2 := hI.call hb2; have hs2 : w.heap.size ≤ w2.heap.size := hI2.size_kept 3 rfl; obtain ⟨gx, hgx⟩ : ∃ gx, gx = w2.heap.size := ⟨_, rfl⟩; have hxo : ∀ g, (Value.slice A' out.length c').ownBlock = some g → g < gx := fun g hg => by rw [hgx]; exact ((hI2.at_ 0 rfl : Go.Adm.Own w2 _ _ _ _ _ _ _).lt hg).2)
            | (refine wl_store_at (hI2.new (l := z32.map bv) _ 51 hgx rfl) 0 rfl 51 (.tmp 11) (.tmp 72) rfl gx _ _ (dd.map bv) rfl (by rw [hgx]; rfl) rfl (by rw [List.length_map, hdd.out]; rfl) (by rw [List.length_map, hdd.out]; kernel_rfl) (bv_one _) ⟨fun g' e => .inr (fun e2 => by injection e with e; have := hxo _ e2; omega), fun g' e => by injection e with e; simp only [Low.els]; omega, fun g' e => by injection e with e; simp only [Low.els]; omega, fun g' e => by injection e with e; omega, trivial⟩ ?_; intro W3 hW3 hs3; simp only [List.set_cons_zero] at hW3))
            clear hgx c0 hI hI2 hb2 HC0
            exact ⟨⟨k + 1, A', c', out, by omega, by go_num, rfl, HO1.out, by omega, HO32.out, hW3.size_kept 4 rfl, hW3.erase 0⟩, by simp [intOf]; omega⟩
          | false =>
            rw [hbb] at HBV hcL
            have HO1 : Hid (foldPut blt Chg.p (dB z32 a) (b.take (k + 1)) out1 = putK blt Chg.p out (⟨x.p, z32, x.d⟩ : C)) := Lib.hid (by rw [HT.out, foldPut_snoc, dB, HBV.out, if_neg (by decide), HOUT.out])
            go_upto_region 15 with (first
            | (go_at_call 30; refine hcL.mono ?_; clear hcL; rintro e w2 ⟨rfl, hb2⟩; have hI2 := hI.call hb2; have hs2 : w.heap.size ≤ w2.heap.size := hI2.size_kept 3 rfl; obtain ⟨gx, hgx⟩ : ∃ gx, gx = w2.heap.size := ⟨_, rfl⟩; have hxo : ∀ g, (Value.slice A' out.length c').ownBlock = some g → g < gx := fun g hg => by rw [hgx]; exact ((hI2.at_ 0 rfl : Go.Adm.Own w2 _ _ _ _ _ _ _).lt hg).2)
            | (refine wl_store_at (hI2.new (l := z32.map bv) _ 51 hgx rfl) 0 rfl 51 (.tmp 11) (.tmp 72) rfl gx _ _ (dd.map bv) rfl (by rw [hgx]; rfl) rfl (by rw [List.length_map, hdd.out]; rfl) (by rw [List.length_map, hdd.out]; kernel_rfl) (bv_one _) ⟨fun g' e => .inr (fun e2 => by injection e with e; have := hxo _ e2; omega), fun g' e => by injection e with e; simp only [Low.els]; omega, fun g' e => by injection e with e; simp only [Low.els]; omega, fun g' e => by injection e with e; omega, trivial⟩ ?_; intro W3 hW3 hs3; simp only [List.set_cons_zero] at hW3))
            have HX : Hid (∀ W, All W [.cells gx 51 (dd.map bv), .own w.heap.size 60 65 A' out.length c' (out.map chgC).flatten, .low (.els B 33 A1 n1 (a.map entC)), .low (.els B 33 (some ad) n2 (b.map entC)), .kept w w.heap.size] → (∀ q s, (entC x)[q]? = some s → W.cell? ((ad.add (k * 33)).add q) = some s) ∧ True) := Lib.hid (fun W hW => HX0.out gx _ _ W hW)
            simp only [← hgx]
            clear hgx c0 hI hI2 hb2 HC0
            refine wp_region_hops 12 [76, 77, 78, 79, 80, 81, 82, 83, 84, 85, 86, 87] [.cells gx 51 (dd.map bv), .own w.heap.size 60 65 A' out.length c' (out.map chgC).flatten, .low (.els B 33 A1 n1 (a.map entC)), .low (.els B 33 (some ad) n2 (b.map entC)), .kept w w.heap.size]
              [.eq (.slice A' out.length c'), .eq (.slice (some ad) n2 c2), .eq (.int .i64 k), .eq (.pointer (some (ad.add (k * 33)))), .eq (.pointer (some (ad.add (k * 33)))), .eq (.string x.p), .eq (.slice (some ad) n2 c2), .eq (.int .i64 k), .eq (.pointer (some (ad.add (k * 33)))), .eq (.pointer (some ((ad.add (k * 33)).add 1))), .eq (.agg (x.d.map bv).toArray), .eq (.agg (chgC (⟨x.p, z32, x.d⟩ : C)).toArray)]
              (by kernel_rfl) (by kernel_rfl) hW3 rfl ?hops ?fin
            case hops =>
              refine ⟨?_, ?_, ?_, ?_, ?_, ?_, ?_, ?_, ?_, ?_, ?_, ?_, trivial⟩
              · intro a W hW hb hd K hK
                have b6 := hb 6 rfl
                go_simp
                exact hK _ _ (World.grownBy.refl _ _) rfl
              · intro a W hW hb hd K hK
                have b1 := hb 1 rfl
                go_simp
                exact hK _ _ (World.grownBy.refl _ _) rfl
              · intro a W hW hb hd K hK
                have b10 := hb 10 rfl
                go_simp
                exact hK _ _ (World.grownBy.refl _ _) rfl
              · intro a W hW hb hd K hK
                have b77 : a.tmps[77]?.getD undef = _ := hd ⟨1, .data⟩ (by simp) rfl
                have b78 : a.tmps[78]?.getD undef = _ := hd ⟨2, .data⟩ (by simp) rfl
                go_simp
                exact hK _ _ (World.grownBy.refl _ _) rfl
              · intro a W hW hb hd K hK
                have b79 : a.tmps[79]?.getD undef = _ := hd ⟨3, .data⟩ (by simp) rfl
                go_simp
                exact hK _ _ (World.grownBy.refl _ _) (by first | rfl | (rw [add_zero]; rfl) | (simp [add_zero]; rfl))
              · intro a W hW hb hd K hK
                have b80 : a.tmps[80]?.getD undef = _ := hd ⟨4, .data⟩ (by simp) rfl
                have q1 : W.cell? (ad.add (k * 33)) = some (.string x.p) := by have := (HX.out W hW).1 0 (sv x.p) rfl; rwa [add_zero] at this
                go_simp
                exact hK _ _ (World.grownBy.refl _ _) rfl
              · intro a W hW hb hd K hK
                have b1 := hb 1 rfl
                go_simp
                exact hK _ _ (World.grownBy.refl _ _) rfl
              · intro a W hW hb hd K hK
                have b10 := hb 10 rfl
                go_simp
                exact hK _ _ (World.grownBy.refl _ _) rfl
              · intro a W hW hb hd K hK
                have b82 : a.tmps[82]?.getD undef = _ := hd ⟨6, .data⟩ (by simp) rfl
                have b83 : a.tmps[83]?.getD undef = _ := hd ⟨7, .data⟩ (by simp) rfl
                go_simp
                exact hK _ _ (World.grownBy.refl _ _) rfl
              · intro a W hW hb hd K hK
                have b84 : a.tmps[84]?.getD undef = _ := hd ⟨8, .data⟩ (by simp) rfl
                go_simp
                exact hK _ _ (World.grownBy.refl _ _) (by first | rfl | (rw [add_zero]; rfl) | (simp [add_zero]; rfl))
              · intro a W hW hb hd K hK
                have b85 : a.tmps[85]?.getD undef = _ := hd ⟨9, .data⟩ (by simp) rfl
                refine wp_load_any 51 (.tmp 85) rfl ((ad.add (k * 33)).add 1) (show a.eval (.tmp 85) = _ from by simp only [Act.eval, Array.getD_eq_getD_getElem?]; exact b85) (x.d.map bv) _ (fun q s hs => by rw [add_add]; exact (HX.out W hW).1 _ s (ent_sub x q s hs)) Tryd.underlying51 rfl (by rw [List.length_map, hx.out.1]; kernel_rfl) ?_
                exact hK _ _ (World.grownBy.refl _ _) rfl
              · intro a W hW hb hd K hK
                have b81 : a.tmps[81]?.getD undef = _ := hd ⟨5, .data⟩ (by simp) rfl
                have b86 : a.tmps[86]?.getD undef = _ := hd ⟨10, .data⟩ (by simp) rfl
                refine wp_bld' 60 [(0, .tmp 81), (2, .tmp 86)] rfl _ _ #[(0, 1), (1, 32), (33, 32)] (chgC (⟨x.p, z32, x.d⟩ : C)).toArray zero_chg Tryd.underlying60 (fun w => by kernel_rfl) ?_ ?_
                · simp only [List.map_cons, List.map_nil]
                  rw [(show a.eval (.tmp 81) = _ from by simp only [Act.eval, Array.getD_eq_getD_getElem?]; exact b81), (show a.eval (.tmp 86) = _ from by simp only [Act.eval, Array.getD_eq_getD_getElem?]; exact b86)]
                  exact fill_chg02 x.p x.d hx.out.1
                exact hK _ _ (World.grownBy.refl _ _) rfl
            case fin =>
              intro vs V2 hV2 hv
              have e0 : vs 0 = _ := hv 0 (by decide)
              have e11 : vs 11 = _ := hv 11 (by decide)
              clear hv
              simp only [putAll, List.drop_succ_cons, List.drop_zero, e0, e11, Act.put, List.setIfInBounds_toArray, List.set_cons_succ, List.set_cons_zero]
              clear e0 e11
              go_wp2_with (go_at_call 31; refine (put_any V2 V2.heap.size A' out.length c' out (⟨x.p, z32, x.d⟩ : C) (Els.of (hV2.at_ 1 rfl) (chgs_len HO32.out) (by rw [List.length_map])) HO32.out ⟨rfl, hx.out.1, hx.out.2⟩ rfl (by omega) (own_le (hV2.at_ 1 rfl)) (Nat.le_refl _)).mono ?_; rintro e w5 ⟨A5, c5, rfl, ho5, hb5⟩)
              have hs5 : w.heap.size ≤ w5.heap.size := Nat.le_trans (hV2.size_kept 4 rfl) hb5.size
              have hsV : w.heap.size ≤ V2.heap.size := hV2.size_kept 4 rfl
              refine ⟨⟨k + 1, A5, c5, putK blt Chg.p out (⟨x.p, z32, x.d⟩ : C), by omega, by go_num, rfl, HO1.out, by rw [putK_len]; omega, fun e he => ?_, hs5, ⟨ho5.less hsV, (((hV2.call hb5)).erase 0).erase 0⟩⟩, by simp [intOf]; omega⟩
              rcases (mem_putK Chg.p out (⟨x.p, z32, x.d⟩ : C) e).1 he with rfl | h
              · exact ⟨rfl, hx.out.1, hx.out.2⟩
              · exact HO32.out e h
        · have d1 : decide ((k : Int) < (n2 : Int)) = false := by simp; omega
          have hfin : Hid (rDiff a b = (out, 0)) := Lib.hid (by unfold rDiff; rw [HVV.out, if_pos rfl, HOUT1.out, ← HOUT.out, List.take_of_length_le (by rw [HNb.out]; omega)])
          go_wp2_with fail
          go_ret2
          rw [hfin.out]
          exact ⟨A', c', rfl, hI.at_ 0 rfl, (hI.at_ 3 rfl).1⟩
end Go.Proofs.YtmiohkfhmaklgaaDoor

/- Compose of the reference. -/
import Derived.Test.YtieobkgdkiahbaaDoorRef5
set_option linter.unusedSimpArgs false
set_option linter.unusedVariables false
set_option maxRecDepth 100000
namespace Go.Proofs.YtieobkgdkiahbaaDoor
open Go Go.RowKit Go.Adm

set_option maxHeartbeats 6400000 in
theorem refCompose_any (w : World) (m : Int) (hm : w.cell? ⟨0, 0, none⟩ = some (.int .i64 m)) (B : Nat) (A1 A2 : Option Addr) (n1 c1 n2 c2 : Nat) (a : List C) (b : List C) (h1 : Els w B 65 A1 n1 (a.map chgC)) (h2 : Els w B 65 A2 n2 (b.map chgC)) (h321 : ∀ e ∈ a, C32 e) (h322 : ∀ e ∈ b, C32 e) (e1 : a.length = n1) (e2 : b.length = n2) (hna : n1 ≤ 400000) (hnb : n2 ≤ 400000) (hB : B ≤ w.heap.size) :
    Calls Tryd.prog 22 #[.slice A1 n1 c1, .slice A2 n2 c2] w (ResPost chgC 65 (rComp a b).1 (rComp a b).2 70 w) := by
  have hR : All w [.low (.els B 65 A1 n1 (a.map chgC)), .low (.els B 65 A2 n2 (b.map chgC)), .kept w w.heap.size] := ⟨⟨h1, hB⟩, ⟨h2, hB⟩, ⟨Below.refl _ _, Nat.le_refl _⟩, trivial⟩
  have HNa := Lib.hid e1
  have HNb := Lib.hid e2
  have H32a := Lib.hid h321
  have H32b := Lib.hid h322
  clear h1 h2 h321 h322 e1 e2
  replace hna : n1 ≤ 1000000 ∧ n1 ≤ 400000 := ⟨by omega, hna⟩
  replace hnb : n2 ≤ 1000000 ∧ n2 ≤ 400000 := ⟨by omega, hnb⟩
  obtain ⟨hna, hma⟩ := hna
  obtain ⟨hnb, hmb⟩ := hnb
  have hcV := refChanges_any w m (glob_keep hm (hR.at_ 2 rfl).1) B A1 n1 c1 a (hR.at_ 0 rfl : Els w B 65 A1 n1 (a.map chgC) ∧ B ≤ w.heap.size).1 H32a.out HNa.out hna (hR.at_ 0 rfl : Els w B 65 A1 n1 (a.map chgC) ∧ B ≤ w.heap.size).2
  cases hva : changesB a with
  | false =>
    have HF : Hid (rComp a b = ([], 1)) := Lib.hid (by unfold rComp; rw [hva]; rfl)
    rw [hva] at hcV
    clear hva
    go_enter Tryd.func22, Tryd.ntmps22
    go_wp2_with (first | (refine hcV.mono ?_; clear hcV; rintro e w1 ⟨rfl, hb1⟩; have hR1 := hR.call hb1))
    go_ret2
    rw [HF.out]
    exact ResPost.nil rfl (hR1.at_ 2 rfl).1
  | true =>
  rw [hva] at hcV
  cases hvb : changesB b with
  | false =>
    have HF : Hid (rComp a b = ([], 1)) := Lib.hid (by unfold rComp; rw [hva, hvb]; rfl)
    have HVb := Lib.hid hvb
    clear hva hvb
    go_enter Tryd.func22, Tryd.ntmps22
    go_wp2_with (first | (refine hcV.mono ?_; clear hcV; rintro e w1 ⟨rfl, hb1⟩; have hR1 := hR.call hb1; have hcW := refChanges_any w1 m (glob_keep hm (hR1.at_ 2 rfl).1) B A2 n2 c2 b (hR1.at_ 1 rfl : Els w1 B 65 A2 n2 (b.map chgC) ∧ B ≤ w1.heap.size).1 H32b.out HNb.out hnb (hR1.at_ 1 rfl : Els w1 B 65 A2 n2 (b.map chgC) ∧ B ≤ w1.heap.size).2; rw [HVb.out] at hcW) | (refine hcW.mono ?_; clear hcW; rintro e wv ⟨rfl, hbv⟩; have hRv := hR1.call hbv))
    go_ret2
    rw [HF.out]
    exact ResPost.nil rfl (hRv.at_ 2 rfl).1
  | true =>
  have HVb := Lib.hid hvb
  have HVV : Hid ((changesB a && changesB b) = true) := Lib.hid (by rw [hva, hvb]; rfl)
  clear hva hvb
  go_enter Tryd.func22, Tryd.ntmps22
  go_wp2_with (first | (refine hcV.mono ?_; clear hcV; rintro e w1 ⟨rfl, hb1⟩; have hR1 := hR.call hb1; have hcW := refChanges_any w1 m (glob_keep hm (hR1.at_ 2 rfl).1) B A2 n2 c2 b (hR1.at_ 1 rfl : Els w1 B 65 A2 n2 (b.map chgC) ∧ B ≤ w1.heap.size).1 H32b.out HNb.out hnb (hR1.at_ 1 rfl : Els w1 B 65 A2 n2 (b.map chgC) ∧ B ≤ w1.heap.size).2; rw [HVb.out] at hcW) | (refine hcW.mono ?_; clear hcW; rintro e wv ⟨rfl, hbv⟩; have hRv := hR1.call hbv))
  clear hR hR1 hb1 hbv HVb
  have hI0 : All wv [.own w.heap.size 70 65 none ([] : List C).length 0 (([] : List C).map chgC).flatten, .low (.els B 65 A1 n1 (a.map chgC)), .low (.els B 65 A2 n2 (b.map chgC)), .kept w w.heap.size] := ⟨Go.Adm.Own.nil _ _ _ _, hRv⟩
  clear hRv
  go_loopw [6, 7] (fun v i wr => ∃ (k : Nat) (A' : Option Addr) (c' : Nat) (out : List C), k ≤ n1 ∧ i = .int .i64 k ∧ v = .slice A' out.length c' ∧ foldPut blt Chg.p (cA b) (a.take k) [] = out ∧ (∀ j (hj : j < a.length), j < k → cOk b a[j] = true) ∧ out.length ≤ k ∧ (∀ e ∈ out, C32 e) ∧ w.heap.size ≤ wr.heap.size ∧ All wr [.own w.heap.size 70 65 A' out.length c' (out.map chgC).flatten, .low (.els B 65 A1 n1 (a.map chgC)), .low (.els B 65 A2 n2 (b.map chgC)), .kept w w.heap.size]) (fun _ i _ => n1 - (intOf i).toNat)
  case atStart => exact ⟨0, none, 0, [], by omega, rfl, rfl, rfl, fun _ _ h => absurd h (by omega), Nat.le_refl _, fun _ h => (by cases h), hI0.size_kept 3 rfl, hI0⟩
  case round =>
    obtain ⟨k, A', c', out, hk, rfl, rfl, hout, hall, hol, ho32, hsr, hI⟩ := hrel
    have HOUT := Lib.hid hout
    have HALL := Lib.hid hall
    have HO32 := Lib.hid ho32
    clear hI0 hout ho32 hall
    by_cases hlt : k < n1
    · have hkl : k < a.length := by rw [HNa.out]; exact hlt
      obtain ⟨ad, rfl, -, -⟩ := Els.elem (hI.at_ 1 rfl : Els wr B 65 A1 n1 (a.map chgC) ∧ B ≤ wr.heap.size).1 hkl
      have HX0 : Hid (∀ (g : Nat) (cs : List Value) (T : TypeId) W, All W (.cells g T cs :: [.own w.heap.size 70 65 A' out.length c' (out.map chgC).flatten, .low (.els B 65 (some ad) n1 (a.map chgC)), .low (.els B 65 A2 n2 (b.map chgC)), .kept w w.heap.size]) → (∀ q s0, (chgC a[k])[q]? = some s0 → W.cell? ((ad.add (k * 65)).add q) = some s0) ∧ True) := Lib.hid (fun g cs T W hW => by
        obtain ⟨ad', e, _, hc⟩ := Els.elem (hW.at_ 2 rfl : Els W B 65 (some ad) n1 (a.map chgC) ∧ B ≤ W.heap.size).1 hkl
        obtain rfl := Option.some.inj e
        exact ⟨hc, trivial⟩)
      have hx := Lib.hid (H32a.out _ (List.getElem_mem hkl))
      have HT : Hid (a.take (k + 1) = a.take k ++ [a[k]]) := Lib.hid (List.take_succ_eq_append_getElem hkl)
      have HNO : Hid (cOk b a[k] = false → a.all (cOk b) = false) := Lib.hid (fun h => by rw [List.all_eq_false]; exact ⟨_, List.getElem_mem hkl, by rw [h]; decide⟩)
      have HYES : Hid (cOk b a[k] = true → ∀ j (hj : j < a.length), j < k + 1 → cOk b a[j] = true) := Lib.hid (fun h j hj h2 => by
        rcases Nat.lt_succ_iff_lt_or_eq.1 h2 with h4 | h4
        · exact HALL.out j hj h4
        · subst h4; exact h)
      have HC0 : Hid (∀ q s0, (chgC a[k])[q]? = some s0 → wr.cell? ((ad.add (k * 65)).add q) = some s0) := Lib.hid (by
        obtain ⟨ad', e, _, hc⟩ := Els.elem (hI.at_ 1 rfl : Els wr B 65 (some ad) n1 (a.map chgC) ∧ B ≤ wr.heap.size).1 hkl
        obtain rfl := Option.some.inj e
        exact hc)
      generalize a[k] = x at *
      have c0 : wr.cell? (ad.add (k * 65)) = some (.string x.p) := by have := HC0.out 0 (sv x.p) rfl; rwa [add_zero] at this
      have d1 : decide ((k : Int) < (n1 : Int)) = true := by simp; omega
      have wk0 : (0 : Int) ≤ (k : Int) := by omega
      have wk1 : (k : Int) < (n1 : Int) := by omega
      have wk2 : ((k : Int)).toNat = k := by omega
      have hcL := find_any wr B A2 n2 c2 b x.p (hI.at_ 2 rfl : Els wr B 65 A2 n2 (b.map chgC) ∧ B ≤ wr.heap.size).1 H32b.out HNb.out hnb (hI.at_ 2 rfl : Els wr B 65 A2 n2 (b.map chgC) ∧ B ≤ wr.heap.size).2
      have hu := Lib.hid (findR_32 H32b.out x.p)
      obtain ⟨u, hdv⟩ : ∃ u, (findR b x.p).getD cZ = u := ⟨_, rfl⟩
      obtain ⟨bb, hbv⟩ : ∃ bb, (findR b x.p).isSome = bb := ⟨_, rfl⟩
      rw [hdv, hbv] at hcL
      rw [hdv] at hu
      have HDV := Lib.hid hdv
      have HBV := Lib.hid hbv
      clear hdv hbv
      cases hbb : bb with
      | false =>
        rw [hbb] at HBV hcL
        have HFN : Hid (findR b x.p = none) := Lib.hid (by have := HBV.out; simpa using this)
        have HA1 := Lib.hid (HYES.out (by rw [cOk, HFN.out]))
        have HO1 : Hid (foldPut blt Chg.p (cA b) (a.take (k + 1)) [] = putK blt Chg.p out x) := Lib.hid (by rw [HT.out, foldPut_snoc, cA, HFN.out, HOUT.out])
        go_wp2_with (first | (first
        | (go_at_call 49; refine hcL.mono ?_; clear hcL; rintro e w2 ⟨rfl, hb2⟩; have hI2 := hI.call hb2; have hs2 : w.heap.size ≤ w2.heap.size := hI2.size_kept 3 rfl; obtain ⟨gx, hgx⟩ : ∃ gx, gx = w2.heap.size := ⟨_, rfl⟩; have hxo : ∀ g, (Value.slice A' out.length c').ownBlock = some g → g < gx := fun g hg => by rw [hgx]; exact ((hI2.at_ 0 rfl : Go.Adm.Own w2 _ _ _ _ _ _ _).lt hg).2)
        | (refine wl_store_at (hI2.new (l := chgZ) _ 70 hgx rfl) 0 rfl 70 (.tmp 8) (.tmp 35) rfl gx _ _ (chgC u) rfl (by rw [hgx]; rfl) rfl (by rw [chgC_len hu.out]; rfl) (by rw [chgC_len hu.out]; kernel_rfl) (chgC_one _) ⟨fun g' e => .inr (fun e2 => by injection e with e; have := hxo _ e2; omega), fun g' e => by injection e with e; simp only [Low.els]; omega, fun g' e => by injection e with e; simp only [Low.els]; omega, fun g' e => by injection e with e; omega, trivial⟩ ?_; intro W3 hW3 hs3; simp only [List.set_cons_zero] at hW3)) | (refine wl_load_any rfl 70 (.tmp 42) rfl (ad.add (k * 65)) rfl (chgC x) _ ((HX0.out gx _ _ _ hW3).1) Tryd.underlying70 rfl (by rw [chgC_len hx.out]; kernel_rfl) ?_) | (go_at_call 56; refine (put_any W3 W3.heap.size A' out.length c' out x (Els.of (hW3.at_ 1 rfl) (chgs_len HO32.out) (by rw [List.length_map])) HO32.out hx.out rfl (by omega) (own_le (hW3.at_ 1 rfl)) (Nat.le_refl _)).mono ?_; rintro e w5 ⟨A5, c5, rfl, ho5, hb5⟩))
        have hs5 : w.heap.size ≤ w5.heap.size := Nat.le_trans (hW3.size_kept 4 rfl) hb5.size
        have hsV : w.heap.size ≤ W3.heap.size := hW3.size_kept 4 rfl
        refine ⟨⟨k + 1, A5, c5, putK blt Chg.p out x, by omega, by go_num, rfl, HO1.out, HA1.out, by rw [putK_len]; omega, fun e he => ?_, hs5, ⟨ho5.less hsV, (((hW3.call hb5)).erase 0).erase 0⟩⟩, by simp [intOf]; omega⟩
        rcases (mem_putK Chg.p out x e).1 he with rfl | h
        · exact hx.out
        · exact HO32.out e h
      | true =>
        rw [hbb] at HBV hcL
        have HFS : Hid (findR b x.p = some u) := Lib.hid (by
          have h1 := HBV.out
          have h2 := HDV.out
          cases hf : findR b x.p with
          | none => rw [hf] at h1; cases h1
          | some y => rw [hf] at h2; exact congrArg some h2)
        go_upto_region 10 with (first
        | (go_at_call 49; refine hcL.mono ?_; clear hcL; rintro e w2 ⟨rfl, hb2⟩; have hI2 := hI.call hb2; have hs2 : w.heap.size ≤ w2.heap.size := hI2.size_kept 3 rfl; obtain ⟨gx, hgx⟩ : ∃ gx, gx = w2.heap.size := ⟨_, rfl⟩; have hxo : ∀ g, (Value.slice A' out.length c').ownBlock = some g → g < gx := fun g hg => by rw [hgx]; exact ((hI2.at_ 0 rfl : Go.Adm.Own w2 _ _ _ _ _ _ _).lt hg).2)
        | (refine wl_store_at (hI2.new (l := chgZ) _ 70 hgx rfl) 0 rfl 70 (.tmp 8) (.tmp 35) rfl gx _ _ (chgC u) rfl (by rw [hgx]; rfl) rfl (by rw [chgC_len hu.out]; rfl) (by rw [chgC_len hu.out]; kernel_rfl) (chgC_one _) ⟨fun g' e => .inr (fun e2 => by injection e with e; have := hxo _ e2; omega), fun g' e => by injection e with e; simp only [Low.els]; omega, fun g' e => by injection e with e; simp only [Low.els]; omega, fun g' e => by injection e with e; omega, trivial⟩ ?_; intro W3 hW3 hs3; simp only [List.set_cons_zero] at hW3))
        have HX : Hid (∀ W, All W [.cells gx 70 (chgC u), .own w.heap.size 70 65 A' out.length c' (out.map chgC).flatten, .low (.els B 65 (some ad) n1 (a.map chgC)), .low (.els B 65 A2 n2 (b.map chgC)), .kept w w.heap.size] → (∀ q s0, (chgC x)[q]? = some s0 → W.cell? ((ad.add (k * 65)).add q) = some s0) ∧ True) := Lib.hid (fun W hW => HX0.out gx _ _ W hW)
        simp only [← hgx]
        clear hgx c0 hI hI2 hb2 HC0
        cases hq : decide (x.n = u.o) with
        | false =>
          have HQ : Hid (Value.bool (!decide (x.n = u.o)) = .bool true) := Lib.hid (by rw [hq]; rfl)
          have HFIN : Hid (rComp a b = ([], 9)) := Lib.hid (by unfold rComp refComp; rw [HVV.out, if_pos rfl, HNO.out (by rw [cOk, HFS.out]; exact hq)]; rfl)
          clear hq
          refine wp_region_hops 7 [45, 46, 47, 48, 49, 50, 51] [.cells gx 70 (chgC u), .own w.heap.size 70 65 A' out.length c' (out.map chgC).flatten, .low (.els B 65 (some ad) n1 (a.map chgC)), .low (.els B 65 A2 n2 (b.map chgC)), .kept w w.heap.size]
            [.eq (.slice (some ad) n1 c1), .eq (.int .i64 k), .eq (.pointer (some (ad.add (k * 65)))), .eq (.pointer (some ((ad.add (k * 65)).add 33))), .eq (.agg (x.n.map bv).toArray), .eq (.pointer (some ⟨gx, 1, none⟩)), .eq (.agg (u.o.map bv).toArray)]
            (by kernel_rfl) (by kernel_rfl) hW3 rfl ?hops ?fin
          case hops =>
            refine ⟨?_, ?_, ?_, ?_, ?_, ?_, ?_, trivial⟩
            · intro a W hW hb hd K hK
              have b0 := hb 0 rfl
              go_simp
              exact hK _ _ (World.grownBy.refl _ _) rfl
            · intro a W hW hb hd K hK
              have b7 := hb 7 rfl
              go_simp
              exact hK _ _ (World.grownBy.refl _ _) rfl
            · intro a W hW hb hd K hK
              have b45 : a.tmps[45]?.getD undef = _ := hd ⟨0, .data⟩ (by simp) rfl
              have b46 : a.tmps[46]?.getD undef = _ := hd ⟨1, .data⟩ (by simp) rfl
              go_simp
              exact hK _ _ (World.grownBy.refl _ _) rfl
            · intro a W hW hb hd K hK
              have b47 : a.tmps[47]?.getD undef = _ := hd ⟨2, .data⟩ (by simp) rfl
              go_simp
              exact hK _ _ (World.grownBy.refl _ _) (by first | rfl | (rw [add_zero]; rfl) | (simp [add_zero]; rfl))
            · intro a W hW hb hd K hK
              have b48 : a.tmps[48]?.getD undef = _ := hd ⟨3, .data⟩ (by simp) rfl
              refine wp_load_any 58 (.tmp 48) rfl ((ad.add (k * 65)).add 33) (show a.eval (.tmp 48) = _ from by simp only [Act.eval, Array.getD_eq_getD_getElem?]; exact b48) (x.n.map bv) _ (fun q s hs => by rw [add_add]; exact (HX.out W hW).1 _ s (chg_sub2 hx.out q s hs)) Tryd.underlying58 rfl (by rw [List.length_map, hx.out.2.1]; kernel_rfl) ?_
              exact hK _ _ (World.grownBy.refl _ _) rfl
            · intro a W hW hb hd K hK
              have b8 := hb 8 rfl
              go_simp
              exact hK _ _ (World.grownBy.refl _ _) (by first | rfl | (rw [add_zero]; rfl) | (simp [add_zero]; rfl))
            · intro a W hW hb hd K hK
              have b50 : a.tmps[50]?.getD undef = _ := hd ⟨5, .data⟩ (by simp) rfl
              refine wp_load_any 58 (.tmp 50) rfl ⟨gx, 1, none⟩ (show a.eval (.tmp 50) = _ from by simp only [Act.eval, Array.getD_eq_getD_getElem?]; exact b50) (u.o.map bv) _ (Cells.sub (hW.at_ 0 rfl) 1 (chg_sub1 hu.out)) Tryd.underlying58 rfl (by rw [List.length_map, hu.out.1]; kernel_rfl) ?_
              exact hK _ _ (World.grownBy.refl _ _) rfl
          case fin =>
            intro vs V hV hv
            have e4 : vs 4 = _ := hv 4 (by decide)
            have e6 : vs 6 = _ := hv 6 (by decide)
            clear hv
            simp only [putAll, List.drop_succ_cons, List.drop_zero, e4, e6, Act.put, List.setIfInBounds_toArray, List.set_cons_succ, List.set_cons_zero]
            clear e4 e6
            go_wp2_with (refine wl_neq (.tmp 49) (.tmp 51) rfl rfl (.bool true) ((ne_dg _ x.n u.o (hx.out.2.1) (hu.out.1)).trans (by rw [HQ.out])) (by go_simp) ?_)
            go_ret2
            rw [HFIN.out]
            exact ResPost.nil rfl (hV.at_ 4 rfl).1
        | true =>
          have HQ : Hid (Value.bool (!decide (x.n = u.o)) = .bool false) := Lib.hid (by rw [hq]; rfl)
          have HA1 := Lib.hid (HYES.out (by rw [cOk, HFS.out]; exact hq))
          clear hq
          refine wp_region_hops 7 [45, 46, 47, 48, 49, 50, 51] [.cells gx 70 (chgC u), .own w.heap.size 70 65 A' out.length c' (out.map chgC).flatten, .low (.els B 65 (some ad) n1 (a.map chgC)), .low (.els B 65 A2 n2 (b.map chgC)), .kept w w.heap.size]
            [.eq (.slice (some ad) n1 c1), .eq (.int .i64 k), .eq (.pointer (some (ad.add (k * 65)))), .eq (.pointer (some ((ad.add (k * 65)).add 33))), .eq (.agg (x.n.map bv).toArray), .eq (.pointer (some ⟨gx, 1, none⟩)), .eq (.agg (u.o.map bv).toArray)]
            (by kernel_rfl) (by kernel_rfl) hW3 rfl ?hops ?fin
          case hops =>
            refine ⟨?_, ?_, ?_, ?_, ?_, ?_, ?_, trivial⟩
            · intro a W hW hb hd K hK
              have b0 := hb 0 rfl
              go_simp
              exact hK _ _ (World.grownBy.refl _ _) rfl
            · intro a W hW hb hd K hK
              have b7 := hb 7 rfl
              go_simp
              exact hK _ _ (World.grownBy.refl _ _) rfl
            · intro a W hW hb hd K hK
              have b45 : a.tmps[45]?.getD undef = _ := hd ⟨0, .data⟩ (by simp) rfl
              have b46 : a.tmps[46]?.getD undef = _ := hd ⟨1, .data⟩ (by simp) rfl
              go_simp
              exact hK _ _ (World.grownBy.refl _ _) rfl
            · intro a W hW hb hd K hK
              have b47 : a.tmps[47]?.getD undef = _ := hd ⟨2, .data⟩ (by simp) rfl
              go_simp
              exact hK _ _ (World.grownBy.refl _ _) (by first | rfl | (rw [add_zero]; rfl) | (simp [add_zero]; rfl))
            · intro a W hW hb hd K hK
              have b48 : a.tmps[48]?.getD undef = _ := hd ⟨3, .data⟩ (by simp) rfl
              refine wp_load_any 58 (.tmp 48) rfl ((ad.add (k * 65)).add 33) (show a.eval (.tmp 48) = _ from by simp only [Act.eval, Array.getD_eq_getD_getElem?]; exact b48) (x.n.map bv) _ (fun q s hs => by rw [add_add]; exact (HX.out W hW).1 _ s (chg_sub2 hx.out q s hs)) Tryd.underlying58 rfl (by rw [List.length_map, hx.out.2.1]; kernel_rfl) ?_
              exact hK _ _ (World.grownBy.refl _ _) rfl
            · intro a W hW hb hd K hK
              have b8 := hb 8 rfl
              go_simp
              exact hK _ _ (World.grownBy.refl _ _) (by first | rfl | (rw [add_zero]; rfl) | (simp [add_zero]; rfl))
            · intro a W hW hb hd K hK
              have b50 : a.tmps[50]?.getD undef = _ := hd ⟨5, .data⟩ (by simp) rfl
              refine wp_load_any 58 (.tmp 50) rfl ⟨gx, 1, none⟩ (show a.eval (.tmp 50) = _ from by simp only [Act.eval, Array.getD_eq_getD_getElem?]; exact b50) (u.o.map bv) _ (Cells.sub (hW.at_ 0 rfl) 1 (chg_sub1 hu.out)) Tryd.underlying58 rfl (by rw [List.length_map, hu.out.1]; kernel_rfl) ?_
              exact hK _ _ (World.grownBy.refl _ _) rfl
          case fin =>
            intro vs V hV hv
            have e4 : vs 4 = _ := hv 4 (by decide)
            have e6 : vs 6 = _ := hv 6 (by decide)
            clear hv
            simp only [putAll, List.drop_succ_cons, List.drop_zero, e4, e6, Act.put, List.setIfInBounds_toArray, List.set_cons_succ, List.set_cons_zero]
            clear e4 e6
            go_upto_region 12 with (refine wl_neq (.tmp 49) (.tmp 51) rfl rfl (.bool false) ((ne_dg _ x.n u.o (hx.out.2.1) (hu.out.1)).trans (by rw [HQ.out])) (by go_simp) ?_)
            clear HQ
            cases hq : decide (x.o = u.n) with
            | true =>
              have HQ : Hid (Value.bool (!decide (x.o = u.n)) = .bool false) := Lib.hid (by rw [hq]; rfl)
              have HO1 : Hid (foldPut blt Chg.p (cA b) (a.take (k + 1)) [] = out) := Lib.hid (by rw [HT.out, foldPut_snoc, cA, HFS.out]; simp only; rw [if_pos (of_decide_eq_true hq)]; exact HOUT.out)
              clear hq
              refine wp_region_hops 7 [53, 54, 55, 56, 57, 58, 59] [.cells gx 70 (chgC u), .own w.heap.size 70 65 A' out.length c' (out.map chgC).flatten, .low (.els B 65 (some ad) n1 (a.map chgC)), .low (.els B 65 A2 n2 (b.map chgC)), .kept w w.heap.size]
                [.eq (.slice (some ad) n1 c1), .eq (.int .i64 k), .eq (.pointer (some (ad.add (k * 65)))), .eq (.pointer (some ((ad.add (k * 65)).add 1))), .eq (.agg (x.o.map bv).toArray), .eq (.pointer (some ⟨gx, 33, none⟩)), .eq (.agg (u.n.map bv).toArray)]
                (by kernel_rfl) (by kernel_rfl) hV rfl ?hops ?fin
              case hops =>
                refine ⟨?_, ?_, ?_, ?_, ?_, ?_, ?_, trivial⟩
                · intro a W hW hb hd K hK
                  have b0 := hb 0 rfl
                  go_simp
                  exact hK _ _ (World.grownBy.refl _ _) rfl
                · intro a W hW hb hd K hK
                  have b7 := hb 7 rfl
                  go_simp
                  exact hK _ _ (World.grownBy.refl _ _) rfl
                · intro a W hW hb hd K hK
                  have b53 : a.tmps[53]?.getD undef = _ := hd ⟨0, .data⟩ (by simp) rfl
                  have b54 : a.tmps[54]?.getD undef = _ := hd ⟨1, .data⟩ (by simp) rfl
                  go_simp
                  exact hK _ _ (World.grownBy.refl _ _) rfl
                · intro a W hW hb hd K hK
                  have b55 : a.tmps[55]?.getD undef = _ := hd ⟨2, .data⟩ (by simp) rfl
                  go_simp
                  exact hK _ _ (World.grownBy.refl _ _) (by first | rfl | (rw [add_zero]; rfl) | (simp [add_zero]; rfl))
                · intro a W hW hb hd K hK
                  have b56 : a.tmps[56]?.getD undef = _ := hd ⟨3, .data⟩ (by simp) rfl
                  refine wp_load_any 58 (.tmp 56) rfl ((ad.add (k * 65)).add 1) (show a.eval (.tmp 56) = _ from by simp only [Act.eval, Array.getD_eq_getD_getElem?]; exact b56) (x.o.map bv) _ (fun q s hs => by rw [add_add]; exact (HX.out W hW).1 _ s (chg_sub1 hx.out q s hs)) Tryd.underlying58 rfl (by rw [List.length_map, hx.out.1]; kernel_rfl) ?_
                  exact hK _ _ (World.grownBy.refl _ _) rfl
                · intro a W hW hb hd K hK
                  have b8 := hb 8 rfl
                  go_simp
                  exact hK _ _ (World.grownBy.refl _ _) (by first | rfl | (rw [add_zero]; rfl) | (simp [add_zero]; rfl))
                · intro a W hW hb hd K hK
                  have b58 : a.tmps[58]?.getD undef = _ := hd ⟨5, .data⟩ (by simp) rfl
                  refine wp_load_any 58 (.tmp 58) rfl ⟨gx, 33, none⟩ (show a.eval (.tmp 58) = _ from by simp only [Act.eval, Array.getD_eq_getD_getElem?]; exact b58) (u.n.map bv) _ (Cells.sub (hW.at_ 0 rfl) 33 (chg_sub2 hu.out)) Tryd.underlying58 rfl (by rw [List.length_map, hu.out.2.1]; kernel_rfl) ?_
                  exact hK _ _ (World.grownBy.refl _ _) rfl
              case fin =>
                intro vs V1 hV1 hv
                have e4 : vs 4 = _ := hv 4 (by decide)
                have e6 : vs 6 = _ := hv 6 (by decide)
                clear hv
                simp only [putAll, List.drop_succ_cons, List.drop_zero, e4, e6, Act.put, List.setIfInBounds_toArray, List.set_cons_succ, List.set_cons_zero]
                clear e4 e6
                go_wp2_with (refine wl_neq (.tmp 57) (.tmp 59) rfl rfl (.bool false) ((ne_dg _ x.o u.n (hx.out.1) (hu.out.2.1)).trans (by rw [HQ.out])) (by go_simp) ?_)
                exact ⟨⟨k + 1, A', c', out, by omega, by go_num, rfl, HO1.out, HA1.out, by omega, HO32.out, hV1.size_kept 4 rfl, hV1.erase 0⟩, by simp [intOf]; omega⟩
            | false =>
              have HQ : Hid (Value.bool (!decide (x.o = u.n)) = .bool true) := Lib.hid (by rw [hq]; rfl)
              have HO1 : Hid (foldPut blt Chg.p (cA b) (a.take (k + 1)) [] = putK blt Chg.p out (⟨u.p, x.o, u.n⟩ : C)) := Lib.hid (by rw [HT.out, foldPut_snoc, cA, HFS.out]; simp only; rw [if_neg (of_decide_eq_false hq)]; rw [HOUT.out])
              clear hq
              refine wp_region_hops 7 [53, 54, 55, 56, 57, 58, 59] [.cells gx 70 (chgC u), .own w.heap.size 70 65 A' out.length c' (out.map chgC).flatten, .low (.els B 65 (some ad) n1 (a.map chgC)), .low (.els B 65 A2 n2 (b.map chgC)), .kept w w.heap.size]
                [.eq (.slice (some ad) n1 c1), .eq (.int .i64 k), .eq (.pointer (some (ad.add (k * 65)))), .eq (.pointer (some ((ad.add (k * 65)).add 1))), .eq (.agg (x.o.map bv).toArray), .eq (.pointer (some ⟨gx, 33, none⟩)), .eq (.agg (u.n.map bv).toArray)]
                (by kernel_rfl) (by kernel_rfl) hV rfl ?hops ?fin
              case hops =>
                refine ⟨?_, ?_, ?_, ?_, ?_, ?_, ?_, trivial⟩
                · intro a W hW hb hd K hK
                  have b0 := hb 0 rfl
                  go_simp
                  exact hK _ _ (World.grownBy.refl _ _) rfl
                · intro a W hW hb hd K hK
                  have b7 := hb 7 rfl
                  go_simp
                  exact hK _ _ (World.grownBy.refl _ _) rfl
                · intro a W hW hb hd K hK
                  have b53 : a.tmps[53]?.getD undef = _ := hd ⟨0, .data⟩ (by simp) rfl
                  have b54 : a.tmps[54]?.getD undef = _ := hd ⟨1, .data⟩ (by simp) rfl
                  go_simp
                  exact hK _ _ (World.grownBy.refl _ _) rfl
                · intro a W hW hb hd K hK
                  have b55 : a.tmps[55]?.getD undef = _ := hd ⟨2, .data⟩ (by simp) rfl
                  go_simp
                  exact hK _ _ (World.grownBy.refl _ _) (by first | rfl | (rw [add_zero]; rfl) | (simp [add_zero]; rfl))
                · intro a W hW hb hd K hK
                  have b56 : a.tmps[56]?.getD undef = _ := hd ⟨3, .data⟩ (by simp) rfl
                  refine wp_load_any 58 (.tmp 56) rfl ((ad.add (k * 65)).add 1) (show a.eval (.tmp 56) = _ from by simp only [Act.eval, Array.getD_eq_getD_getElem?]; exact b56) (x.o.map bv) _ (fun q s hs => by rw [add_add]; exact (HX.out W hW).1 _ s (chg_sub1 hx.out q s hs)) Tryd.underlying58 rfl (by rw [List.length_map, hx.out.1]; kernel_rfl) ?_
                  exact hK _ _ (World.grownBy.refl _ _) rfl
                · intro a W hW hb hd K hK
                  have b8 := hb 8 rfl
                  go_simp
                  exact hK _ _ (World.grownBy.refl _ _) (by first | rfl | (rw [add_zero]; rfl) | (simp [add_zero]; rfl))
                · intro a W hW hb hd K hK
                  have b58 : a.tmps[58]?.getD undef = _ := hd ⟨5, .data⟩ (by simp) rfl
                  refine wp_load_any 58 (.tmp 58) rfl ⟨gx, 33, none⟩ (show a.eval (.tmp 58) = _ from by simp only [Act.eval, Array.getD_eq_getD_getElem?]; exact b58) (u.n.map bv) _ (Cells.sub (hW.at_ 0 rfl) 33 (chg_sub2 hu.out)) Tryd.underlying58 rfl (by rw [List.length_map, hu.out.2.1]; kernel_rfl) ?_
                  exact hK _ _ (World.grownBy.refl _ _) rfl
              case fin =>
                intro vs V1 hV1 hv
                have e4 : vs 4 = _ := hv 4 (by decide)
                have e6 : vs 6 = _ := hv 6 (by decide)
                clear hv
                simp only [putAll, List.drop_succ_cons, List.drop_zero, e4, e6, Act.put, List.setIfInBounds_toArray, List.set_cons_succ, List.set_cons_zero]
                clear e4 e6
                go_upto_region 13 with (refine wl_neq (.tmp 57) (.tmp 59) rfl rfl (.bool true) ((ne_dg _ x.o u.n (hx.out.1) (hu.out.2.1)).trans (by rw [HQ.out])) (by go_simp) ?_)
                refine wp_region_hops 11 [61, 62, 63, 64, 65, 66, 67, 68, 69, 70, 71] [.cells gx 70 (chgC u), .own w.heap.size 70 65 A' out.length c' (out.map chgC).flatten, .low (.els B 65 (some ad) n1 (a.map chgC)), .low (.els B 65 A2 n2 (b.map chgC)), .kept w w.heap.size]
                  [.eq (.slice A' out.length c'), .eq (.pointer (some ⟨gx, 0, none⟩)), .eq (.string u.p), .eq (.slice (some ad) n1 c1), .eq (.int .i64 k), .eq (.pointer (some (ad.add (k * 65)))), .eq (.pointer (some ((ad.add (k * 65)).add 1))), .eq (.agg (x.o.map bv).toArray), .eq (.pointer (some ⟨gx, 33, none⟩)), .eq (.agg (u.n.map bv).toArray), .eq (.agg (chgC (⟨u.p, x.o, u.n⟩ : C)).toArray)]
                  (by kernel_rfl) (by kernel_rfl) hV1 rfl ?hops ?fin
                case hops =>
                  refine ⟨?_, ?_, ?_, ?_, ?_, ?_, ?_, ?_, ?_, ?_, ?_, trivial⟩
                  · intro a W hW hb hd K hK
                    have b6 := hb 6 rfl
                    go_simp
                    exact hK _ _ (World.grownBy.refl _ _) rfl
                  · intro a W hW hb hd K hK
                    have b8 := hb 8 rfl
                    go_simp
                    exact hK _ _ (World.grownBy.refl _ _) (by first | rfl | (rw [add_zero]; rfl) | (simp [add_zero]; rfl))
                  · intro a W hW hb hd K hK
                    have b62 : a.tmps[62]?.getD undef = _ := hd ⟨1, .data⟩ (by simp) rfl
                    have q1 : W.cell? ⟨gx, 0, none⟩ = some (.string u.p) := by have := Cells.cell (hW.at_ 0 rfl) (i := 0) (by rw [chgC_len hu.out]; decide); exact this
                    go_simp
                    exact hK _ _ (World.grownBy.refl _ _) rfl
                  · intro a W hW hb hd K hK
                    have b0 := hb 0 rfl
                    go_simp
                    exact hK _ _ (World.grownBy.refl _ _) rfl
                  · intro a W hW hb hd K hK
                    have b7 := hb 7 rfl
                    go_simp
                    exact hK _ _ (World.grownBy.refl _ _) rfl
                  · intro a W hW hb hd K hK
                    have b64 : a.tmps[64]?.getD undef = _ := hd ⟨3, .data⟩ (by simp) rfl
                    have b65 : a.tmps[65]?.getD undef = _ := hd ⟨4, .data⟩ (by simp) rfl
                    go_simp
                    exact hK _ _ (World.grownBy.refl _ _) rfl
                  · intro a W hW hb hd K hK
                    have b66 : a.tmps[66]?.getD undef = _ := hd ⟨5, .data⟩ (by simp) rfl
                    go_simp
                    exact hK _ _ (World.grownBy.refl _ _) (by first | rfl | (rw [add_zero]; rfl) | (simp [add_zero]; rfl))
                  · intro a W hW hb hd K hK
                    have b67 : a.tmps[67]?.getD undef = _ := hd ⟨6, .data⟩ (by simp) rfl
                    refine wp_load_any 58 (.tmp 67) rfl ((ad.add (k * 65)).add 1) (show a.eval (.tmp 67) = _ from by simp only [Act.eval, Array.getD_eq_getD_getElem?]; exact b67) (x.o.map bv) _ (fun q s hs => by rw [add_add]; exact (HX.out W hW).1 _ s (chg_sub1 hx.out q s hs)) Tryd.underlying58 rfl (by rw [List.length_map, hx.out.1]; kernel_rfl) ?_
                    exact hK _ _ (World.grownBy.refl _ _) rfl
                  · intro a W hW hb hd K hK
                    have b8 := hb 8 rfl
                    go_simp
                    exact hK _ _ (World.grownBy.refl _ _) (by first | rfl | (rw [add_zero]; rfl) | (simp [add_zero]; rfl))
                  · intro a W hW hb hd K hK
                    have b69 : a.tmps[69]?.getD undef = _ := hd ⟨8, .data⟩ (by simp) rfl
                    refine wp_load_any 58 (.tmp 69) rfl ⟨gx, 33, none⟩ (show a.eval (.tmp 69) = _ from by simp only [Act.eval, Array.getD_eq_getD_getElem?]; exact b69) (u.n.map bv) _ (Cells.sub (hW.at_ 0 rfl) 33 (chg_sub2 hu.out)) Tryd.underlying58 rfl (by rw [List.length_map, hu.out.2.1]; kernel_rfl) ?_
                    exact hK _ _ (World.grownBy.refl _ _) rfl
                  · intro a W hW hb hd K hK
                    have b63 : a.tmps[63]?.getD undef = _ := hd ⟨2, .data⟩ (by simp) rfl
                    have b68 : a.tmps[68]?.getD undef = _ := hd ⟨7, .data⟩ (by simp) rfl
                    have b70 : a.tmps[70]?.getD undef = _ := hd ⟨9, .data⟩ (by simp) rfl
                    refine wp_bld' 70 [(0, .tmp 63), (1, .tmp 68), (2, .tmp 70)] rfl _ _ #[(0, 1), (1, 32), (33, 32)] (chgC (⟨u.p, x.o, u.n⟩ : C)).toArray zero_chg Tryd.underlying70 (fun w => by kernel_rfl) ?_ ?_
                    · simp only [List.map_cons, List.map_nil]
                      rw [(show a.eval (.tmp 63) = _ from by simp only [Act.eval, Array.getD_eq_getD_getElem?]; exact b63), (show a.eval (.tmp 68) = _ from by simp only [Act.eval, Array.getD_eq_getD_getElem?]; exact b68), (show a.eval (.tmp 70) = _ from by simp only [Act.eval, Array.getD_eq_getD_getElem?]; exact b70)]
                      exact fill_chg012 u.p x.o u.n hx.out.1 hu.out.2.1
                    exact hK _ _ (World.grownBy.refl _ _) rfl
                case fin =>
                  intro vs V2 hV2 hv
                  have e0 : vs 0 = _ := hv 0 (by decide)
                  have e10 : vs 10 = _ := hv 10 (by decide)
                  clear hv
                  simp only [putAll, List.drop_succ_cons, List.drop_zero, e0, e10, Act.put, List.setIfInBounds_toArray, List.set_cons_succ, List.set_cons_zero]
                  clear e0 e10
                  go_wp2_with (go_at_call 56; refine (put_any V2 V2.heap.size A' out.length c' out (⟨u.p, x.o, u.n⟩ : C) (Els.of (hV2.at_ 1 rfl) (chgs_len HO32.out) (by rw [List.length_map])) HO32.out ⟨hx.out.1, hu.out.2.1, hu.out.2.2⟩ rfl (by omega) (own_le (hV2.at_ 1 rfl)) (Nat.le_refl _)).mono ?_; rintro e w5 ⟨A5, c5, rfl, ho5, hb5⟩)
                  have hs5 : w.heap.size ≤ w5.heap.size := Nat.le_trans (hV2.size_kept 4 rfl) hb5.size
                  have hsV : w.heap.size ≤ V2.heap.size := hV2.size_kept 4 rfl
                  refine ⟨⟨k + 1, A5, c5, putK blt Chg.p out (⟨u.p, x.o, u.n⟩ : C), by omega, by go_num, rfl, HO1.out, HA1.out, by rw [putK_len]; omega, fun e he => ?_, hs5, ⟨ho5.less hsV, (((hV2.call hb5)).erase 0).erase 0⟩⟩, by simp [intOf]; omega⟩
                  rcases (mem_putK Chg.p out (⟨u.p, x.o, u.n⟩ : C) e).1 he with rfl | h
                  · exact ⟨hx.out.1, hu.out.2.1, hu.out.2.2⟩
                  · exact HO32.out e h
    · have hkn : k = n1 := by omega
      have d1 : decide ((k : Int) < (n1 : Int)) = false := by simp; omega
      replace HOUT : Hid (foldPut blt Chg.p (cA b) a [] = out) := Lib.hid (by rw [← HOUT.out, List.take_of_length_le (by rw [HNa.out]; omega)])
      have HFA : Hid (a.all (cOk b) = true) := Lib.hid (by
        rw [List.all_eq_true]
        intro x hx
        obtain ⟨j, hj, rfl⟩ := List.getElem_of_mem hx
        exact HALL.out j hj (by rw [HNa.out] at hj; omega))
      have hol1 : out.length ≤ n1 := by omega
      go_wp2_with fail
      clear d1 hkn hk hlt hol HALL
      obtain ⟨out1, ho1⟩ : ∃ out1, out = out1 := ⟨_, rfl⟩
      rw [ho1] at HOUT hol1
      have hI0 := hI
      have HO320 := HO32
      clear HO32 hI
      go_loopw [6, 10] (fun v i wr => ∃ (k : Nat) (A' : Option Addr) (c' : Nat) (out : List C), k ≤ n2 ∧ i = .int .i64 k ∧ v = .slice A' out.length c' ∧ foldPut blt Chg.p (cB a) (b.take k) out1 = out ∧ out.length ≤ n1 + k ∧ (∀ e ∈ out, C32 e) ∧ w.heap.size ≤ wr.heap.size ∧ All wr [.own w.heap.size 70 65 A' out.length c' (out.map chgC).flatten, .low (.els B 65 A1 n1 (a.map chgC)), .low (.els B 65 A2 n2 (b.map chgC)), .kept w w.heap.size]) (fun _ i _ => n2 - (intOf i).toNat)
      case atStart => exact ⟨0, A', c', out, by omega, rfl, rfl, by rw [← ho1]; rfl, by rw [ho1]; omega, HO320.out, hsr, hI0⟩
      case round =>
        clear hI0 HO320 ho1 hsr
        obtain ⟨k, A', c', out, hk, rfl, rfl, hout, hol, ho32, hsr, hI⟩ := hrel
        have HOUT1 := HOUT
        have HOUT := Lib.hid hout
        have HO32 := Lib.hid ho32
        clear hout ho32
        by_cases hlt : k < n2
        · have hkl : k < b.length := by rw [HNb.out]; exact hlt
          obtain ⟨ad, rfl, -, -⟩ := Els.elem (hI.at_ 2 rfl : Els wr B 65 A2 n2 (b.map chgC) ∧ B ≤ wr.heap.size).1 hkl
          have HX0 : Hid (∀ (g : Nat) (cs : List Value) (T : TypeId) W, All W (.cells g T cs :: [.own w.heap.size 70 65 A' out.length c' (out.map chgC).flatten, .low (.els B 65 A1 n1 (a.map chgC)), .low (.els B 65 (some ad) n2 (b.map chgC)), .kept w w.heap.size]) → (∀ q s0, (chgC b[k])[q]? = some s0 → W.cell? ((ad.add (k * 65)).add q) = some s0) ∧ True) := Lib.hid (fun g cs T W hW => by
            obtain ⟨ad', e, _, hc⟩ := Els.elem (hW.at_ 3 rfl : Els W B 65 (some ad) n2 (b.map chgC) ∧ B ≤ W.heap.size).1 hkl
            obtain rfl := Option.some.inj e
            exact ⟨hc, trivial⟩)
          have hx := Lib.hid (H32b.out _ (List.getElem_mem hkl))
          have HT : Hid (b.take (k + 1) = b.take k ++ [b[k]]) := Lib.hid (List.take_succ_eq_append_getElem hkl)
          have HC0 : Hid (∀ q s0, (chgC b[k])[q]? = some s0 → wr.cell? ((ad.add (k * 65)).add q) = some s0) := Lib.hid (by
            obtain ⟨ad', e, _, hc⟩ := Els.elem (hI.at_ 2 rfl : Els wr B 65 (some ad) n2 (b.map chgC) ∧ B ≤ wr.heap.size).1 hkl
            obtain rfl := Option.some.inj e
            exact hc)
          generalize b[k] = x at *
          have c0 : wr.cell? (ad.add (k * 65)) = some (.string x.p) := by have := HC0.out 0 (sv x.p) rfl; rwa [add_zero] at this
          have d1 : decide ((k : Int) < (n2 : Int)) = true := by simp; omega
          have wk0 : (0 : Int) ≤ (k : Int) := by omega
          have wk1 : (k : Int) < (n2 : Int) := by omega
          have wk2 : ((k : Int)).toNat = k := by omega
          have hcL := find_any wr B A1 n1 c1 a x.p (hI.at_ 1 rfl : Els wr B 65 A1 n1 (a.map chgC) ∧ B ≤ wr.heap.size).1 H32a.out HNa.out hna (hI.at_ 1 rfl : Els wr B 65 A1 n1 (a.map chgC) ∧ B ≤ wr.heap.size).2
          have hu := Lib.hid (findR_32 H32a.out x.p)
          obtain ⟨u, hdv⟩ : ∃ u, (findR a x.p).getD cZ = u := ⟨_, rfl⟩
          obtain ⟨bb, hbv⟩ : ∃ bb, (findR a x.p).isSome = bb := ⟨_, rfl⟩
          rw [hdv, hbv] at hcL
          rw [hdv] at hu
          have HDV := Lib.hid hdv
          have HBV := Lib.hid hbv
          clear hdv hbv
          cases hbb : bb with
          | true =>
            rw [hbb] at HBV hcL
            have HO1 : Hid (foldPut blt Chg.p (cB a) (b.take (k + 1)) out1 = out) := Lib.hid (by rw [HT.out, foldPut_snoc, cB, HBV.out, if_pos rfl, HOUT.out])
            go_wp2_with (first
            | (go_at_call 49; refine hcL.mono ?_; clear hcL; rintro e w2 ⟨rfl, hb2⟩; have hI2 := hI.call hb2; have hs2 : w.heap.size ≤ w2.heap.size := hI2.size_kept 3 rfl; obtain ⟨gx, hgx⟩ : ∃ gx, gx = w2.heap.size := ⟨_, rfl⟩; have hxo : ∀ g, (Value.slice A' out.length c').ownBlock = some g → g < gx := fun g hg => by rw [hgx]; exact ((hI2.at_ 0 rfl : Go.Adm.Own w2 _ _ _ _ _ _ _).lt hg).2)
            | (refine wl_store_at (hI2.new (l := chgZ) _ 70 hgx rfl) 0 rfl 70 (.tmp 11) (.tmp 87) rfl gx _ _ (chgC u) rfl (by rw [hgx]; rfl) rfl (by rw [chgC_len hu.out]; rfl) (by rw [chgC_len hu.out]; kernel_rfl) (chgC_one _) ⟨fun g' e => .inr (fun e2 => by injection e with e; have := hxo _ e2; omega), fun g' e => by injection e with e; simp only [Low.els]; omega, fun g' e => by injection e with e; simp only [Low.els]; omega, fun g' e => by injection e with e; omega, trivial⟩ ?_; intro W3 hW3 hs3; simp only [List.set_cons_zero] at hW3))
            clear hgx c0 hI hI2 hb2 HC0
            exact ⟨⟨k + 1, A', c', out, by omega, by go_num, rfl, HO1.out, by omega, HO32.out, hW3.size_kept 4 rfl, hW3.erase 0⟩, by simp [intOf]; omega⟩
          | false =>
            rw [hbb] at HBV hcL
            have HO1 : Hid (foldPut blt Chg.p (cB a) (b.take (k + 1)) out1 = putK blt Chg.p out x) := Lib.hid (by rw [HT.out, foldPut_snoc, cB, HBV.out, if_neg (by decide), HOUT.out])
            go_wp2_with (first | (first
            | (go_at_call 49; refine hcL.mono ?_; clear hcL; rintro e w2 ⟨rfl, hb2⟩; have hI2 := hI.call hb2; have hs2 : w.heap.size ≤ w2.heap.size := hI2.size_kept 3 rfl; obtain ⟨gx, hgx⟩ : ∃ gx, gx = w2.heap.size := ⟨_, rfl⟩; have hxo : ∀ g, (Value.slice A' out.length c').ownBlock = some g → g < gx := fun g hg => by rw [hgx]; exact ((hI2.at_ 0 rfl : Go.Adm.Own w2 _ _ _ _ _ _ _).lt hg).2)
            | (refine wl_store_at (hI2.new (l := chgZ) _ 70 hgx rfl) 0 rfl 70 (.tmp 11) (.tmp 87) rfl gx _ _ (chgC u) rfl (by rw [hgx]; rfl) rfl (by rw [chgC_len hu.out]; rfl) (by rw [chgC_len hu.out]; kernel_rfl) (chgC_one _) ⟨fun g' e => .inr (fun e2 => by injection e with e; have := hxo _ e2; omega), fun g' e => by injection e with e; simp only [Low.els]; omega, fun g' e => by injection e with e; simp only [Low.els]; omega, fun g' e => by injection e with e; omega, trivial⟩ ?_; intro W3 hW3 hs3; simp only [List.set_cons_zero] at hW3)) | (refine wl_load_any rfl 70 (.tmp 94) rfl (ad.add (k * 65)) rfl (chgC x) _ ((HX0.out gx _ _ _ hW3).1) Tryd.underlying70 rfl (by rw [chgC_len hx.out]; kernel_rfl) ?_) | (go_at_call 56; refine (put_any W3 W3.heap.size A' out.length c' out x (Els.of (hW3.at_ 1 rfl) (chgs_len HO32.out) (by rw [List.length_map])) HO32.out hx.out rfl (by omega) (own_le (hW3.at_ 1 rfl)) (Nat.le_refl _)).mono ?_; rintro e w5 ⟨A5, c5, rfl, ho5, hb5⟩))
            have hs5 : w.heap.size ≤ w5.heap.size := Nat.le_trans (hW3.size_kept 4 rfl) hb5.size
            have hsV : w.heap.size ≤ W3.heap.size := hW3.size_kept 4 rfl
            refine ⟨⟨k + 1, A5, c5, putK blt Chg.p out x, by omega, by go_num, rfl, HO1.out, by rw [putK_len]; omega, fun e he => ?_, hs5, ⟨ho5.less hsV, (((hW3.call hb5)).erase 0).erase 0⟩⟩, by simp [intOf]; omega⟩
            rcases (mem_putK Chg.p out x e).1 he with rfl | h
            · exact hx.out
            · exact HO32.out e h
        · have d1 : decide ((k : Int) < (n2 : Int)) = false := by simp; omega
          have HRA : Hid (refComp (lt := blt) a b = some out) := Lib.hid (by unfold refComp; rw [HFA.out, if_pos rfl, HOUT1.out, ← HOUT.out, List.take_of_length_le (by rw [HNb.out]; omega)])
          by_cases hbig : 128 < out.length
          · have d2 : decide ((128 : Int) < (out.length : Int)) = true := by simp; omega
            have hfin : Hid (rComp a b = ([], 3)) := Lib.hid (by unfold rComp; rw [HVV.out, if_pos rfl, HRA.out]; simp only; rw [if_pos hbig])
            go_wp2_with fail
            go_ret2
            rw [hfin.out]
            exact ResPost.nil rfl (hI.at_ 3 rfl).1
          · have d2 : decide ((128 : Int) < (out.length : Int)) = false := by simp; omega
            have hfin : Hid (rComp a b = (out, 0)) := Lib.hid (by unfold rComp; rw [HVV.out, if_pos rfl, HRA.out]; simp only; rw [if_neg hbig])
            go_wp2_with fail
            go_ret2
            rw [hfin.out]
            exact ⟨A', c', rfl, hI.at_ 0 rfl, (hI.at_ 3 rfl).1⟩
end Go.Proofs.YtieobkgdkiahbaaDoor

/- insert of the reference. -/
import Derived.Test.YtkcmaembpfakdaaGreatDoorSto10
set_option linter.unusedSimpArgs false
set_option linter.unusedVariables false
set_option maxRecDepth 100000
namespace Go.Adm
open Go Go.RowKit
def JIns (rs : List Res) (fs : List VF) (O0 : World → Prop) (s0 : Nat) (L : Nat → Bool) (vs : Nat → Value) (w : World) : Prop :=
  JW 3 [2] rs fs L vs w ∧ s0 ≤ w.heap.size ∧ (L 3 = false → O0 w)
section
variable {s0 : Nat} {rs : List Res} {fs : List VF} {O0 : World → Prop} {L : Nat → Bool} {vs : Nat → Value} {w w' : World}
theorem JIns.quiet {k : Nat} {v : Value} (h : JIns rs fs O0 s0 L vs w) (hg : w.grownBy w' none) (h3 : k ≠ 3) (hO : O0 w → O0 w') (hv : VF.at fs k v w') :
    JIns rs fs O0 s0 (markC L k) (fun i => if i = k then v else vs i) w' := by
  refine ⟨h.1.quiet hg h3 hv, Nat.le_trans h.2.1 hg.size, fun h1 => hO (h.2.2 (by simpa [markC, Ne.symm h3] using h1))⟩
theorem JIns.write {v : Value} {row : Option Nat} (h : JIns rs fs O0 s0 L vs w) (hg : w.grownBy w' row) (ha : Apart row rs) (hL : L 3 = false)
    (hs : ∀ j u, [2].contains j = false → j ≠ 3 → VF.at fs j u w → VF.at fs j u w') (hv : VF.at fs 3 v w') :
    JIns rs fs O0 s0 (markC L 3) (fun i => if i = 3 then v else vs i) w' :=
  ⟨h.1.write (h.1.1.step hg ha) hL hs hv, Nat.le_trans h.2.1 hg.size, fun h1 => by simp [markC] at h1⟩
end
end Go.Adm
namespace Go.Proofs.YtkcmaembpfakdaaGreatDoor
open Go Go.RowKit Go.Adm

set_option maxHeartbeats 3200000 in
theorem insert_any (w : World) (B : Nat) (A : Option Addr) (n c : Nat) (l : List Bl) (x : Bl) (hl : Blobs w B A n l) (hx : x.d.length = 32) (hn2 : n ≤ 1000000) (hnc : n ≤ c) (hB : B ≤ w.heap.size) :
    Calls Tryz.prog 45 #[.slice A n c, .agg (blC x).toArray] w fun e w' => ∃ A' c', e = .returned (.slice A' (n + 1) c') ∧ Go.Adm.Own w' w.heap.size 51 33 A' (n + 1) c' ((l.take (placeB l x.d) ++ x :: l.drop (placeB l x.d)).map blC).flatten ∧ Below w.heap.size w w' := by
  have hR : All w [.low (.blobs B A n l), .kept w w.heap.size] := ⟨⟨hl, hB⟩, ⟨Below.refl _ _, Nat.le_refl _⟩, trivial⟩
  have HN := Lib.hid hl.len
  have HXX := Lib.hid (blC_len hx)
  have HXD := Lib.hid hx
  have HNC := Lib.hid hnc
  have HE33 : Hid (∀ e ∈ l.map blC, e.length = 33) := Lib.hid hl.els.each
  have H32 : Hid (∀ y ∈ l, y.d.length = 32) := Lib.hid fun y hy => (hl.each y hy).d32
  have HONE : Hid (∀ l' : List Bl, ∀ u ∈ (l'.map blC).flatten, u.oneCell' = true) := Lib.hid fun l' u hu => by
    obtain ⟨es, he, hu⟩ := List.mem_flatten.1 hu
    obtain ⟨y, _, rfl⟩ := List.mem_map.1 he
    exact blC_one y u hu
  have HAP : Hid (∀ (W : World) (A0 : Option Addr) (m c0 : Nat) (xs : List Value), Go.Adm.Own W (w.heap.size + 1) 51 33 A0 m c0 xs → Apart (Value.slice A0 m c0).ownBlock [.cells w.heap.size 51 (blC x), .low (.blobs B A n l), .kept w w.heap.size]) := Lib.hid fun W A0 m c0 xs ho => by
    cases hq : (Value.slice A0 m c0).ownBlock with
    | none => exact Apart.none _
    | some g =>
      have hg := (ho.lt hq).1
      exact ⟨fun e => by injection e with e; omega, fun g' e => by injection e with e; have := hB; simp only [Low.blobs]; omega, fun g' e => by injection e with e; omega, trivial⟩
  have hR1 : All (w.alloc (.cells (blC x).toArray 51)) (.own (w.heap.size + 1) 51 33 none 0 0 (((l.take 0).map blC).flatten) :: [.cells w.heap.size 51 (blC x), .low (.blobs B A n l), .kept w w.heap.size]) := ⟨Go.Adm.Own.nil _ _ _ _, hR.new (l := blC x) _ _ rfl rfl⟩
  clear hl hx hR hnc
  have hs1 : w.heap.size + 1 ≤ (w.alloc (.cells (blC x).toArray 51)).heap.size := by simp
  go_enter Tryz.func45, Tryz.ntmps45
  go_upto_region 1 with (fail)
  refine wp_genP (Pr := fun W => All W (.own (w.heap.size + 1) 51 33 none 0 0 (((l.take 0).map blC).flatten) :: [.cells w.heap.size 51 (blC x), .low (.blobs B A n l), .kept w w.heap.size]) ∧ w.heap.size + 1 ≤ W.heap.size) ⟨hR1, hs1⟩ ?_
  clear hR1 hs1
  rintro W1 ⟨hI0, hs0⟩
  go_wp2
  go_loopw [5, 6] (fun v i wr => ∃ (k : Nat) (A' : Option Addr) (c' : Nat), k ≤ n ∧ i = .int .i64 k ∧ v = .slice A' k c' ∧ (w.heap.size + 1) ≤ wr.heap.size ∧ (∀ j (hj : j < l.length), j < k → lessD l[j].d x.d = true) ∧ All wr (.own (w.heap.size + 1) 51 33 A' k c' (((l.take k).map blC).flatten) :: [.cells w.heap.size 51 (blC x), .low (.blobs B A n l), .kept w w.heap.size])) (fun _ i _ => n - (intOf i).toNat)
  case atStart => exact ⟨0, none, 0, by omega, rfl, rfl, hs0, fun _ _ h => absurd h (by omega), hI0⟩
  case round =>
    obtain ⟨k, A', c', hk, rfl, rfl, hsr, hall, hI⟩ := hrel
    have Hall := Lib.hid hall
    clear hI0 hs0 hall
    by_cases hlt : k < n
    · have hkl : k < l.length := by rw [HN.out]; exact hlt
      have hbl := (hI.at_ 2 rfl : Blobs wr B A n l ∧ B ≤ wr.heap.size)
      obtain ⟨ad, rfl, hadB, hc⟩ := Els.elem hbl.1.els hkl
      have hy := Lib.hid (H32.out _ (List.getElem_mem hkl))
      have HY : Hid (∀ W, All W (.own (w.heap.size + 1) 51 33 A' k c' (((l.take k).map blC).flatten) :: [.cells w.heap.size 51 (blC x), .low (.blobs B (some ad) n l), .kept w w.heap.size]) → ∀ q s, (blC l[k])[q]? = some s → W.cell? ((ad.add (k * 33)).add q) = some s) := Lib.hid (fun W hW => by
        obtain ⟨ad', e, _, hc⟩ := Els.elem (hW.at_ 2 rfl : Blobs W B (some ad) n l ∧ B ≤ W.heap.size).1.els hkl
        obtain rfl := Option.some.inj e
        exact hc)
      have HM : Hid (lessD l[k].d x.d = true → ∀ j (hj : j < l.length), j < k + 1 → lessD l[j].d x.d = true) := Lib.hid (fun h j hj h2 => by
        rcases Nat.lt_succ_iff_lt_or_eq.1 h2 with h4 | h4
        · exact Hall.out j hj h4
        · subst h4; exact h)
      have HPUT' : Hid (lessD l[k].d x.d = false → placeB l x.d = k) := Lib.hid (fun h => placeB_eq (by omega) (fun j hj h2 => Hall.out j hj h2) (fun _ => h))
      have HT : Hid (l.take (k + 1) = l.take k ++ [l[k]]) := Lib.hid (List.take_succ_eq_append_getElem hkl)
      clear hc hbl
      generalize l[k] = y at *
      have d1 : decide ((k : Int) < (n : Int)) = true := by simp; omega
      have wk0 : (0 : Int) ≤ (k : Int) := by omega
      have wk1 : (k : Int) < (n : Int) := by omega
      have wk2 : ((k : Int)).toNat = k := by omega
      go_upto_region 3 with (fail)
      cases hb : lessD y.d x.d with
      | true =>
        have hm := Lib.hid (HM.out hb)
        have HB := Lib.hid hb
        clear hb
        refine wp_region_hopsH 13 (7 :: 8 :: 9 :: 10 :: 11 :: 12 :: 13 :: 14 :: 15 :: 16 :: 17 :: 18 :: 19 :: []) (.own (w.heap.size + 1) 51 33 A' k c' (((l.take k).map blC).flatten) :: [.cells w.heap.size 51 (blC x), .low (.blobs B (some ad) n l), .kept w w.heap.size])
          (.eq (.int .i64 k) :: .eq (.slice (some ad) n c) :: .eq (.int .i64 (n : Int)) :: .eq (.bool true) :: .eq (.bool true) :: .eq (.slice (some ad) n c) :: .eq (.int .i64 k) :: .eq (.pointer (some (ad.add (k * 33)))) :: .eq (.pointer (some (ad.add (k * 33)))) :: .eq (.agg (y.d.map bv).toArray) :: .eq (.pointer (some ⟨w.heap.size, 0, none⟩)) :: .eq (.agg (x.d.map bv).toArray) :: .eq (.bool true) :: [])
          (by kernel_rfl) (by kernel_rfl) hI rfl ?hops ?fin
        case hops =>
          refine ⟨?_, ?_, ?_, ?_, ?_, ?_, ?_, ?_, ?_, ?_, ?_, ?_, ?_, trivial⟩
          · intro a W hW hb hd K hK
            have b6 := hb 6 rfl
            go_simp
            exact hK _ _ (World.grownBy.refl _ _) rfl
          · intro a W hW hb hd K hK
            have b0 := hb 0 rfl
            go_simp
            exact hK _ _ (World.grownBy.refl _ _) rfl
          · intro a W hW hb hd K hK
            have b8 : a.tmps[8]?.getD undef = _ := hd ⟨1, .data⟩ (by simp) rfl
            go_simp
            exact hK _ _ (World.grownBy.refl _ _) rfl
          · intro a W hW hb hd K hK
            have b7 : a.tmps[7]?.getD undef = _ := hd ⟨0, .data⟩ (by simp) rfl
            have b9 : a.tmps[9]?.getD undef = _ := hd ⟨2, .data⟩ (by simp) rfl
            go_simp
            exact hK _ _ (World.grownBy.refl _ _) rfl
          · intro a W hW hb hd K hK
            have b10 : a.tmps[10]?.getD undef = _ := hd ⟨3, .data⟩ (by simp) rfl
            go_simp
            exact hK _ _ (World.grownBy.refl _ _) rfl
          · refine Or.inl ⟨fun v w h => h, ?_⟩
            intro a W hW hb hd K hK
            have b0 := hb 0 rfl
            go_simp
            exact hK _ _ (World.grownBy.refl _ _) rfl
          · refine Or.inl ⟨fun v w h => h, ?_⟩
            intro a W hW hb hd K hK
            have b6 := hb 6 rfl
            go_simp
            exact hK _ _ (World.grownBy.refl _ _) rfl
          · refine Or.inl ⟨fun v w h => h, ?_⟩
            intro a W hW hb hd K hK
            have b12 : a.tmps[12]?.getD undef = _ := hd ⟨5, .data⟩ (by simp) rfl
            have b13 : a.tmps[13]?.getD undef = _ := hd ⟨6, .data⟩ (by simp) rfl
            go_simp
            exact hK _ _ (World.grownBy.refl _ _) rfl
          · refine Or.inl ⟨fun v w h => h, ?_⟩
            intro a W hW hb hd K hK
            have b14 : a.tmps[14]?.getD undef = _ := hd ⟨7, .data⟩ (by simp) rfl
            go_simp
            exact hK _ _ (World.grownBy.refl _ _) (by first | rfl | (rw [add_zero]; rfl) | (simp [add_zero]; rfl))
          · refine Or.inl ⟨fun v w h => h, ?_⟩
            intro a W hW hb hd K hK
            have b15 : a.tmps[15]?.getD undef = _ := hd ⟨8, .data⟩ (by simp) rfl
            refine wp_load_any 32 (.tmp 15) rfl (ad.add (k * 33)) (show a.eval (.tmp 15) = _ from by simp only [Act.eval, Array.getD_eq_getD_getElem?]; exact b15) (y.d.map bv) _ (fun q s hs => HY.out W hW q s (by have := bl_sub0 y q s hs; rwa [Nat.zero_add] at this)) Tryz.underlying32 rfl (by rw [List.length_map, hy.out]; kernel_rfl) ?_
            exact hK _ _ (World.grownBy.refl _ _) rfl
          · refine Or.inl ⟨fun v w h => h, ?_⟩
            intro a W hW hb hd K hK
            have b3 := hb 3 rfl
            go_simp
            exact hK _ _ (World.grownBy.refl _ _) (by first | rfl | (rw [add_zero]; rfl) | (simp [add_zero]; rfl))
          · refine Or.inl ⟨fun v w h => h, ?_⟩
            intro a W hW hb hd K hK
            have b17 : a.tmps[17]?.getD undef = _ := hd ⟨10, .data⟩ (by simp) rfl
            refine wp_load_any 32 (.tmp 17) rfl ⟨w.heap.size, 0, none⟩ (show a.eval (.tmp 17) = _ from by simp only [Act.eval, Array.getD_eq_getD_getElem?]; exact b17) (x.d.map bv) _ (Cells.sub (hW.at_ 1 rfl) 0 (bl_sub0 x)) Tryz.underlying32 rfl (by rw [List.length_map, HXD.out]; kernel_rfl) ?_
            exact hK _ _ (World.grownBy.refl _ _) rfl
          · refine Or.inl ⟨fun v w h => h, ?_⟩
            intro a W hW hb hd K hK
            have b16 : a.tmps[16]?.getD undef = _ := hd ⟨9, .data⟩ (by simp) rfl
            have b18 : a.tmps[18]?.getD undef = _ := hd ⟨11, .data⟩ (by simp) rfl
            go_simp
            refine (Less_any W y.d x.d hy.out HXD.out).mono ?_
            rintro e w' ⟨rfl, hb'⟩
            exact hK _ _ (grown_of_below hb') (congrArg Value.bool HB.out)
        case fin =>
          intro vs wq hI1 hv
          have e4 : vs 4 = _ := hv 4 (by decide)
          have e12 : vs 12 = _ := hv 12 (by decide)
          clear hv
          simp only [putAll, List.drop_succ_cons, List.drop_zero, e4, e12, Act.put, List.setIfInBounds_toArray, List.set_cons_succ, List.set_cons_zero]
          clear e4 e12
          have hsr1 : (w.heap.size + 1) ≤ wq.heap.size := Cells.lt (hI1.at_ 1 rfl)
          clear hI hsr
          have HC1 := Lib.hid (HY.out wq hI1)
          go_wp2_with (first
            | (refine wl_load_any rfl 51 (.tmp 24) rfl (ad.add (k * 33)) rfl (blC y) _ HC1.out Tryz.underlying51 rfl (by rw [blC_len hy.out]; kernel_rfl) ?_)
            | (refine wl_lit1 el_bl rfl _ rfl (blC y) rfl (blC_len hy.out) (by decide) ?_)
            | (at_builtin; refine wl_app_at el_bl (hI1.alloc _) 0 rfl (.tmp 21) (.tmp 26) rfl (w.heap.size + 1) _ _ _ _ rfl rfl (wq.heap.size + 1) _ 1 1 (blC y) rfl (Rd.lit wq (blC y).toArray _ 1 (by rw [List.size_toArray]; exact blC_len hy.out)) (blC_one _) (by omega) (by simp; omega) (by intro g hg h; simp [Apart, Res.apart, Low.blobs] <;> omega) ?_; intro A7 c7 w7 hI7 hs7))
          refine ⟨⟨k + 1, A7, c7, by omega, by go_num, rfl, by simp at hs7; omega, hm.out, ?_⟩, by simp [intOf]; omega⟩
          rw [HT.out, List.map_append, List.flatten_append]
          simpa using hI7
      | false =>
        have HP := Lib.hid (HPUT'.out hb)
        have HB := Lib.hid hb
        clear hb
        refine wp_region_hopsH 13 (7 :: 8 :: 9 :: 10 :: 11 :: 12 :: 13 :: 14 :: 15 :: 16 :: 17 :: 18 :: 19 :: []) (.own (w.heap.size + 1) 51 33 A' k c' (((l.take k).map blC).flatten) :: [.cells w.heap.size 51 (blC x), .low (.blobs B (some ad) n l), .kept w w.heap.size])
          (.eq (.int .i64 k) :: .eq (.slice (some ad) n c) :: .eq (.int .i64 (n : Int)) :: .eq (.bool true) :: .eq (.bool true) :: .eq (.slice (some ad) n c) :: .eq (.int .i64 k) :: .eq (.pointer (some (ad.add (k * 33)))) :: .eq (.pointer (some (ad.add (k * 33)))) :: .eq (.agg (y.d.map bv).toArray) :: .eq (.pointer (some ⟨w.heap.size, 0, none⟩)) :: .eq (.agg (x.d.map bv).toArray) :: .eq (.bool false) :: [])
          (by kernel_rfl) (by kernel_rfl) hI rfl ?hops ?fin
        case hops =>
          refine ⟨?_, ?_, ?_, ?_, ?_, ?_, ?_, ?_, ?_, ?_, ?_, ?_, ?_, trivial⟩
          · intro a W hW hb hd K hK
            have b6 := hb 6 rfl
            go_simp
            exact hK _ _ (World.grownBy.refl _ _) rfl
          · intro a W hW hb hd K hK
            have b0 := hb 0 rfl
            go_simp
            exact hK _ _ (World.grownBy.refl _ _) rfl
          · intro a W hW hb hd K hK
            have b8 : a.tmps[8]?.getD undef = _ := hd ⟨1, .data⟩ (by simp) rfl
            go_simp
            exact hK _ _ (World.grownBy.refl _ _) rfl
          · intro a W hW hb hd K hK
            have b7 : a.tmps[7]?.getD undef = _ := hd ⟨0, .data⟩ (by simp) rfl
            have b9 : a.tmps[9]?.getD undef = _ := hd ⟨2, .data⟩ (by simp) rfl
            go_simp
            exact hK _ _ (World.grownBy.refl _ _) rfl
          · intro a W hW hb hd K hK
            have b10 : a.tmps[10]?.getD undef = _ := hd ⟨3, .data⟩ (by simp) rfl
            go_simp
            exact hK _ _ (World.grownBy.refl _ _) rfl
          · refine Or.inl ⟨fun v w h => h, ?_⟩
            intro a W hW hb hd K hK
            have b0 := hb 0 rfl
            go_simp
            exact hK _ _ (World.grownBy.refl _ _) rfl
          · refine Or.inl ⟨fun v w h => h, ?_⟩
            intro a W hW hb hd K hK
            have b6 := hb 6 rfl
            go_simp
            exact hK _ _ (World.grownBy.refl _ _) rfl
          · refine Or.inl ⟨fun v w h => h, ?_⟩
            intro a W hW hb hd K hK
            have b12 : a.tmps[12]?.getD undef = _ := hd ⟨5, .data⟩ (by simp) rfl
            have b13 : a.tmps[13]?.getD undef = _ := hd ⟨6, .data⟩ (by simp) rfl
            go_simp
            exact hK _ _ (World.grownBy.refl _ _) rfl
          · refine Or.inl ⟨fun v w h => h, ?_⟩
            intro a W hW hb hd K hK
            have b14 : a.tmps[14]?.getD undef = _ := hd ⟨7, .data⟩ (by simp) rfl
            go_simp
            exact hK _ _ (World.grownBy.refl _ _) (by first | rfl | (rw [add_zero]; rfl) | (simp [add_zero]; rfl))
          · refine Or.inl ⟨fun v w h => h, ?_⟩
            intro a W hW hb hd K hK
            have b15 : a.tmps[15]?.getD undef = _ := hd ⟨8, .data⟩ (by simp) rfl
            refine wp_load_any 32 (.tmp 15) rfl (ad.add (k * 33)) (show a.eval (.tmp 15) = _ from by simp only [Act.eval, Array.getD_eq_getD_getElem?]; exact b15) (y.d.map bv) _ (fun q s hs => HY.out W hW q s (by have := bl_sub0 y q s hs; rwa [Nat.zero_add] at this)) Tryz.underlying32 rfl (by rw [List.length_map, hy.out]; kernel_rfl) ?_
            exact hK _ _ (World.grownBy.refl _ _) rfl
          · refine Or.inl ⟨fun v w h => h, ?_⟩
            intro a W hW hb hd K hK
            have b3 := hb 3 rfl
            go_simp
            exact hK _ _ (World.grownBy.refl _ _) (by first | rfl | (rw [add_zero]; rfl) | (simp [add_zero]; rfl))
          · refine Or.inl ⟨fun v w h => h, ?_⟩
            intro a W hW hb hd K hK
            have b17 : a.tmps[17]?.getD undef = _ := hd ⟨10, .data⟩ (by simp) rfl
            refine wp_load_any 32 (.tmp 17) rfl ⟨w.heap.size, 0, none⟩ (show a.eval (.tmp 17) = _ from by simp only [Act.eval, Array.getD_eq_getD_getElem?]; exact b17) (x.d.map bv) _ (Cells.sub (hW.at_ 1 rfl) 0 (bl_sub0 x)) Tryz.underlying32 rfl (by rw [List.length_map, HXD.out]; kernel_rfl) ?_
            exact hK _ _ (World.grownBy.refl _ _) rfl
          · refine Or.inl ⟨fun v w h => h, ?_⟩
            intro a W hW hb hd K hK
            have b16 : a.tmps[16]?.getD undef = _ := hd ⟨9, .data⟩ (by simp) rfl
            have b18 : a.tmps[18]?.getD undef = _ := hd ⟨11, .data⟩ (by simp) rfl
            go_simp
            refine (Less_any W y.d x.d hy.out HXD.out).mono ?_
            rintro e w' ⟨rfl, hb'⟩
            exact hK _ _ (grown_of_below hb') (congrArg Value.bool HB.out)
        case fin =>
          intro vs wq hI1 hv
          have e4 : vs 4 = _ := hv 4 (by decide)
          have e12 : vs 12 = _ := hv 12 (by decide)
          clear hv
          simp only [putAll, List.drop_succ_cons, List.drop_zero, e4, e12, Act.put, List.setIfInBounds_toArray, List.set_cons_succ, List.set_cons_zero]
          clear e4 e12
          have hsr1 : (w.heap.size + 1) ≤ wq.heap.size := Cells.lt (hI1.at_ 1 rfl)
          clear hI hsr
          have hI := hI1
          have hsr := hsr1
          clear hI1 hsr1
          generalize wq = wr at *
          go_upto_region 6 with (fail)
          refine wp_region_cut 7 [30, 31, 32, 33, 34, 35, 36] (JIns [.cells w.heap.size 51 (blC x), .low (.blobs B (some ad) n l), .kept w w.heap.size]
            [.eq (.slice A' k c'), .eq (.agg (blC x).toArray), .rd 33 1 (blC x), .own (w.heap.size + 1) 51 33 (k + 1) ((((l.take k).map blC).flatten) ++ blC x), .eq (.slice (some ad) n c), .eq (.int .i64 k), .gen (fun _ v => ∃ A6 c6, v = .slice A6 (n - k) c6 ∧ ∀ W, All W [.cells w.heap.size 51 (blC x), .low (.blobs B (some ad) n l), .kept w w.heap.size] → Rd W B 33 A6 (n - k) (((l.drop k).map blC).flatten)) (fun _ _ _ _ h => h)]
            (fun W => Go.Adm.Own W (w.heap.size + 1) 51 33 A' k c' (((l.take k).map blC).flatten)) (w.heap.size + 1))
            (by kernel_rfl) (by kernel_rfl) ⟨JW.start ⟨hI.drew.at_ 1 rfl, hI.drew.at_ 2 rfl, hI.drew.at_ 3 rfl, trivial⟩, hsr, fun _ => hI.drew.at_ 0 rfl⟩ rfl ?hops ?fin
          case hops =>
            refine ⟨?_, ?_, ?_, ?_, ?_, ?_, ?_, trivial⟩
            · refine ⟨rfl, ?_⟩
              intro a W L vs hJ hk hb0 hd K hK
              have b5 := hb0 5 rfl
              go_simp
              exact hK _ _ (hJ.quiet (World.grownBy.refl _ _) (by decide) (fun h => h) rfl)
            · refine ⟨rfl, ?_⟩
              intro a W L vs hJ hk hb0 hd K hK
              have b3 := hb0 3 rfl
              refine wp_load_any 51 (.tmp 3) rfl ⟨w.heap.size, 0, none⟩ (show a.eval (.tmp 3) = _ from by simp only [Act.eval, Array.getD_eq_getD_getElem?]; exact b3) (blC x) _ (Cells.sub (hJ.1.1.at_ 0 rfl) 0 (fun j u hu => by rw [Nat.zero_add]; exact hu)) Tryz.underlying51 rfl (by rw [HXX.out]; kernel_rfl) ?_
              exact hK _ _ (hJ.quiet (World.grownBy.refl _ _) (by decide) (fun h => h) rfl)
            · refine ⟨rfl, ?_⟩
              intro a W L vs hJ hk hb0 hd K hK
              obtain ⟨h1, b31⟩ := hd ⟨1, .data⟩ (by simp) rfl
              replace b31 : a.tmps[31]?.getD undef = vs 1 := b31
              rw [show vs 1 = _ from hJ.1.get h1 (fun _ => by decide)] at b31
              refine wp_lit1 el_bl (.tmp 31) rfl (blC x) (show a.eval (.tmp 31) = _ from by simp only [Act.eval, Array.getD_eq_getD_getElem?]; exact b31) HXX.out (by decide) ?_
              exact hK _ _ (hJ.quiet (grown_alloc _ _) (by decide) (fun h => h.alloc _) ⟨_, _, rfl, (Rd.lit W (blC x).toArray _ 1 (by rw [List.size_toArray]; exact HXX.out)).mono (by simp)⟩)
            · refine ⟨rfl, ?_⟩
              intro a W L vs hJ hk hb0 hd K hK
              obtain ⟨h0, b30⟩ := hd ⟨0, .data⟩ (by simp) rfl
              replace b30 : a.tmps[30]?.getD undef = vs 0 := b30
              rw [show vs 0 = _ from hJ.1.get h0 (fun _ => by decide)] at b30
              obtain ⟨h2, b32⟩ := hd ⟨2, .data⟩ (by simp) rfl
              replace b32 : a.tmps[32]?.getD undef = vs 2 := b32
              obtain ⟨A9, c9, e2, hrd⟩ : ∃ A9 c9, vs 2 = .slice A9 1 c9 ∧ Rd W W.heap.size 33 A9 1 (blC x) := hJ.1.get h2 (fun h3 => by rw [hk] at h3; cases h3)
              rw [e2] at b32
              have hown := hJ.2.2 hk
              refine wp_app6 _ el_bl (.tmp 30) (.tmp 32) rfl (w.heap.size + 1) A' k c' _ (show a.eval (.tmp 30) = _ from by simp only [Act.eval, Array.getD_eq_getD_getElem?]; exact b30) hown W.heap.size A9 1 c9 (blC x) (show a.eval (.tmp 32) = _ from by simp only [Act.eval, Array.getD_eq_getD_getElem?]; exact b32) hrd (blC_one _) (by omega) hJ.2.1 ?_
              intro A3 c3 w3 hown3 hg3 hob3
              refine hK _ _ (hJ.write hg3 (HAP.out _ _ _ _ _ hown) hk ?_ ⟨Nat.le_trans hJ.2.1 hg3.size, A3, c3, rfl, hown3⟩)
              intro j u hb hne hf
              match j, hb, hne, hf with
              | 0, _, _, hf => exact hf
              | 1, _, _, hf => exact hf
              | 2, hb, _, _ => exact absurd hb (by decide)
              | 3, _, hne, _ => exact absurd rfl hne
              | 4, _, _, hf => exact hf
              | 5, _, _, hf => exact hf
              | 6, _, _, hf => exact hf
              | _ + 7, _, _, hf => exact hf
            · refine ⟨rfl, ?_⟩
              intro a W L vs hJ hk hb0 hd K hK
              have b0 := hb0 0 rfl
              go_simp
              exact hK _ _ (hJ.quiet (World.grownBy.refl _ _) (by decide) (fun h => h) rfl)
            · refine ⟨rfl, ?_⟩
              intro a W L vs hJ hk hb0 hd K hK
              have b6 := hb0 6 rfl
              go_simp
              exact hK _ _ (hJ.quiet (World.grownBy.refl _ _) (by decide) (fun h => h) rfl)
            · refine ⟨rfl, ?_⟩
              intro a W L vs hJ hk hb0 hd K hK
              obtain ⟨h4, b34⟩ := hd ⟨4, .data⟩ (by simp) rfl
              replace b34 : a.tmps[34]?.getD undef = vs 4 := b34
              rw [show vs 4 = _ from hJ.1.get h4 (fun _ => by decide)] at b34
              obtain ⟨h5, b35⟩ := hd ⟨5, .data⟩ (by simp) rfl
              replace b35 : a.tmps[35]?.getD undef = vs 5 := b35
              rw [show vs 5 = _ from hJ.1.get h5 (fun _ => by decide)] at b35
              have d2 : 0 ≤ (k : Int) ∧ (k : Int) ≤ (n : Int) := by omega
              have d3 : ((k : Int)).toNat = k := by omega
              have hr : ∀ W, All W [.cells w.heap.size 51 (blC x), .low (.blobs B (some ad) n l), .kept w w.heap.size] → Rd W B 33 (if c = k then (some ad) else (some ad : Option Addr).map (·.add (k * 33))) (n - k) (((l.drop k).map blC).flatten) := fun W hW => by
                have hE : Blobs W B (some ad) n l ∧ B ≤ W.heap.size := hW.at_ 1 rfl
                have := hE.1.els.rd.cut (k := k) (cap := c) (by omega) HNC.out
                rw [List.map_drop, ← flat_drop k HE33.out]
                exact this
              go_simp
              exact hK _ _ (hJ.quiet (World.grownBy.refl _ _) (by decide) (fun h => h) ⟨_, _, rfl, hr⟩)
          case fin =>
            intro vs W L hJ hall
            obtain ⟨hbs, A3, c3, e3, hown⟩ : (w.heap.size + 1) ≤ W.heap.size ∧ ∃ A3 c3, vs 3 = .slice A3 (k + 1) c3 ∧ Go.Adm.Own W (w.heap.size + 1) 51 33 A3 (k + 1) c3 ((((l.take k).map blC).flatten) ++ blC x) := hJ.1.get (hall 3 (by decide)) (fun _ => by decide)
            obtain ⟨A6, c6, e6, hrd⟩ : ∃ A6 c6, vs 6 = .slice A6 (n - k) c6 ∧ ∀ W, All W [.cells w.heap.size 51 (blC x), .low (.blobs B (some ad) n l), .kept w w.heap.size] → Rd W B 33 A6 (n - k) (((l.drop k).map blC).flatten) := hJ.1.get (hall 6 (by decide)) (fun _ => by decide)
            have hW := hJ.1.1
            clear hJ hall
            simp only [putAll, List.drop_succ_cons, List.drop_zero, e3, e6, Act.put, List.setIfInBounds_toArray, List.set_cons_succ, List.set_cons_zero]
            clear e3 e6
            have hr := hrd W hW
            have ha := HAP.out _ _ _ _ _ hown
            clear hrd hI
            go_wp2_with (at_builtin; refine wl_app6 _ el_bl rfl (.tmp 33) (.tmp 36) rfl (w.heap.size + 1) A3 (k + 1) c3 _ rfl hown B A6 (n - k) c6 _ rfl hr (HONE.out _) (by omega) hbs ?_; intro A7 c7 w7 hown7 hg7 hob7)
            go_ret
            have hW7 := hW.step hg7 ha
            refine ⟨A7, c7, by rw [show k + 1 + (n - k) = n + 1 by omega]; rfl, ?_, (hW7.at_ 2 rfl : _ ∧ _).1⟩
            rw [HP.out]
            refine (hown7.less (by omega)).cast (by omega) ?_
            rw [List.map_append, List.map_cons, List.flatten_append, List.flatten_cons, List.append_assoc]
    · have d1 : decide ((k : Int) < (n : Int)) = false := by simp; omega
      have HP : Hid (placeB l x.d = k) := Lib.hid (placeB_eq (by rw [HN.out]; omega) (fun j hj h2 => Hall.out j hj h2) (fun h => by rw [HN.out] at h; omega))
      go_upto_region 3 with (fail)
      refine wp_region_hopsH 13 (7 :: 8 :: 9 :: 10 :: 11 :: 12 :: 13 :: 14 :: 15 :: 16 :: 17 :: 18 :: 19 :: []) (.own (w.heap.size + 1) 51 33 A' k c' (((l.take k).map blC).flatten) :: [.cells w.heap.size 51 (blC x), .low (.blobs B A n l), .kept w w.heap.size])
        (.eq (.int .i64 k) :: .eq (.slice A n c) :: .eq (.int .i64 (n : Int)) :: .eq (.bool false) :: .eq (.bool false) :: .eq undef :: .eq undef :: .eq undef :: .eq undef :: .eq undef :: .eq undef :: .eq undef :: .eq undef :: [])
        (by kernel_rfl) (by kernel_rfl) hI rfl ?hops ?fin
      case hops =>
        refine ⟨?_, ?_, ?_, ?_, ?_, ?_, ?_, ?_, ?_, ?_, ?_, ?_, ?_, trivial⟩
        · intro a W hW hb hd K hK
          have b6 := hb 6 rfl
          go_simp
          exact hK _ _ (World.grownBy.refl _ _) rfl
        · intro a W hW hb hd K hK
          have b0 := hb 0 rfl
          go_simp
          exact hK _ _ (World.grownBy.refl _ _) rfl
        · intro a W hW hb hd K hK
          have b8 : a.tmps[8]?.getD undef = _ := hd ⟨1, .data⟩ (by simp) rfl
          go_simp
          exact hK _ _ (World.grownBy.refl _ _) rfl
        · intro a W hW hb hd K hK
          have b7 : a.tmps[7]?.getD undef = _ := hd ⟨0, .data⟩ (by simp) rfl
          have b9 : a.tmps[9]?.getD undef = _ := hd ⟨2, .data⟩ (by simp) rfl
          go_simp
          exact hK _ _ (World.grownBy.refl _ _) rfl
        · intro a W hW hb hd K hK
          have b10 : a.tmps[10]?.getD undef = _ := hd ⟨3, .data⟩ (by simp) rfl
          go_simp
          exact hK _ _ (World.grownBy.refl _ _) rfl
        · exact Or.inr ⟨fun v w h => by rw [show v = _ from h]; first | (intro h2; cases h2) | (simp [undef]), fun w => rfl⟩
        · exact Or.inr ⟨fun v w h => by rw [show v = _ from h]; first | (intro h2; cases h2) | (simp [undef]), fun w => rfl⟩
        · exact Or.inr ⟨fun v w h => by rw [show v = _ from h]; first | (intro h2; cases h2) | (simp [undef]), fun w => rfl⟩
        · exact Or.inr ⟨fun v w h => by rw [show v = _ from h]; first | (intro h2; cases h2) | (simp [undef]), fun w => rfl⟩
        · exact Or.inr ⟨fun v w h => by rw [show v = _ from h]; first | (intro h2; cases h2) | (simp [undef]), fun w => rfl⟩
        · exact Or.inr ⟨fun v w h => by rw [show v = _ from h]; first | (intro h2; cases h2) | (simp [undef]), fun w => rfl⟩
        · exact Or.inr ⟨fun v w h => by rw [show v = _ from h]; first | (intro h2; cases h2) | (simp [undef]), fun w => rfl⟩
        · exact Or.inr ⟨fun v w h => by rw [show v = _ from h]; first | (intro h2; cases h2) | (simp [undef]), fun w => rfl⟩
      case fin =>
        intro vs wq hI1 hv
        have e4 : vs 4 = _ := hv 4 (by decide)
        have e12 : vs 12 = _ := hv 12 (by decide)
        clear hv
        simp only [putAll, List.drop_succ_cons, List.drop_zero, e4, e12, Act.put, List.setIfInBounds_toArray, List.set_cons_succ, List.set_cons_zero]
        clear e4 e12
        have hsr1 : (w.heap.size + 1) ≤ wq.heap.size := Cells.lt (hI1.at_ 1 rfl)
        clear hI hsr
        have hI := hI1
        have hsr := hsr1
        clear hI1 hsr1
        go_upto_region 6 with (fail)
        refine wp_region_cut 7 [30, 31, 32, 33, 34, 35, 36] (JIns [.cells w.heap.size 51 (blC x), .low (.blobs B A n l), .kept w w.heap.size]
          [.eq (.slice A' k c'), .eq (.agg (blC x).toArray), .rd 33 1 (blC x), .own (w.heap.size + 1) 51 33 (k + 1) ((((l.take k).map blC).flatten) ++ blC x), .eq (.slice A n c), .eq (.int .i64 k), .gen (fun _ v => ∃ A6 c6, v = .slice A6 (n - k) c6 ∧ ∀ W, All W [.cells w.heap.size 51 (blC x), .low (.blobs B A n l), .kept w w.heap.size] → Rd W B 33 A6 (n - k) (((l.drop k).map blC).flatten)) (fun _ _ _ _ h => h)]
          (fun W => Go.Adm.Own W (w.heap.size + 1) 51 33 A' k c' (((l.take k).map blC).flatten)) (w.heap.size + 1))
          (by kernel_rfl) (by kernel_rfl) ⟨JW.start ⟨hI.drew.at_ 1 rfl, hI.drew.at_ 2 rfl, hI.drew.at_ 3 rfl, trivial⟩, hsr, fun _ => hI.drew.at_ 0 rfl⟩ rfl ?hops ?fin
        case hops =>
          refine ⟨?_, ?_, ?_, ?_, ?_, ?_, ?_, trivial⟩
          · refine ⟨rfl, ?_⟩
            intro a W L vs hJ hk hb0 hd K hK
            have b5 := hb0 5 rfl
            go_simp
            exact hK _ _ (hJ.quiet (World.grownBy.refl _ _) (by decide) (fun h => h) rfl)
          · refine ⟨rfl, ?_⟩
            intro a W L vs hJ hk hb0 hd K hK
            have b3 := hb0 3 rfl
            refine wp_load_any 51 (.tmp 3) rfl ⟨w.heap.size, 0, none⟩ (show a.eval (.tmp 3) = _ from by simp only [Act.eval, Array.getD_eq_getD_getElem?]; exact b3) (blC x) _ (Cells.sub (hJ.1.1.at_ 0 rfl) 0 (fun j u hu => by rw [Nat.zero_add]; exact hu)) Tryz.underlying51 rfl (by rw [HXX.out]; kernel_rfl) ?_
            exact hK _ _ (hJ.quiet (World.grownBy.refl _ _) (by decide) (fun h => h) rfl)
          · refine ⟨rfl, ?_⟩
            intro a W L vs hJ hk hb0 hd K hK
            obtain ⟨h1, b31⟩ := hd ⟨1, .data⟩ (by simp) rfl
            replace b31 : a.tmps[31]?.getD undef = vs 1 := b31
            rw [show vs 1 = _ from hJ.1.get h1 (fun _ => by decide)] at b31
            refine wp_lit1 el_bl (.tmp 31) rfl (blC x) (show a.eval (.tmp 31) = _ from by simp only [Act.eval, Array.getD_eq_getD_getElem?]; exact b31) HXX.out (by decide) ?_
            exact hK _ _ (hJ.quiet (grown_alloc _ _) (by decide) (fun h => h.alloc _) ⟨_, _, rfl, (Rd.lit W (blC x).toArray _ 1 (by rw [List.size_toArray]; exact HXX.out)).mono (by simp)⟩)
          · refine ⟨rfl, ?_⟩
            intro a W L vs hJ hk hb0 hd K hK
            obtain ⟨h0, b30⟩ := hd ⟨0, .data⟩ (by simp) rfl
            replace b30 : a.tmps[30]?.getD undef = vs 0 := b30
            rw [show vs 0 = _ from hJ.1.get h0 (fun _ => by decide)] at b30
            obtain ⟨h2, b32⟩ := hd ⟨2, .data⟩ (by simp) rfl
            replace b32 : a.tmps[32]?.getD undef = vs 2 := b32
            obtain ⟨A9, c9, e2, hrd⟩ : ∃ A9 c9, vs 2 = .slice A9 1 c9 ∧ Rd W W.heap.size 33 A9 1 (blC x) := hJ.1.get h2 (fun h3 => by rw [hk] at h3; cases h3)
            rw [e2] at b32
            have hown := hJ.2.2 hk
            refine wp_app6 _ el_bl (.tmp 30) (.tmp 32) rfl (w.heap.size + 1) A' k c' _ (show a.eval (.tmp 30) = _ from by simp only [Act.eval, Array.getD_eq_getD_getElem?]; exact b30) hown W.heap.size A9 1 c9 (blC x) (show a.eval (.tmp 32) = _ from by simp only [Act.eval, Array.getD_eq_getD_getElem?]; exact b32) hrd (blC_one _) (by omega) hJ.2.1 ?_
            intro A3 c3 w3 hown3 hg3 hob3
            refine hK _ _ (hJ.write hg3 (HAP.out _ _ _ _ _ hown) hk ?_ ⟨Nat.le_trans hJ.2.1 hg3.size, A3, c3, rfl, hown3⟩)
            intro j u hb hne hf
            match j, hb, hne, hf with
            | 0, _, _, hf => exact hf
            | 1, _, _, hf => exact hf
            | 2, hb, _, _ => exact absurd hb (by decide)
            | 3, _, hne, _ => exact absurd rfl hne
            | 4, _, _, hf => exact hf
            | 5, _, _, hf => exact hf
            | 6, _, _, hf => exact hf
            | _ + 7, _, _, hf => exact hf
          · refine ⟨rfl, ?_⟩
            intro a W L vs hJ hk hb0 hd K hK
            have b0 := hb0 0 rfl
            go_simp
            exact hK _ _ (hJ.quiet (World.grownBy.refl _ _) (by decide) (fun h => h) rfl)
          · refine ⟨rfl, ?_⟩
            intro a W L vs hJ hk hb0 hd K hK
            have b6 := hb0 6 rfl
            go_simp
            exact hK _ _ (hJ.quiet (World.grownBy.refl _ _) (by decide) (fun h => h) rfl)
          · refine ⟨rfl, ?_⟩
            intro a W L vs hJ hk hb0 hd K hK
            obtain ⟨h4, b34⟩ := hd ⟨4, .data⟩ (by simp) rfl
            replace b34 : a.tmps[34]?.getD undef = vs 4 := b34
            rw [show vs 4 = _ from hJ.1.get h4 (fun _ => by decide)] at b34
            obtain ⟨h5, b35⟩ := hd ⟨5, .data⟩ (by simp) rfl
            replace b35 : a.tmps[35]?.getD undef = vs 5 := b35
            rw [show vs 5 = _ from hJ.1.get h5 (fun _ => by decide)] at b35
            have d2 : 0 ≤ (k : Int) ∧ (k : Int) ≤ (n : Int) := by omega
            have d3 : ((k : Int)).toNat = k := by omega
            have hr : ∀ W, All W [.cells w.heap.size 51 (blC x), .low (.blobs B A n l), .kept w w.heap.size] → Rd W B 33 (if c = k then A else A.map (·.add (k * 33))) (n - k) (((l.drop k).map blC).flatten) := fun W hW => by
              have hE : Blobs W B A n l ∧ B ≤ W.heap.size := hW.at_ 1 rfl
              have := hE.1.els.rd.cut (k := k) (cap := c) (by omega) HNC.out
              rw [List.map_drop, ← flat_drop k HE33.out]
              exact this
            go_simp
            exact hK _ _ (hJ.quiet (World.grownBy.refl _ _) (by decide) (fun h => h) ⟨_, _, rfl, hr⟩)
        case fin =>
          intro vs W L hJ hall
          obtain ⟨hbs, A3, c3, e3, hown⟩ : (w.heap.size + 1) ≤ W.heap.size ∧ ∃ A3 c3, vs 3 = .slice A3 (k + 1) c3 ∧ Go.Adm.Own W (w.heap.size + 1) 51 33 A3 (k + 1) c3 ((((l.take k).map blC).flatten) ++ blC x) := hJ.1.get (hall 3 (by decide)) (fun _ => by decide)
          obtain ⟨A6, c6, e6, hrd⟩ : ∃ A6 c6, vs 6 = .slice A6 (n - k) c6 ∧ ∀ W, All W [.cells w.heap.size 51 (blC x), .low (.blobs B A n l), .kept w w.heap.size] → Rd W B 33 A6 (n - k) (((l.drop k).map blC).flatten) := hJ.1.get (hall 6 (by decide)) (fun _ => by decide)
          have hW := hJ.1.1
          clear hJ hall
          simp only [putAll, List.drop_succ_cons, List.drop_zero, e3, e6, Act.put, List.setIfInBounds_toArray, List.set_cons_succ, List.set_cons_zero]
          clear e3 e6
          have hr := hrd W hW
          have ha := HAP.out _ _ _ _ _ hown
          clear hrd hI
          go_wp2_with (at_builtin; refine wl_app6 _ el_bl rfl (.tmp 33) (.tmp 36) rfl (w.heap.size + 1) A3 (k + 1) c3 _ rfl hown B A6 (n - k) c6 _ rfl hr (HONE.out _) (by omega) hbs ?_; intro A7 c7 w7 hown7 hg7 hob7)
          go_ret
          have hW7 := hW.step hg7 ha
          refine ⟨A7, c7, by rw [show k + 1 + (n - k) = n + 1 by omega]; rfl, ?_, (hW7.at_ 2 rfl : _ ∧ _).1⟩
          rw [HP.out]
          refine (hown7.less (by omega)).cast (by omega) ?_
          rw [List.map_append, List.map_cons, List.flatten_append, List.flatten_cons, List.append_assoc]
end Go.Proofs.YtkcmaembpfakdaaGreatDoor

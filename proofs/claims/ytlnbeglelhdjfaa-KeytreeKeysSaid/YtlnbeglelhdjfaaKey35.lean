/- The law KeytreeKeys. -/
import Derived.Test.YtlnbeglelhdjfaaKey33
set_option linter.unusedSimpArgs false
set_option linter.unusedVariables false
namespace Go.Adm
open Go Go.RowKit
theorem pk_root {w : World} {g : Nat} {t : TypeId} {h : Int} {r : List UInt8} (hr : r.length = 16) (hc : Cells w g t (pkCells h r)) : ∀ j u, (r.map bv)[j]? = some u → w.cell? ((⟨g, 1, none⟩ : Addr).add j) = some u := fun j u hu => by
  obtain ⟨ad, e, _, hc⟩ := (Cells.rd hc (o := 1) (n := 16) (by simp [pkCells, hr])).at_ (by omega)
  injection e with e
  subst e
  refine hc j u ?_
  rw [show ((pkCells h r).drop 1).take 16 = r.map bv from by show (r.map bv).take 16 = _; rw [List.take_of_length_le (by rw [List.length_map, hr]; omega)]]
  exact hu
end Go.Adm
namespace Go.Proofs.Ytlnbeglelhdjfaa
open Go Go.RowKit Go.Adm

set_option maxRecDepth 100000 in
set_option maxHeartbeats 6400000 in
theorem walkKeys (w : World) (seed : List UInt8) (x ph : Int) (pr : List UInt8) (hs : seed.length = 16) (hp : pr.length = 16) :
    Calls Try.prog 7 #[.agg (seed.map bv).toArray, .int .i64 x, .agg (pkCells ph pr).toArray] w fun e w' => e = .returned (.bool true) ∧ Below w.heap.size w w' := by
  have hR : All w [.kept w w.heap.size] := ⟨⟨Below.refl _ _, Nat.le_refl _⟩, trivial⟩
  have hsl := Lib.hid hs
  have hpl := Lib.hid hp
  obtain ⟨kh, hkx⟩ : ∃ kh : Nat, x % 3 = (kh : Int) := ⟨(x % 3).toNat, by omega⟩
  have hk3 : kh < 3 := by omega
  have HX := Lib.hid hkx
  have hr16 := Lib.hid (rootS_len seed kh)
  obtain ⟨r, hr⟩ : ∃ r, rootS seed kh = r := ⟨_, rfl⟩
  rw [hr] at hr16
  have HRT := Lib.hid hr
  obtain ⟨idv, hid⟩ : ∃ v, idS ph pr = v := ⟨_, rfl⟩
  have HID := Lib.hid hid
  have hid32 := Lib.hid (idS_len ph pr)
  rw [hid] at hid32
  obtain ⟨jv, hjv⟩ : ∃ v, joinS x ph pr seed = v := ⟨_, rfl⟩
  have HJ := Lib.hid hjv
  have hj16 := Lib.hid (joinS_len x ph pr seed)
  rw [hjv] at hj16
  obtain ⟨ok, hok⟩ : ∃ v, hOk ph = v := ⟨_, rfl⟩
  have HOK := Lib.hid hok
  have heqk : ∀ W, (binOp .eql 40 (.agg (pkCells kh r).toArray) (.agg (pkCells kh r).toArray)).run Try.prog W = .ok (.bool true) W := fun W => eq_pk W kh r hr16.out (by omega) (by omega)
  obtain ⟨pz, hpz⟩ : ∃ pz : List Value, (Value.int .i64 0 :: List.replicate 16 (Value.int .u8 0)) = pz := ⟨_, rfl⟩
  have HPZ := Lib.hid hpz
  have heqz : ∀ W, (binOp .eql 40 (.agg pz.toArray) (.agg pz.toArray)).run Try.prog W = .ok (.bool true) W := fun W => by rw [← HPZ.out]; exact eq_pk W 0 (List.replicate 16 0) rfl (by decide) (by decide)
  have HFZ : Hid (Instr.fill (#[(0, 1), (1, 16)][·]?) (Value.int .i64 0 :: List.replicate 16 (Value.int .u8 0)).toArray [] = some pz.toArray) := Lib.hid (by rw [← HPZ.out]; rfl)
  have HPL : Hid (pz.length = 17) := Lib.hid (by rw [← HPZ.out]; rfl)
  have HP1 : Hid (∀ v ∈ pz, v.oneCell' = true) := Lib.hid (by rw [← HPZ.out]; decide)
  clear hpz
  have heqd : ∀ W, (binOp .eql 27 (.agg (idv.map bv).toArray) (.agg (idv.map bv).toArray)).run Try.prog W = .ok (.bool true) W := fun W => by have := eq_dig W idv idv hid32.out hid32.out; simpa using this
  have heqj : ∀ W, (binOp .eql 23 (.agg (jv.map bv).toArray) (.agg (jv.map bv).toArray)).run Try.prog W = .ok (.bool true) W := fun W => by have := eq_half W jv jv hj16.out hj16.out; simpa using this
  clear hs hp hkx hr hid hjv hok
  go_enter Try.func7, Try.ntmps7
  go_upto_region 1 with (fail)
  refine wp_gen ((hR.new (l := seed.map bv) _ 23 rfl rfl).new (l := pkCells ph pr) _ 40 (g := w.heap.size + 1) (by simp) rfl) ?_
  intro W0 hI
  clear hR
  refine wp_region_hops_late 8 6 7 [14, 15, 16, 17, 13, 18, 19, 7] _
    [.eq (.agg (seed.map bv).toArray), .eq (.int .i64 x), .eq (.int .i64 kh), .eq (.tuple #[.agg (pkCells kh r).toArray, .int .i64 0]), .eq (.tuple #[.agg (pkCells kh r).toArray, .int .i64 0]), .eq (.agg (pkCells kh r).toArray), .eq (.int .i64 0), .box (w.heap.size + 2) 40 (Value.int .i64 0 :: List.replicate 16 (Value.int .u8 0))]
    (by kernel_rfl) (by kernel_rfl) (fun _ t _ _ _ h => by cases t <;> exact h) hI rfl ?hops ?flts ?fin
  case hops =>
    refine ⟨?_, ?_, ?_, ?_, ?_, ?_, ?_, ?_, trivial⟩
    · intro a W hW hb hd K hK
      have b3 := hb 3 rfl
      refine wp_load_mid 23 (.tmp 3) rfl w.heap.size 0 (by simp [Act.eval, b3]) (seed.map bv) _ (Cells.range (hW.at_ 1 rfl)) Try.underlying23 rfl (by rw [List.length_map, hsl.out]; kernel_rfl) ?_
      exact hK _ _ (World.grownBy.refl _ _) rfl
    · intro a W hW hb hd K hK
      have b1 := hb 1 rfl
      go_simp
      exact hK _ _ (World.grownBy.refl _ _) rfl
    · intro a W hW hb hd K hK
      have b15 : a.tmps[15]?.getD undef = _ := hd ⟨1, .data⟩ (by simp) rfl
      go_simp
      refine (low_any W x).mono ?_
      rintro e w' ⟨rfl, hb'⟩
      exact hK _ _ (grown_of_below hb') (congrArg (Value.int .i64) HX.out)
    · intro a W hW hb hd K hK
      have b14 : a.tmps[14]?.getD undef = _ := hd ⟨0, .data⟩ (by simp) rfl
      have b16 : a.tmps[16]?.getD undef = _ := hd ⟨2, .data⟩ (by simp) rfl
      go_simp
      refine (New_any W seed kh hsl.out (by omega)).mono ?_
      rw [HRT.out]
      rintro e w' ⟨rfl, hb'⟩
      exact hK _ _ (grown_of_below hb') rfl
    · intro a W hW hb hd K hK
      have b17 : a.tmps[17]?.getD undef = _ := hd ⟨3, .data⟩ (by simp) rfl
      go_simp
      exact hK _ _ (World.grownBy.refl _ _) rfl
    · intro a W hW hb hd K hK
      have b13 : a.tmps[13]?.getD undef = _ := hd ⟨4, .data⟩ (by simp) rfl
      go_simp
      exact hK _ _ (World.grownBy.refl _ _) rfl
    · intro a W hW hb hd K hK
      have b13 : a.tmps[13]?.getD undef = _ := hd ⟨4, .data⟩ (by simp) rfl
      go_simp
      exact hK _ _ (World.grownBy.refl _ _) rfl
    · intro a W hW hb hd K hK
      go_simp
      exact hK _ _ (grown_alloc _ _) ⟨_, rfl, Cells.lt (hW.at_ 0 rfl), Cells.new _ _ _⟩
  case flts =>
    refine ⟨?_, trivial⟩
    intro a W hW hb hd
    have b13 : a.tmps[13]?.getD undef = _ := hd ⟨4, .data⟩ (by simp) rfl
    refine ⟨.int .i64 0, .inl ⟨rfl, fun w => ?_⟩, rfl⟩
    go_simp
  case fin =>
    intro vs V hV hv
    have e5 : vs 5 = _ := hv 5 (by decide)
    have e6 : vs 6 = _ := hv 6 (by decide)
    obtain ⟨g7, e7, hg7, hC⟩ := (hv 7 (by decide) : VF.ok (.box (w.heap.size + 2) 40 (Value.int .i64 0 :: List.replicate 16 (Value.int .u8 0))) (vs 7) V)
    clear hv hI
    simp only [putAll, List.drop_succ_cons, List.drop_zero, e5, e6, e7, Act.put, List.setIfInBounds_toArray, List.set_cons_succ, List.set_cons_zero]
    clear e5 e6 e7
    have hV1 : All V (.cells g7 40 (Value.int .i64 0 :: List.replicate 16 (Value.int .u8 0)) :: [.cells (w.heap.size + 1) 40 (pkCells ph pr), .cells w.heap.size 23 (seed.map bv), .kept w w.heap.size]) := ⟨hC, hV⟩
    clear hV hC
    refine wl_store_at hV1 0 rfl 40 (.tmp 7) (.tmp 18) rfl g7 _ _ (pkCells kh r) rfl rfl rfl (by rw [pk_len _ _ hr16.out]; rfl) (by rw [pk_len _ _ hr16.out]; kernel_rfl) (pk_one _ _) (by simp [Apart, Res.apart] <;> omega) ?_
    intro Vg7 hVg7 hsg7
    simp only [List.set_cons_zero] at hVg7
    clear hV1 hsg7
    go_wp2_with fail
    refine wp_region_hops_late 8 6 7 [21, 22, 23, 24, 20, 25, 26, 9] _
      [.eq (.agg (seed.map bv).toArray), .eq (.int .i64 x), .eq (.int .i64 kh), .eq (.tuple #[.agg (pkCells kh r).toArray, .int .i64 0]), .eq (.tuple #[.agg (pkCells kh r).toArray, .int .i64 0]), .eq (.agg (pkCells kh r).toArray), .eq (.int .i64 0), .box (g7 + 1) 40 (Value.int .i64 0 :: List.replicate 16 (Value.int .u8 0))]
      (by kernel_rfl) (by kernel_rfl) (fun _ t _ _ _ h => by cases t <;> exact h) hVg7 rfl ?hops ?flts ?fin
    case hops =>
      refine ⟨?_, ?_, ?_, ?_, ?_, ?_, ?_, ?_, trivial⟩
      · intro a W hW hb hd K hK
        have b3 := hb 3 rfl
        refine wp_load_mid 23 (.tmp 3) rfl w.heap.size 0 (by simp [Act.eval, b3]) (seed.map bv) _ (Cells.range (hW.at_ 2 rfl)) Try.underlying23 rfl (by rw [List.length_map, hsl.out]; kernel_rfl) ?_
        exact hK _ _ (World.grownBy.refl _ _) rfl
      · intro a W hW hb hd K hK
        have b1 := hb 1 rfl
        go_simp
        exact hK _ _ (World.grownBy.refl _ _) rfl
      · intro a W hW hb hd K hK
        have b22 : a.tmps[22]?.getD undef = _ := hd ⟨1, .data⟩ (by simp) rfl
        go_simp
        refine (low_any W x).mono ?_
        rintro e w' ⟨rfl, hb'⟩
        exact hK _ _ (grown_of_below hb') (congrArg (Value.int .i64) HX.out)
      · intro a W hW hb hd K hK
        have b21 : a.tmps[21]?.getD undef = _ := hd ⟨0, .data⟩ (by simp) rfl
        have b23 : a.tmps[23]?.getD undef = _ := hd ⟨2, .data⟩ (by simp) rfl
        go_simp
        refine (refNew_any W seed kh hsl.out (by omega)).mono ?_
        rw [HRT.out]
        rintro e w' ⟨rfl, hb'⟩
        exact hK _ _ (grown_of_below hb') rfl
      · intro a W hW hb hd K hK
        have b24 : a.tmps[24]?.getD undef = _ := hd ⟨3, .data⟩ (by simp) rfl
        go_simp
        exact hK _ _ (World.grownBy.refl _ _) rfl
      · intro a W hW hb hd K hK
        have b20 : a.tmps[20]?.getD undef = _ := hd ⟨4, .data⟩ (by simp) rfl
        go_simp
        exact hK _ _ (World.grownBy.refl _ _) rfl
      · intro a W hW hb hd K hK
        have b20 : a.tmps[20]?.getD undef = _ := hd ⟨4, .data⟩ (by simp) rfl
        go_simp
        exact hK _ _ (World.grownBy.refl _ _) rfl
      · intro a W hW hb hd K hK
        go_simp
        exact hK _ _ (grown_alloc _ _) ⟨_, rfl, Cells.lt (hW.at_ 0 rfl), Cells.new _ _ _⟩
    case flts =>
      refine ⟨?_, trivial⟩
      intro a W hW hb hd
      have b20 : a.tmps[20]?.getD undef = _ := hd ⟨4, .data⟩ (by simp) rfl
      refine ⟨.int .i64 0, .inl ⟨rfl, fun w => ?_⟩, rfl⟩
      go_simp
    case fin =>
      intro vs V hV hv
      have e5 : vs 5 = _ := hv 5 (by decide)
      have e6 : vs 6 = _ := hv 6 (by decide)
      obtain ⟨g9, e7, hg9, hC⟩ := (hv 7 (by decide) : VF.ok (.box (g7 + 1) 40 (Value.int .i64 0 :: List.replicate 16 (Value.int .u8 0))) (vs 7) V)
      clear hv hVg7
      simp only [putAll, List.drop_succ_cons, List.drop_zero, e5, e6, e7, Act.put, List.setIfInBounds_toArray, List.set_cons_succ, List.set_cons_zero]
      clear e5 e6 e7
      have hV1 : All V (.cells g9 40 (Value.int .i64 0 :: List.replicate 16 (Value.int .u8 0)) :: .cells g7 40 (pkCells kh r) :: [.cells (w.heap.size + 1) 40 (pkCells ph pr), .cells w.heap.size 23 (seed.map bv), .kept w w.heap.size]) := ⟨hC, hV⟩
      clear hV hC
      refine wl_store_at hV1 0 rfl 40 (.tmp 9) (.tmp 25) rfl g9 _ _ (pkCells kh r) rfl rfl rfl (by rw [pk_len _ _ hr16.out]; rfl) (by rw [pk_len _ _ hr16.out]; kernel_rfl) (pk_one _ _) (by simp [Apart, Res.apart] <;> omega) ?_
      intro Vg9 hVg9 hsg9
      simp only [List.set_cons_zero] at hVg9
      clear hV1 hsg9
      have hg97 : g7 < g9 := by omega
      obtain ⟨g11, hg11⟩ : ∃ g11, g11 = Vg9.heap.size := ⟨_, rfl⟩
      have hg911 : g9 < g11 := by rw [hg11]; exact Cells.lt hVg9.1
      have hbad : hOk x = true ∨ hOk x = false := by cases hOk x <;> simp
      rcases hbad with hb | hb
      · obtain ⟨h0, h6⟩ := (hOk_iff x).1 hb
        have d1 : decide (x < 0) = false := by simp; omega
        have d2 : decide (6 < x) = false := by simp; omega
        clear h0 h6 hb
        go_wp2_with (first | (refine wl_build rfl 40 [] rfl _ _ #[(0, 1), (1, 16)] pz.toArray zero_pk Try.underlying40 (fun w => by kernel_rfl) HFZ.out ?_) | (refine wl_store_at (hVg9.new _ _ hg11 rfl) 0 rfl 40 (.tmp 11) _ rfl g11 _ _ pz rfl (by rw [hg11]; rfl) rfl (by rw [HPL.out]; rfl) (by rw [HPL.out]; kernel_rfl) HP1.out (by simp [Apart, Res.apart] <;> omega) ?_; intro V3 hV3 hs3) | (refine wl_load_at rfl 23 (.tmp 3) rfl w.heap.size _ _ (hV3.at_ 4 rfl) rfl _ Try.underlying23 rfl (by rw [List.length_map, hsl.out]; kernel_rfl) ?_))
        have hI : All V3 [.cells g11 40 pz, .cells g9 40 (pkCells kh r), .cells g7 40 (pkCells kh r), .cells (w.heap.size + 1) 40 (pkCells ph pr), .cells w.heap.size 23 (seed.map bv), .kept w w.heap.size] := hV3
        simp only [← hg11]
        clear hV3 hVg9 hs3 hg11
        refine wp_region_hops 51 (40 :: 41 :: 42 :: 43 :: 44 :: 45 :: 46 :: 47 :: 48 :: 49 :: 50 :: 51 :: 52 :: 53 :: 54 :: 55 :: 56 :: 57 :: 58 :: 59 :: 60 :: 61 :: 62 :: 63 :: 64 :: 65 :: 66 :: 67 :: 68 :: 69 :: 70 :: 71 :: 72 :: 73 :: 74 :: 75 :: 76 :: 77 :: 78 :: 79 :: 80 :: 81 :: 82 :: 83 :: 84 :: 85 :: 86 :: 87 :: 88 :: 89 :: 90 :: []) _
          (.eq (.bool true) :: .eq (.bool true) :: .eq (.int .i64 0) :: .eq (.int .i64 0) :: .eq (.bool true) :: .eq (.bool true) :: .eq (.bool true) :: .eq (.agg (pkCells kh r).toArray) :: .eq (.agg (pkCells kh r).toArray) :: .eq (.bool true) :: .eq (.bool true) :: .eq (.bool true) :: .eq (.int .i64 1) :: .eq (.bool true) :: .eq (.bool true) :: .eq (.bool true) :: .eq (.agg pz.toArray) :: .eq (.agg pz.toArray) :: .eq (.bool true) :: .eq (.bool true) :: .eq (.bool true) :: .eq (.agg (pkCells ph pr).toArray) :: .eq (.agg (idv.map bv).toArray) :: .eq (.agg (pkCells ph pr).toArray) :: .eq (.agg (idv.map bv).toArray) :: .eq (.bool true) :: .eq (.bool true) :: .eq (.bool true) :: .eq (.agg (pkCells ph pr).toArray) :: .eq (.bool ok) :: .eq (.agg (pkCells ph pr).toArray) :: .eq (.bool ok) :: .eq (.bool true) :: .eq (.bool true) :: .eq (.bool true) :: .eq (.int .i64 x) :: .eq (.pointer (some ⟨w.heap.size + 1, 0, none⟩)) :: .eq (.int .i64 ph) :: .eq (.pointer (some ⟨w.heap.size + 1, 1, none⟩)) :: .eq (.agg (pr.map bv).toArray) :: .eq (.agg (seed.map bv).toArray) :: .eq (.agg (jv.map bv).toArray) :: .eq (.int .i64 x) :: .eq (.pointer (some ⟨w.heap.size + 1, 0, none⟩)) :: .eq (.int .i64 ph) :: .eq (.pointer (some ⟨w.heap.size + 1, 1, none⟩)) :: .eq (.agg (pr.map bv).toArray) :: .eq (.agg (seed.map bv).toArray) :: .eq (.agg (jv.map bv).toArray) :: .eq (.bool true) :: .eq (.bool true) :: [])
          (by kernel_rfl) (by kernel_rfl) hI rfl ?hops ?fin
        case hops =>
          refine ⟨?_, ?_, ?_, ?_, ?_, ?_, ?_, ?_, ?_, ?_, ?_, ?_, ?_, ?_, ?_, ?_, ?_, ?_, ?_, ?_, ?_, ?_, ?_, ?_, ?_, ?_, ?_, ?_, ?_, ?_, ?_, ?_, ?_, ?_, ?_, ?_, ?_, ?_, ?_, ?_, ?_, ?_, ?_, ?_, ?_, ?_, ?_, ?_, ?_, ?_, ?_, trivial⟩
          · intro a W hW hb hd K hK
            go_simp
            refine (awake_any W).mono ?_
            rintro e w' ⟨rfl, hb'⟩
            exact hK _ _ (grown_of_below hb') rfl
          · intro a W hW hb hd K hK
            have b40 : a.tmps[40]?.getD undef = _ := hd ⟨0, .data⟩ (by simp) rfl
            go_simp
            exact hK _ _ (World.grownBy.refl _ _) rfl
          · refine Or.inl ⟨fun v w h => h, ?_⟩
            intro a W hW hb hd K hK
            have b8 := hb 8 rfl
            go_simp
            exact hK _ _ (World.grownBy.refl _ _) rfl
          · refine Or.inl ⟨fun v w h => h, ?_⟩
            intro a W hW hb hd K hK
            have b10 := hb 10 rfl
            go_simp
            exact hK _ _ (World.grownBy.refl _ _) rfl
          · refine Or.inl ⟨fun v w h => h, ?_⟩
            intro a W hW hb hd K hK
            have b42 : a.tmps[42]?.getD undef = _ := hd ⟨2, .data⟩ (by simp) rfl
            have b43 : a.tmps[43]?.getD undef = _ := hd ⟨3, .data⟩ (by simp) rfl
            go_simp
            exact hK _ _ (World.grownBy.refl _ _) rfl
          · intro a W hW hb hd K hK
            have b41 : a.tmps[41]?.getD undef = _ := hd ⟨1, .data⟩ (by simp) rfl
            have b44 : a.tmps[44]?.getD undef = _ := hd ⟨4, .data⟩ (by simp) rfl
            go_simp
            exact hK _ _ (World.grownBy.refl _ _) rfl
          · intro a W hW hb hd K hK
            have b45 : a.tmps[45]?.getD undef = _ := hd ⟨5, .data⟩ (by simp) rfl
            go_simp
            exact hK _ _ (World.grownBy.refl _ _) rfl
          · refine Or.inl ⟨fun v w h => h, ?_⟩
            intro a W hW hb hd K hK
            have b7 := hb 7 rfl
            refine wp_load_mid 40 (.tmp 7) rfl g7 0 (by simp [Act.eval, b7]) (pkCells kh r) _ (Cells.range (hW.at_ 2 rfl)) Try.underlying40 rfl (by rw [pk_len _ _ hr16.out]; kernel_rfl) ?_
            exact hK _ _ (World.grownBy.refl _ _) rfl
          · refine Or.inl ⟨fun v w h => h, ?_⟩
            intro a W hW hb hd K hK
            have b9 := hb 9 rfl
            refine wp_load_mid 40 (.tmp 9) rfl g9 0 (by simp [Act.eval, b9]) (pkCells kh r) _ (Cells.range (hW.at_ 1 rfl)) Try.underlying40 rfl (by rw [pk_len _ _ hr16.out]; kernel_rfl) ?_
            exact hK _ _ (World.grownBy.refl _ _) rfl
          · refine Or.inl ⟨fun v w h => h, ?_⟩
            intro a W hW hb hd K hK
            have b47 : a.tmps[47]?.getD undef = _ := hd ⟨7, .data⟩ (by simp) rfl
            have b48 : a.tmps[48]?.getD undef = _ := hd ⟨8, .data⟩ (by simp) rfl
            go_simp
            exact hK _ _ (World.grownBy.refl _ _) rfl
          · intro a W hW hb hd K hK
            have b46 : a.tmps[46]?.getD undef = _ := hd ⟨6, .data⟩ (by simp) rfl
            have b49 : a.tmps[49]?.getD undef = _ := hd ⟨9, .data⟩ (by simp) rfl
            go_simp
            exact hK _ _ (World.grownBy.refl _ _) rfl
          · intro a W hW hb hd K hK
            have b50 : a.tmps[50]?.getD undef = _ := hd ⟨10, .data⟩ (by simp) rfl
            go_simp
            exact hK _ _ (World.grownBy.refl _ _) rfl
          · refine Or.inl ⟨fun v w h => h, ?_⟩
            intro a W hW hb hd K hK
            have b12 := hb 12 rfl
            go_simp
            exact hK _ _ (World.grownBy.refl _ _) rfl
          · refine Or.inl ⟨fun v w h => h, ?_⟩
            intro a W hW hb hd K hK
            have b52 : a.tmps[52]?.getD undef = _ := hd ⟨12, .data⟩ (by simp) rfl
            go_simp
            exact hK _ _ (World.grownBy.refl _ _) rfl
          · intro a W hW hb hd K hK
            have b51 : a.tmps[51]?.getD undef = _ := hd ⟨11, .data⟩ (by simp) rfl
            have b53 : a.tmps[53]?.getD undef = _ := hd ⟨13, .data⟩ (by simp) rfl
            go_simp
            exact hK _ _ (World.grownBy.refl _ _) rfl
          · intro a W hW hb hd K hK
            have b54 : a.tmps[54]?.getD undef = _ := hd ⟨14, .data⟩ (by simp) rfl
            go_simp
            exact hK _ _ (World.grownBy.refl _ _) rfl
          · refine Or.inl ⟨fun v w h => h, ?_⟩
            intro a W hW hb hd K hK
            have b11 := hb 11 rfl
            refine wp_load_mid 40 (.tmp 11) rfl g11 0 (by simp [Act.eval, b11]) pz _ (Cells.range (hW.at_ 0 rfl)) Try.underlying40 rfl (by rw [HPL.out]; kernel_rfl) ?_
            exact hK _ _ (World.grownBy.refl _ _) rfl
          · refine Or.inl ⟨fun v w h => h, ?_⟩
            intro a W hW hb hd K hK
            refine wp_bld 40 [] rfl _ _ #[(0, 1), (1, 16)] pz.toArray zero_pk Try.underlying40 (fun w => by kernel_rfl) HFZ.out ?_
            exact hK _ _ (World.grownBy.refl _ _) rfl
          · refine Or.inl ⟨fun v w h => h, ?_⟩
            intro a W hW hb hd K hK
            have b56 : a.tmps[56]?.getD undef = _ := hd ⟨16, .data⟩ (by simp) rfl
            have b57 : a.tmps[57]?.getD undef = _ := hd ⟨17, .data⟩ (by simp) rfl
            go_simp
            exact hK _ _ (World.grownBy.refl _ _) rfl
          · intro a W hW hb hd K hK
            have b55 : a.tmps[55]?.getD undef = _ := hd ⟨15, .data⟩ (by simp) rfl
            have b58 : a.tmps[58]?.getD undef = _ := hd ⟨18, .data⟩ (by simp) rfl
            go_simp
            exact hK _ _ (World.grownBy.refl _ _) rfl
          · intro a W hW hb hd K hK
            have b59 : a.tmps[59]?.getD undef = _ := hd ⟨19, .data⟩ (by simp) rfl
            go_simp
            exact hK _ _ (World.grownBy.refl _ _) rfl
          · refine Or.inl ⟨fun v w h => h, ?_⟩
            intro a W hW hb hd K hK
            have b5 := hb 5 rfl
            refine wp_load_mid 40 (.tmp 5) rfl (w.heap.size + 1) 0 (by simp [Act.eval, b5]) (pkCells ph pr) _ (Cells.range (hW.at_ 3 rfl)) Try.underlying40 rfl (by rw [pk_len _ _ hpl.out]; kernel_rfl) ?_
            exact hK _ _ (World.grownBy.refl _ _) rfl
          · refine Or.inl ⟨fun v w h => h, ?_⟩
            intro a W hW hb hd K hK
            have b61 : a.tmps[61]?.getD undef = _ := hd ⟨21, .data⟩ (by simp) rfl
            go_simp
            refine (ID_any W ph pr hpl.out).mono ?_
            rintro e w' ⟨rfl, hb'⟩
            exact hK _ _ (grown_of_below hb') (by show Value.agg _ = Value.agg _; rw [HID.out])
          · refine Or.inl ⟨fun v w h => h, ?_⟩
            intro a W hW hb hd K hK
            have b5 := hb 5 rfl
            refine wp_load_mid 40 (.tmp 5) rfl (w.heap.size + 1) 0 (by simp [Act.eval, b5]) (pkCells ph pr) _ (Cells.range (hW.at_ 3 rfl)) Try.underlying40 rfl (by rw [pk_len _ _ hpl.out]; kernel_rfl) ?_
            exact hK _ _ (World.grownBy.refl _ _) rfl
          · refine Or.inl ⟨fun v w h => h, ?_⟩
            intro a W hW hb hd K hK
            have b63 : a.tmps[63]?.getD undef = _ := hd ⟨23, .data⟩ (by simp) rfl
            go_simp
            refine (refID_any W ph pr hpl.out).mono ?_
            rintro e w' ⟨rfl, hb'⟩
            exact hK _ _ (grown_of_below hb') (by show Value.agg _ = Value.agg _; rw [HID.out])
          · refine Or.inl ⟨fun v w h => h, ?_⟩
            intro a W hW hb hd K hK
            have b62 : a.tmps[62]?.getD undef = _ := hd ⟨22, .data⟩ (by simp) rfl
            have b64 : a.tmps[64]?.getD undef = _ := hd ⟨24, .data⟩ (by simp) rfl
            go_simp
            exact hK _ _ (World.grownBy.refl _ _) rfl
          · intro a W hW hb hd K hK
            have b60 : a.tmps[60]?.getD undef = _ := hd ⟨20, .data⟩ (by simp) rfl
            have b65 : a.tmps[65]?.getD undef = _ := hd ⟨25, .data⟩ (by simp) rfl
            go_simp
            exact hK _ _ (World.grownBy.refl _ _) rfl
          · intro a W hW hb hd K hK
            have b66 : a.tmps[66]?.getD undef = _ := hd ⟨26, .data⟩ (by simp) rfl
            go_simp
            exact hK _ _ (World.grownBy.refl _ _) rfl
          · refine Or.inl ⟨fun v w h => h, ?_⟩
            intro a W hW hb hd K hK
            have b5 := hb 5 rfl
            refine wp_load_mid 40 (.tmp 5) rfl (w.heap.size + 1) 0 (by simp [Act.eval, b5]) (pkCells ph pr) _ (Cells.range (hW.at_ 3 rfl)) Try.underlying40 rfl (by rw [pk_len _ _ hpl.out]; kernel_rfl) ?_
            exact hK _ _ (World.grownBy.refl _ _) rfl
          · refine Or.inl ⟨fun v w h => h, ?_⟩
            intro a W hW hb hd K hK
            have b68 : a.tmps[68]?.getD undef = _ := hd ⟨28, .data⟩ (by simp) rfl
            go_simp
            refine (Valid_any W ph pr).mono ?_
            rintro e w' ⟨rfl, rfl⟩
            exact hK _ _ (grown_alloc _ _) (congrArg Value.bool HOK.out)
          · refine Or.inl ⟨fun v w h => h, ?_⟩
            intro a W hW hb hd K hK
            have b5 := hb 5 rfl
            refine wp_load_mid 40 (.tmp 5) rfl (w.heap.size + 1) 0 (by simp [Act.eval, b5]) (pkCells ph pr) _ (Cells.range (hW.at_ 3 rfl)) Try.underlying40 rfl (by rw [pk_len _ _ hpl.out]; kernel_rfl) ?_
            exact hK _ _ (World.grownBy.refl _ _) rfl
          · refine Or.inl ⟨fun v w h => h, ?_⟩
            intro a W hW hb hd K hK
            have b70 : a.tmps[70]?.getD undef = _ := hd ⟨30, .data⟩ (by simp) rfl
            go_simp
            refine (refValid_any W ph pr).mono ?_
            rintro e w' ⟨rfl, rfl⟩
            exact hK _ _ (grown_alloc _ _) (congrArg Value.bool HOK.out)
          · refine Or.inl ⟨fun v w h => h, ?_⟩
            intro a W hW hb hd K hK
            have b69 : a.tmps[69]?.getD undef = _ := hd ⟨29, .data⟩ (by simp) rfl
            have b71 : a.tmps[71]?.getD undef = _ := hd ⟨31, .data⟩ (by simp) rfl
            go_simp
            exact hK _ _ (World.grownBy.refl _ _) rfl
          · intro a W hW hb hd K hK
            have b67 : a.tmps[67]?.getD undef = _ := hd ⟨27, .data⟩ (by simp) rfl
            have b72 : a.tmps[72]?.getD undef = _ := hd ⟨32, .data⟩ (by simp) rfl
            go_simp
            exact hK _ _ (World.grownBy.refl _ _) rfl
          · intro a W hW hb hd K hK
            have b73 : a.tmps[73]?.getD undef = _ := hd ⟨33, .data⟩ (by simp) rfl
            go_simp
            exact hK _ _ (World.grownBy.refl _ _) rfl
          · refine Or.inl ⟨fun v w h => h, ?_⟩
            intro a W hW hb hd K hK
            have b1 := hb 1 rfl
            go_simp
            exact hK _ _ (World.grownBy.refl _ _) rfl
          · refine Or.inl ⟨fun v w h => h, ?_⟩
            intro a W hW hb hd K hK
            have b5 := hb 5 rfl
            go_simp
            exact hK _ _ (World.grownBy.refl _ _) rfl
          · refine Or.inl ⟨fun v w h => h, ?_⟩
            intro a W hW hb hd K hK
            have b76 : a.tmps[76]?.getD undef = _ := hd ⟨36, .data⟩ (by simp) rfl
            have q1 : W.cell? ⟨w.heap.size + 1, 0, none⟩ = some (.int .i64 ph) := Cells.cell (hW.at_ 3 rfl) (i := 0) (by simp [pkCells])
            go_simp
            exact hK _ _ (World.grownBy.refl _ _) rfl
          · refine Or.inl ⟨fun v w h => h, ?_⟩
            intro a W hW hb hd K hK
            have b5 := hb 5 rfl
            go_simp
            exact hK _ _ (World.grownBy.refl _ _) rfl
          · refine Or.inl ⟨fun v w h => h, ?_⟩
            intro a W hW hb hd K hK
            have b78 : a.tmps[78]?.getD undef = _ := hd ⟨38, .data⟩ (by simp) rfl
            refine wp_load_any 23 (.tmp 78) rfl ⟨w.heap.size + 1, 1, none⟩ (by simp [Act.eval, b78]) (pr.map bv) _ (pk_root hpl.out (hW.at_ 3 rfl)) Try.underlying23 rfl (by rw [List.length_map, hpl.out]; kernel_rfl) ?_
            exact hK _ _ (World.grownBy.refl _ _) rfl
          · refine Or.inl ⟨fun v w h => h, ?_⟩
            intro a W hW hb hd K hK
            have b3 := hb 3 rfl
            refine wp_load_mid 23 (.tmp 3) rfl w.heap.size 0 (by simp [Act.eval, b3]) (seed.map bv) _ (Cells.range (hW.at_ 4 rfl)) Try.underlying23 rfl (by rw [List.length_map, hsl.out]; kernel_rfl) ?_
            exact hK _ _ (World.grownBy.refl _ _) rfl
          · refine Or.inl ⟨fun v w h => h, ?_⟩
            intro a W hW hb hd K hK
            have b75 : a.tmps[75]?.getD undef = _ := hd ⟨35, .data⟩ (by simp) rfl
            have b77 : a.tmps[77]?.getD undef = _ := hd ⟨37, .data⟩ (by simp) rfl
            have b79 : a.tmps[79]?.getD undef = _ := hd ⟨39, .data⟩ (by simp) rfl
            have b80 : a.tmps[80]?.getD undef = _ := hd ⟨40, .data⟩ (by simp) rfl
            go_simp
            refine (Join_any W pr seed x ph hpl.out hsl.out).mono ?_
            rintro e w' ⟨rfl, hb'⟩
            exact hK _ _ (grown_of_below hb') (by show Value.agg _ = Value.agg _; rw [HJ.out])
          · refine Or.inl ⟨fun v w h => h, ?_⟩
            intro a W hW hb hd K hK
            have b1 := hb 1 rfl
            go_simp
            exact hK _ _ (World.grownBy.refl _ _) rfl
          · refine Or.inl ⟨fun v w h => h, ?_⟩
            intro a W hW hb hd K hK
            have b5 := hb 5 rfl
            go_simp
            exact hK _ _ (World.grownBy.refl _ _) rfl
          · refine Or.inl ⟨fun v w h => h, ?_⟩
            intro a W hW hb hd K hK
            have b83 : a.tmps[83]?.getD undef = _ := hd ⟨43, .data⟩ (by simp) rfl
            have q1 : W.cell? ⟨w.heap.size + 1, 0, none⟩ = some (.int .i64 ph) := Cells.cell (hW.at_ 3 rfl) (i := 0) (by simp [pkCells])
            go_simp
            exact hK _ _ (World.grownBy.refl _ _) rfl
          · refine Or.inl ⟨fun v w h => h, ?_⟩
            intro a W hW hb hd K hK
            have b5 := hb 5 rfl
            go_simp
            exact hK _ _ (World.grownBy.refl _ _) rfl
          · refine Or.inl ⟨fun v w h => h, ?_⟩
            intro a W hW hb hd K hK
            have b85 : a.tmps[85]?.getD undef = _ := hd ⟨45, .data⟩ (by simp) rfl
            refine wp_load_any 23 (.tmp 85) rfl ⟨w.heap.size + 1, 1, none⟩ (by simp [Act.eval, b85]) (pr.map bv) _ (pk_root hpl.out (hW.at_ 3 rfl)) Try.underlying23 rfl (by rw [List.length_map, hpl.out]; kernel_rfl) ?_
            exact hK _ _ (World.grownBy.refl _ _) rfl
          · refine Or.inl ⟨fun v w h => h, ?_⟩
            intro a W hW hb hd K hK
            have b3 := hb 3 rfl
            refine wp_load_mid 23 (.tmp 3) rfl w.heap.size 0 (by simp [Act.eval, b3]) (seed.map bv) _ (Cells.range (hW.at_ 4 rfl)) Try.underlying23 rfl (by rw [List.length_map, hsl.out]; kernel_rfl) ?_
            exact hK _ _ (World.grownBy.refl _ _) rfl
          · refine Or.inl ⟨fun v w h => h, ?_⟩
            intro a W hW hb hd K hK
            have b82 : a.tmps[82]?.getD undef = _ := hd ⟨42, .data⟩ (by simp) rfl
            have b84 : a.tmps[84]?.getD undef = _ := hd ⟨44, .data⟩ (by simp) rfl
            have b86 : a.tmps[86]?.getD undef = _ := hd ⟨46, .data⟩ (by simp) rfl
            have b87 : a.tmps[87]?.getD undef = _ := hd ⟨47, .data⟩ (by simp) rfl
            go_simp
            refine (refJoin_any W pr seed x ph hpl.out hsl.out).mono ?_
            rintro e w' ⟨rfl, hb'⟩
            exact hK _ _ (grown_of_below hb') (by show Value.agg _ = Value.agg _; rw [HJ.out])
          · refine Or.inl ⟨fun v w h => h, ?_⟩
            intro a W hW hb hd K hK
            have b81 : a.tmps[81]?.getD undef = _ := hd ⟨41, .data⟩ (by simp) rfl
            have b88 : a.tmps[88]?.getD undef = _ := hd ⟨48, .data⟩ (by simp) rfl
            go_simp
            exact hK _ _ (World.grownBy.refl _ _) rfl
          · intro a W hW hb hd K hK
            have b74 : a.tmps[74]?.getD undef = _ := hd ⟨34, .data⟩ (by simp) rfl
            have b89 : a.tmps[89]?.getD undef = _ := hd ⟨49, .data⟩ (by simp) rfl
            go_simp
            exact hK _ _ (World.grownBy.refl _ _) rfl
        case fin =>
          intro vs W hW hv
          have e50 : vs 50 = _ := hv 50 (by decide)
          clear hv
          simp only [putAll, List.drop_succ_cons, List.drop_zero, e50, Act.put, List.setIfInBounds_toArray, List.set_cons_succ, List.set_cons_zero]
          go_wp2_with fail
          go_ret
          exact ⟨rfl, (hW.at_ 5 rfl).1⟩
      · have HB := Lib.hid hb
        clear hb
        have hcc : decide (x < 0) = true ∨ decide (x < 0) = false ∧ decide (6 < x) = true := by
          by_cases h1 : x < 0
          · exact .inl (by simpa using h1)
          · refine .inr ⟨by simpa using h1, ?_⟩
            by_cases h2 : 6 < x
            · simpa using h2
            · have := (hOk_iff x).2 ⟨by omega, by omega⟩
              rw [HB.out] at this
              cases this
        rcases hcc with d1 | ⟨d1, d2⟩
        all_goals
          go_wp2_with (first | (refine wl_build rfl 40 [] rfl _ _ #[(0, 1), (1, 16)] pz.toArray zero_pk Try.underlying40 (fun w => by kernel_rfl) HFZ.out ?_) | (refine wl_store_at (hVg9.new _ _ hg11 rfl) 0 rfl 40 (.tmp 11) _ rfl g11 _ _ pz rfl (by rw [hg11]; rfl) rfl (by rw [HPL.out]; rfl) (by rw [HPL.out]; kernel_rfl) HP1.out (by simp [Apart, Res.apart] <;> omega) ?_; intro V3 hV3 hs3) | (refine wl_load_at rfl 23 (.tmp 3) rfl w.heap.size _ _ (hV3.at_ 4 rfl) rfl _ Try.underlying23 rfl (by rw [List.length_map, hsl.out]; kernel_rfl) ?_))
          have hI : All V3 [.cells g11 40 pz, .cells g9 40 (pkCells kh r), .cells g7 40 (pkCells kh r), .cells (w.heap.size + 1) 40 (pkCells ph pr), .cells w.heap.size 23 (seed.map bv), .kept w w.heap.size] := hV3
          clear hV3 hs3
          have hno := New_no V3 seed x hsl.out HB.out
          rw [HPZ.out] at hno
          refine hno.mono ?_
          clear hno
          rintro e V4 ⟨rfl, hb4⟩
          have hI4 := hI.call hb4
          clear hI hb4
          have hI := hI4
          clear hI4
          simp only [← hg11]
          go_wp2_with (refine wl_store_at hI 0 rfl 40 (.tmp 11) (.tmp 38) rfl g11 _ _ pz rfl rfl rfl rfl (by rw [HPL.out]; kernel_rfl) HP1.out (by simp [Apart, Res.apart] <;> omega) ?_; intro V5 hV5 hs5)
          simp only [List.set_cons_zero] at hV5
          clear hI hs5
          refine wp_region_hops 51 (40 :: 41 :: 42 :: 43 :: 44 :: 45 :: 46 :: 47 :: 48 :: 49 :: 50 :: 51 :: 52 :: 53 :: 54 :: 55 :: 56 :: 57 :: 58 :: 59 :: 60 :: 61 :: 62 :: 63 :: 64 :: 65 :: 66 :: 67 :: 68 :: 69 :: 70 :: 71 :: 72 :: 73 :: 74 :: 75 :: 76 :: 77 :: 78 :: 79 :: 80 :: 81 :: 82 :: 83 :: 84 :: 85 :: 86 :: 87 :: 88 :: 89 :: 90 :: []) _
            (.eq (.bool true) :: .eq (.bool true) :: .eq (.int .i64 0) :: .eq (.int .i64 0) :: .eq (.bool true) :: .eq (.bool true) :: .eq (.bool true) :: .eq (.agg (pkCells kh r).toArray) :: .eq (.agg (pkCells kh r).toArray) :: .eq (.bool true) :: .eq (.bool true) :: .eq (.bool true) :: .eq (.int .i64 1) :: .eq (.bool true) :: .eq (.bool true) :: .eq (.bool true) :: .eq (.agg pz.toArray) :: .eq (.agg pz.toArray) :: .eq (.bool true) :: .eq (.bool true) :: .eq (.bool true) :: .eq (.agg (pkCells ph pr).toArray) :: .eq (.agg (idv.map bv).toArray) :: .eq (.agg (pkCells ph pr).toArray) :: .eq (.agg (idv.map bv).toArray) :: .eq (.bool true) :: .eq (.bool true) :: .eq (.bool true) :: .eq (.agg (pkCells ph pr).toArray) :: .eq (.bool ok) :: .eq (.agg (pkCells ph pr).toArray) :: .eq (.bool ok) :: .eq (.bool true) :: .eq (.bool true) :: .eq (.bool true) :: .eq (.int .i64 x) :: .eq (.pointer (some ⟨w.heap.size + 1, 0, none⟩)) :: .eq (.int .i64 ph) :: .eq (.pointer (some ⟨w.heap.size + 1, 1, none⟩)) :: .eq (.agg (pr.map bv).toArray) :: .eq (.agg (seed.map bv).toArray) :: .eq (.agg (jv.map bv).toArray) :: .eq (.int .i64 x) :: .eq (.pointer (some ⟨w.heap.size + 1, 0, none⟩)) :: .eq (.int .i64 ph) :: .eq (.pointer (some ⟨w.heap.size + 1, 1, none⟩)) :: .eq (.agg (pr.map bv).toArray) :: .eq (.agg (seed.map bv).toArray) :: .eq (.agg (jv.map bv).toArray) :: .eq (.bool true) :: .eq (.bool true) :: [])
            (by kernel_rfl) (by kernel_rfl) hV5 rfl ?hops ?fin
          case hops =>
            refine ⟨?_, ?_, ?_, ?_, ?_, ?_, ?_, ?_, ?_, ?_, ?_, ?_, ?_, ?_, ?_, ?_, ?_, ?_, ?_, ?_, ?_, ?_, ?_, ?_, ?_, ?_, ?_, ?_, ?_, ?_, ?_, ?_, ?_, ?_, ?_, ?_, ?_, ?_, ?_, ?_, ?_, ?_, ?_, ?_, ?_, ?_, ?_, ?_, ?_, ?_, ?_, trivial⟩
            · intro a W hW hb hd K hK
              go_simp
              refine (awake_any W).mono ?_
              rintro e w' ⟨rfl, hb'⟩
              exact hK _ _ (grown_of_below hb') rfl
            · intro a W hW hb hd K hK
              have b40 : a.tmps[40]?.getD undef = _ := hd ⟨0, .data⟩ (by simp) rfl
              go_simp
              exact hK _ _ (World.grownBy.refl _ _) rfl
            · refine Or.inl ⟨fun v w h => h, ?_⟩
              intro a W hW hb hd K hK
              have b8 := hb 8 rfl
              go_simp
              exact hK _ _ (World.grownBy.refl _ _) rfl
            · refine Or.inl ⟨fun v w h => h, ?_⟩
              intro a W hW hb hd K hK
              have b10 := hb 10 rfl
              go_simp
              exact hK _ _ (World.grownBy.refl _ _) rfl
            · refine Or.inl ⟨fun v w h => h, ?_⟩
              intro a W hW hb hd K hK
              have b42 : a.tmps[42]?.getD undef = _ := hd ⟨2, .data⟩ (by simp) rfl
              have b43 : a.tmps[43]?.getD undef = _ := hd ⟨3, .data⟩ (by simp) rfl
              go_simp
              exact hK _ _ (World.grownBy.refl _ _) rfl
            · intro a W hW hb hd K hK
              have b41 : a.tmps[41]?.getD undef = _ := hd ⟨1, .data⟩ (by simp) rfl
              have b44 : a.tmps[44]?.getD undef = _ := hd ⟨4, .data⟩ (by simp) rfl
              go_simp
              exact hK _ _ (World.grownBy.refl _ _) rfl
            · intro a W hW hb hd K hK
              have b45 : a.tmps[45]?.getD undef = _ := hd ⟨5, .data⟩ (by simp) rfl
              go_simp
              exact hK _ _ (World.grownBy.refl _ _) rfl
            · refine Or.inl ⟨fun v w h => h, ?_⟩
              intro a W hW hb hd K hK
              have b7 := hb 7 rfl
              refine wp_load_mid 40 (.tmp 7) rfl g7 0 (by simp [Act.eval, b7]) (pkCells kh r) _ (Cells.range (hW.at_ 2 rfl)) Try.underlying40 rfl (by rw [pk_len _ _ hr16.out]; kernel_rfl) ?_
              exact hK _ _ (World.grownBy.refl _ _) rfl
            · refine Or.inl ⟨fun v w h => h, ?_⟩
              intro a W hW hb hd K hK
              have b9 := hb 9 rfl
              refine wp_load_mid 40 (.tmp 9) rfl g9 0 (by simp [Act.eval, b9]) (pkCells kh r) _ (Cells.range (hW.at_ 1 rfl)) Try.underlying40 rfl (by rw [pk_len _ _ hr16.out]; kernel_rfl) ?_
              exact hK _ _ (World.grownBy.refl _ _) rfl
            · refine Or.inl ⟨fun v w h => h, ?_⟩
              intro a W hW hb hd K hK
              have b47 : a.tmps[47]?.getD undef = _ := hd ⟨7, .data⟩ (by simp) rfl
              have b48 : a.tmps[48]?.getD undef = _ := hd ⟨8, .data⟩ (by simp) rfl
              go_simp
              exact hK _ _ (World.grownBy.refl _ _) rfl
            · intro a W hW hb hd K hK
              have b46 : a.tmps[46]?.getD undef = _ := hd ⟨6, .data⟩ (by simp) rfl
              have b49 : a.tmps[49]?.getD undef = _ := hd ⟨9, .data⟩ (by simp) rfl
              go_simp
              exact hK _ _ (World.grownBy.refl _ _) rfl
            · intro a W hW hb hd K hK
              have b50 : a.tmps[50]?.getD undef = _ := hd ⟨10, .data⟩ (by simp) rfl
              go_simp
              exact hK _ _ (World.grownBy.refl _ _) rfl
            · refine Or.inl ⟨fun v w h => h, ?_⟩
              intro a W hW hb hd K hK
              have b12 := hb 12 rfl
              go_simp
              exact hK _ _ (World.grownBy.refl _ _) rfl
            · refine Or.inl ⟨fun v w h => h, ?_⟩
              intro a W hW hb hd K hK
              have b52 : a.tmps[52]?.getD undef = _ := hd ⟨12, .data⟩ (by simp) rfl
              go_simp
              exact hK _ _ (World.grownBy.refl _ _) rfl
            · intro a W hW hb hd K hK
              have b51 : a.tmps[51]?.getD undef = _ := hd ⟨11, .data⟩ (by simp) rfl
              have b53 : a.tmps[53]?.getD undef = _ := hd ⟨13, .data⟩ (by simp) rfl
              go_simp
              exact hK _ _ (World.grownBy.refl _ _) rfl
            · intro a W hW hb hd K hK
              have b54 : a.tmps[54]?.getD undef = _ := hd ⟨14, .data⟩ (by simp) rfl
              go_simp
              exact hK _ _ (World.grownBy.refl _ _) rfl
            · refine Or.inl ⟨fun v w h => h, ?_⟩
              intro a W hW hb hd K hK
              have b11 := hb 11 rfl
              refine wp_load_mid 40 (.tmp 11) rfl g11 0 (by simp [Act.eval, b11]) pz _ (Cells.range (hW.at_ 0 rfl)) Try.underlying40 rfl (by rw [HPL.out]; kernel_rfl) ?_
              exact hK _ _ (World.grownBy.refl _ _) rfl
            · refine Or.inl ⟨fun v w h => h, ?_⟩
              intro a W hW hb hd K hK
              refine wp_bld 40 [] rfl _ _ #[(0, 1), (1, 16)] pz.toArray zero_pk Try.underlying40 (fun w => by kernel_rfl) HFZ.out ?_
              exact hK _ _ (World.grownBy.refl _ _) rfl
            · refine Or.inl ⟨fun v w h => h, ?_⟩
              intro a W hW hb hd K hK
              have b56 : a.tmps[56]?.getD undef = _ := hd ⟨16, .data⟩ (by simp) rfl
              have b57 : a.tmps[57]?.getD undef = _ := hd ⟨17, .data⟩ (by simp) rfl
              go_simp
              exact hK _ _ (World.grownBy.refl _ _) rfl
            · intro a W hW hb hd K hK
              have b55 : a.tmps[55]?.getD undef = _ := hd ⟨15, .data⟩ (by simp) rfl
              have b58 : a.tmps[58]?.getD undef = _ := hd ⟨18, .data⟩ (by simp) rfl
              go_simp
              exact hK _ _ (World.grownBy.refl _ _) rfl
            · intro a W hW hb hd K hK
              have b59 : a.tmps[59]?.getD undef = _ := hd ⟨19, .data⟩ (by simp) rfl
              go_simp
              exact hK _ _ (World.grownBy.refl _ _) rfl
            · refine Or.inl ⟨fun v w h => h, ?_⟩
              intro a W hW hb hd K hK
              have b5 := hb 5 rfl
              refine wp_load_mid 40 (.tmp 5) rfl (w.heap.size + 1) 0 (by simp [Act.eval, b5]) (pkCells ph pr) _ (Cells.range (hW.at_ 3 rfl)) Try.underlying40 rfl (by rw [pk_len _ _ hpl.out]; kernel_rfl) ?_
              exact hK _ _ (World.grownBy.refl _ _) rfl
            · refine Or.inl ⟨fun v w h => h, ?_⟩
              intro a W hW hb hd K hK
              have b61 : a.tmps[61]?.getD undef = _ := hd ⟨21, .data⟩ (by simp) rfl
              go_simp
              refine (ID_any W ph pr hpl.out).mono ?_
              rintro e w' ⟨rfl, hb'⟩
              exact hK _ _ (grown_of_below hb') (by show Value.agg _ = Value.agg _; rw [HID.out])
            · refine Or.inl ⟨fun v w h => h, ?_⟩
              intro a W hW hb hd K hK
              have b5 := hb 5 rfl
              refine wp_load_mid 40 (.tmp 5) rfl (w.heap.size + 1) 0 (by simp [Act.eval, b5]) (pkCells ph pr) _ (Cells.range (hW.at_ 3 rfl)) Try.underlying40 rfl (by rw [pk_len _ _ hpl.out]; kernel_rfl) ?_
              exact hK _ _ (World.grownBy.refl _ _) rfl
            · refine Or.inl ⟨fun v w h => h, ?_⟩
              intro a W hW hb hd K hK
              have b63 : a.tmps[63]?.getD undef = _ := hd ⟨23, .data⟩ (by simp) rfl
              go_simp
              refine (refID_any W ph pr hpl.out).mono ?_
              rintro e w' ⟨rfl, hb'⟩
              exact hK _ _ (grown_of_below hb') (by show Value.agg _ = Value.agg _; rw [HID.out])
            · refine Or.inl ⟨fun v w h => h, ?_⟩
              intro a W hW hb hd K hK
              have b62 : a.tmps[62]?.getD undef = _ := hd ⟨22, .data⟩ (by simp) rfl
              have b64 : a.tmps[64]?.getD undef = _ := hd ⟨24, .data⟩ (by simp) rfl
              go_simp
              exact hK _ _ (World.grownBy.refl _ _) rfl
            · intro a W hW hb hd K hK
              have b60 : a.tmps[60]?.getD undef = _ := hd ⟨20, .data⟩ (by simp) rfl
              have b65 : a.tmps[65]?.getD undef = _ := hd ⟨25, .data⟩ (by simp) rfl
              go_simp
              exact hK _ _ (World.grownBy.refl _ _) rfl
            · intro a W hW hb hd K hK
              have b66 : a.tmps[66]?.getD undef = _ := hd ⟨26, .data⟩ (by simp) rfl
              go_simp
              exact hK _ _ (World.grownBy.refl _ _) rfl
            · refine Or.inl ⟨fun v w h => h, ?_⟩
              intro a W hW hb hd K hK
              have b5 := hb 5 rfl
              refine wp_load_mid 40 (.tmp 5) rfl (w.heap.size + 1) 0 (by simp [Act.eval, b5]) (pkCells ph pr) _ (Cells.range (hW.at_ 3 rfl)) Try.underlying40 rfl (by rw [pk_len _ _ hpl.out]; kernel_rfl) ?_
              exact hK _ _ (World.grownBy.refl _ _) rfl
            · refine Or.inl ⟨fun v w h => h, ?_⟩
              intro a W hW hb hd K hK
              have b68 : a.tmps[68]?.getD undef = _ := hd ⟨28, .data⟩ (by simp) rfl
              go_simp
              refine (Valid_any W ph pr).mono ?_
              rintro e w' ⟨rfl, rfl⟩
              exact hK _ _ (grown_alloc _ _) (congrArg Value.bool HOK.out)
            · refine Or.inl ⟨fun v w h => h, ?_⟩
              intro a W hW hb hd K hK
              have b5 := hb 5 rfl
              refine wp_load_mid 40 (.tmp 5) rfl (w.heap.size + 1) 0 (by simp [Act.eval, b5]) (pkCells ph pr) _ (Cells.range (hW.at_ 3 rfl)) Try.underlying40 rfl (by rw [pk_len _ _ hpl.out]; kernel_rfl) ?_
              exact hK _ _ (World.grownBy.refl _ _) rfl
            · refine Or.inl ⟨fun v w h => h, ?_⟩
              intro a W hW hb hd K hK
              have b70 : a.tmps[70]?.getD undef = _ := hd ⟨30, .data⟩ (by simp) rfl
              go_simp
              refine (refValid_any W ph pr).mono ?_
              rintro e w' ⟨rfl, rfl⟩
              exact hK _ _ (grown_alloc _ _) (congrArg Value.bool HOK.out)
            · refine Or.inl ⟨fun v w h => h, ?_⟩
              intro a W hW hb hd K hK
              have b69 : a.tmps[69]?.getD undef = _ := hd ⟨29, .data⟩ (by simp) rfl
              have b71 : a.tmps[71]?.getD undef = _ := hd ⟨31, .data⟩ (by simp) rfl
              go_simp
              exact hK _ _ (World.grownBy.refl _ _) rfl
            · intro a W hW hb hd K hK
              have b67 : a.tmps[67]?.getD undef = _ := hd ⟨27, .data⟩ (by simp) rfl
              have b72 : a.tmps[72]?.getD undef = _ := hd ⟨32, .data⟩ (by simp) rfl
              go_simp
              exact hK _ _ (World.grownBy.refl _ _) rfl
            · intro a W hW hb hd K hK
              have b73 : a.tmps[73]?.getD undef = _ := hd ⟨33, .data⟩ (by simp) rfl
              go_simp
              exact hK _ _ (World.grownBy.refl _ _) rfl
            · refine Or.inl ⟨fun v w h => h, ?_⟩
              intro a W hW hb hd K hK
              have b1 := hb 1 rfl
              go_simp
              exact hK _ _ (World.grownBy.refl _ _) rfl
            · refine Or.inl ⟨fun v w h => h, ?_⟩
              intro a W hW hb hd K hK
              have b5 := hb 5 rfl
              go_simp
              exact hK _ _ (World.grownBy.refl _ _) rfl
            · refine Or.inl ⟨fun v w h => h, ?_⟩
              intro a W hW hb hd K hK
              have b76 : a.tmps[76]?.getD undef = _ := hd ⟨36, .data⟩ (by simp) rfl
              have q1 : W.cell? ⟨w.heap.size + 1, 0, none⟩ = some (.int .i64 ph) := Cells.cell (hW.at_ 3 rfl) (i := 0) (by simp [pkCells])
              go_simp
              exact hK _ _ (World.grownBy.refl _ _) rfl
            · refine Or.inl ⟨fun v w h => h, ?_⟩
              intro a W hW hb hd K hK
              have b5 := hb 5 rfl
              go_simp
              exact hK _ _ (World.grownBy.refl _ _) rfl
            · refine Or.inl ⟨fun v w h => h, ?_⟩
              intro a W hW hb hd K hK
              have b78 : a.tmps[78]?.getD undef = _ := hd ⟨38, .data⟩ (by simp) rfl
              refine wp_load_any 23 (.tmp 78) rfl ⟨w.heap.size + 1, 1, none⟩ (by simp [Act.eval, b78]) (pr.map bv) _ (pk_root hpl.out (hW.at_ 3 rfl)) Try.underlying23 rfl (by rw [List.length_map, hpl.out]; kernel_rfl) ?_
              exact hK _ _ (World.grownBy.refl _ _) rfl
            · refine Or.inl ⟨fun v w h => h, ?_⟩
              intro a W hW hb hd K hK
              have b3 := hb 3 rfl
              refine wp_load_mid 23 (.tmp 3) rfl w.heap.size 0 (by simp [Act.eval, b3]) (seed.map bv) _ (Cells.range (hW.at_ 4 rfl)) Try.underlying23 rfl (by rw [List.length_map, hsl.out]; kernel_rfl) ?_
              exact hK _ _ (World.grownBy.refl _ _) rfl
            · refine Or.inl ⟨fun v w h => h, ?_⟩
              intro a W hW hb hd K hK
              have b75 : a.tmps[75]?.getD undef = _ := hd ⟨35, .data⟩ (by simp) rfl
              have b77 : a.tmps[77]?.getD undef = _ := hd ⟨37, .data⟩ (by simp) rfl
              have b79 : a.tmps[79]?.getD undef = _ := hd ⟨39, .data⟩ (by simp) rfl
              have b80 : a.tmps[80]?.getD undef = _ := hd ⟨40, .data⟩ (by simp) rfl
              go_simp
              refine (Join_any W pr seed x ph hpl.out hsl.out).mono ?_
              rintro e w' ⟨rfl, hb'⟩
              exact hK _ _ (grown_of_below hb') (by show Value.agg _ = Value.agg _; rw [HJ.out])
            · refine Or.inl ⟨fun v w h => h, ?_⟩
              intro a W hW hb hd K hK
              have b1 := hb 1 rfl
              go_simp
              exact hK _ _ (World.grownBy.refl _ _) rfl
            · refine Or.inl ⟨fun v w h => h, ?_⟩
              intro a W hW hb hd K hK
              have b5 := hb 5 rfl
              go_simp
              exact hK _ _ (World.grownBy.refl _ _) rfl
            · refine Or.inl ⟨fun v w h => h, ?_⟩
              intro a W hW hb hd K hK
              have b83 : a.tmps[83]?.getD undef = _ := hd ⟨43, .data⟩ (by simp) rfl
              have q1 : W.cell? ⟨w.heap.size + 1, 0, none⟩ = some (.int .i64 ph) := Cells.cell (hW.at_ 3 rfl) (i := 0) (by simp [pkCells])
              go_simp
              exact hK _ _ (World.grownBy.refl _ _) rfl
            · refine Or.inl ⟨fun v w h => h, ?_⟩
              intro a W hW hb hd K hK
              have b5 := hb 5 rfl
              go_simp
              exact hK _ _ (World.grownBy.refl _ _) rfl
            · refine Or.inl ⟨fun v w h => h, ?_⟩
              intro a W hW hb hd K hK
              have b85 : a.tmps[85]?.getD undef = _ := hd ⟨45, .data⟩ (by simp) rfl
              refine wp_load_any 23 (.tmp 85) rfl ⟨w.heap.size + 1, 1, none⟩ (by simp [Act.eval, b85]) (pr.map bv) _ (pk_root hpl.out (hW.at_ 3 rfl)) Try.underlying23 rfl (by rw [List.length_map, hpl.out]; kernel_rfl) ?_
              exact hK _ _ (World.grownBy.refl _ _) rfl
            · refine Or.inl ⟨fun v w h => h, ?_⟩
              intro a W hW hb hd K hK
              have b3 := hb 3 rfl
              refine wp_load_mid 23 (.tmp 3) rfl w.heap.size 0 (by simp [Act.eval, b3]) (seed.map bv) _ (Cells.range (hW.at_ 4 rfl)) Try.underlying23 rfl (by rw [List.length_map, hsl.out]; kernel_rfl) ?_
              exact hK _ _ (World.grownBy.refl _ _) rfl
            · refine Or.inl ⟨fun v w h => h, ?_⟩
              intro a W hW hb hd K hK
              have b82 : a.tmps[82]?.getD undef = _ := hd ⟨42, .data⟩ (by simp) rfl
              have b84 : a.tmps[84]?.getD undef = _ := hd ⟨44, .data⟩ (by simp) rfl
              have b86 : a.tmps[86]?.getD undef = _ := hd ⟨46, .data⟩ (by simp) rfl
              have b87 : a.tmps[87]?.getD undef = _ := hd ⟨47, .data⟩ (by simp) rfl
              go_simp
              refine (refJoin_any W pr seed x ph hpl.out hsl.out).mono ?_
              rintro e w' ⟨rfl, hb'⟩
              exact hK _ _ (grown_of_below hb') (by show Value.agg _ = Value.agg _; rw [HJ.out])
            · refine Or.inl ⟨fun v w h => h, ?_⟩
              intro a W hW hb hd K hK
              have b81 : a.tmps[81]?.getD undef = _ := hd ⟨41, .data⟩ (by simp) rfl
              have b88 : a.tmps[88]?.getD undef = _ := hd ⟨48, .data⟩ (by simp) rfl
              go_simp
              exact hK _ _ (World.grownBy.refl _ _) rfl
            · intro a W hW hb hd K hK
              have b74 : a.tmps[74]?.getD undef = _ := hd ⟨34, .data⟩ (by simp) rfl
              have b89 : a.tmps[89]?.getD undef = _ := hd ⟨49, .data⟩ (by simp) rfl
              go_simp
              exact hK _ _ (World.grownBy.refl _ _) rfl
          case fin =>
            intro vs W hW hv
            have e50 : vs 50 = _ := hv 50 (by decide)
            clear hv
            simp only [putAll, List.drop_succ_cons, List.drop_zero, e50, Act.put, List.setIfInBounds_toArray, List.set_cons_succ, List.set_cons_zero]
            go_wp2_with fail
            go_ret
            exact ⟨rfl, (hW.at_ 5 rfl).1⟩
end Go.Proofs.Ytlnbeglelhdjfaa

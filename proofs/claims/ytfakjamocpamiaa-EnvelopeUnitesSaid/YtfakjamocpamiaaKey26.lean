/- Sign: what is made. -/
import Derived.Test.YtfakjamocpamiaaKyE
set_option linter.unusedSimpArgs false
set_option linter.unusedVariables false
namespace Go.Proofs.Ytfakjamocpamiaa
open Go Go.RowKit Go.Adm

theorem xor1 (a : Nat) (h : a < 64) : bits .xor .i64 (a : Int) 1 = ((a ^^^ 1 : Nat) : Int) := by
 have : ∀ a : Fin 64, bits .xor .i64 (a.val : Int) 1 = ((a.val ^^^ 1 : Nat) : Int) := by decide +kernel
 exact this ⟨a, h⟩

set_option maxRecDepth 100000 in
set_option maxHeartbeats 3200000 in
theorem Sign_make (w : World) (seed d : List UInt8) (kh kn : Nat) (hs : seed.length = 16) (hd : d.length = 32) (hk : kh ≤ 6) (hb : kn < 2 ^ kh) :
  Calls Try.prog 39 #[.agg (siCells seed kh kn).toArray, .agg (d.map bv).toArray] w (SignOk seed d kh kn 41 w) := by
 have hR : All w [.kept w w.heap.size] := ⟨⟨Below.refl _ _, Nat.le_refl _⟩, trivial⟩
 have hsl := Lib.hid hs
 have hdl := Lib.hid hd
 have h64 := (pow_le64 kh hk).2
 have hx : hOk (kh : Int) = true := by unfold hOk; simp; omega
 have hn : decide ((kn : Int) < 0) = false := by simp
 have p1 : IntKind.i64.wrap (2 ^ kh) = ((2 ^ kh : Nat) : Int) := by rw [IntWalk.i64_in _ (by have := h64; have : ((2 ^ kh : Nat) : Int) = 2 ^ kh := (by simp); omega)]; simp
 have p2 : wrap64 (2 ^ kh) = ((2 ^ kh : Nat) : Int) := by have := pow_cast kh hk; simpa using this
 have hg : decide (((2 ^ kh : Nat) : Int) ≤ (kn : Int)) = false := by simp only [decide_eq_false_iff_not]; omega
 have hg2 : decide ((2 : Int) ^ kh ≤ (kn : Int)) = false := by
  simp only [decide_eq_false_iff_not]
  have : ¬ (((2 ^ kh : Nat) : Int) ≤ (kn : Int)) := by omega
  intro hc
  exact this (by exact_mod_cast hc)
 have HB := Lib.hid hb
 have hkn64 : kn < 64 := by omega
 have hki : (kh : Int) ≤ 6 := by omega
 have wkn : IntKind.i64.wrap ((kn : Int) + 1) = (kn : Int) + 1 := IntWalk.i64_in _ (by omega)
 have hpl := Lib.hid (pathS_len seed kh kn)
 clear hs hd hb h64
 go_enter Try.func39, Try.ntmps39
 go_upto_region 1 with (fail)
 refine wp_gen ((((hR.new (l := siCells seed kh kn) _ 43 rfl rfl).new (l := d.map bv) _ 37 (g := w.heap.size + 1) (by simp) rfl).new (l := siz) _ 43 (g := w.heap.size + 1 + 1) (by simp) rfl).new (l := sgz) _ 60 (g := w.heap.size + 1 + 1 + 1) (by simp) rfl) ?_
 intro W hW
 clear hR
 have c1 := si_at16 hsl.out (hW.at_ 3 rfl)
 have c2 := si_at17 hsl.out (hW.at_ 3 rfl)
 go_wp2_with fail
 refine (height_any W kh).mono ?_
 rintro e w' ⟨rfl, rfl⟩
 rw [hx]
 go_wp2_with fail
 go_quiet (fail)
 have hW1 := fun n => hW.drewN n
 clear hW c1 c2
 go_wp2_with fail
 refine wp_gen (hW1 _) ?_
 clear hW1
 clear W
 intro W hW0
 have hW := hW0
 have hsW : ∀ W, All W [.cells (w.heap.size + 1 + 1 + 1) 60 sgz, .cells (w.heap.size + 1 + 1) 43 siz, .cells (w.heap.size + 1) 37 (d.map bv), .cells w.heap.size 43 (siCells seed kh kn), .kept w w.heap.size] → w.heap.size + 1 + 1 + 1 + 1 ≤ W.heap.size := fun W hW => Cells.lt (hW.at_ 0 rfl)
 refine wp_region_hops 10 [31, 32, 33, 34, 35, 36, 37, 38, 39, 7] _
  [.eq (.pointer (some ⟨w.heap.size, 17, none⟩)), .eq (.int .i64 kn), .eq (.pointer (some ⟨w.heap.size, 0, none⟩)), .eq (.agg (seed.map bv).toArray), .eq (.pointer (some ⟨w.heap.size, 17, none⟩)), .eq (.int .i64 kn), .eq (.agg (d.map bv).toArray), .own (w.heap.size + 1 + 1 + 1 + 1) 41 16 68 (hvs (signS seed kn d)).flatten, .sig (w.heap.size + 1 + 1 + 1 + 1) 41 kn (hvs (signS seed kn d)).flatten, .box (w.heap.size + 1 + 1 + 1 + 1) 60 sgz]
  (by kernel_rfl) (by kernel_rfl) hW0 rfl ?hops ?fin
 case hops =>
  refine ⟨?_, ?_, ?_, ?_, ?_, ?_, ?_, ?_, ?_, ?_, trivial⟩
  ·intro a W hW hb hd K hK
   have b2 := hb 2 rfl
   go_simp
   exact hK _ _ (World.grownBy.refl _ _) rfl
  ·intro a W hW hb hd K hK
   have b31 : a.tmps[31]?.getD undef = _ := hd ⟨0, .data⟩ (by simp) rfl
   have c2 := si_at17 hsl.out (hW.at_ 3 rfl)
   go_simp
   exact hK _ _ (World.grownBy.refl _ _) rfl
  ·intro a W hW hb hd K hK
   have b2 := hb 2 rfl
   go_simp
   exact hK _ _ (World.grownBy.refl _ _) rfl
  ·intro a W hW hb hd K hK
   have b33 : a.tmps[33]?.getD undef = _ := hd ⟨2, .data⟩ (by simp) rfl
   refine wp_load_any 41 (.tmp 33) rfl ⟨w.heap.size, 0, none⟩ (by simp [Act.eval, b33]) (seed.map bv) _ (si_seed hsl.out (hW.at_ 3 rfl)) Try.underlying41 rfl (by rw [List.length_map, hsl.out]; kernel_rfl) ?_
   exact hK _ _ (World.grownBy.refl _ _) rfl
  ·intro a W hW hb hd K hK
   have b2 := hb 2 rfl
   go_simp
   exact hK _ _ (World.grownBy.refl _ _) rfl
  ·intro a W hW hb hd K hK
   have b35 : a.tmps[35]?.getD undef = _ := hd ⟨4, .data⟩ (by simp) rfl
   have c2 := si_at17 hsl.out (hW.at_ 3 rfl)
   go_simp
   exact hK _ _ (World.grownBy.refl _ _) rfl
  ·intro a W hW hb hd K hK
   have b3 := hb 3 rfl
   refine wp_load_mid 37 (.tmp 3) rfl (w.heap.size + 1) 0 (by simp [Act.eval, b3]) (d.map bv) _ (Cells.range (hW.at_ 2 rfl)) Try.underlying37 rfl (by rw [List.length_map, hdl.out]; kernel_rfl) ?_
   exact hK _ _ (World.grownBy.refl _ _) rfl
  ·intro a W hW hb hd K hK
   have b34 : a.tmps[34]?.getD undef = _ := hd ⟨3, .data⟩ (by simp) rfl
   have b36 : a.tmps[36]?.getD undef = _ := hd ⟨5, .data⟩ (by simp) rfl
   have b37 : a.tmps[37]?.getD undef = _ := hd ⟨6, .data⟩ (by simp) rfl
   have hsz := hsW W hW
   go_simp
   refine (Sign_any W seed kn d hsl.out hdl.out).mono ?_
   rintro e w' ⟨A, c, rfl, hO, hb'⟩
   exact hK _ _ (grown_of_below hb') ⟨Nat.le_trans hsz hb'.size, A, c, rfl, hO.less hsz⟩
  ·intro a W hW hb hd K hK
   have b32 : a.tmps[32]?.getD undef = _ := hd ⟨1, .data⟩ (by simp) rfl
   obtain ⟨hsz, A, c, b38, hO⟩ := hd ⟨7, .data⟩ (by simp) rfl
   change a.tmps[38]?.getD undef = _ at b38
   go_simp
   exact hK _ _ (World.grownBy.refl _ _) ⟨hsz, A, c, rfl, hO⟩
  ·intro a W hW hb hd K hK
   go_simp
   exact hK _ _ (grown_alloc _ _) ⟨_, rfl, hsW W hW, Cells.new _ _ _⟩
 case fin =>
  intro vs V hV hv
  obtain ⟨g, e9, hg9, hC9⟩ : ∃ g, vs 9 = .pointer (some ⟨g, 0, none⟩) ∧ w.heap.size + 1 + 1 + 1 + 1 ≤ g ∧ Cells V g 60 sgz := hv 9 (by decide)
  obtain ⟨hsz, Ac, cc, e8, hO⟩ : w.heap.size + 1 + 1 + 1 + 1 ≤ V.heap.size ∧ ∃ A c, vs 8 = .agg (sgCells kn A 68 c none 0 0).toArray ∧ Go.Adm.Own V (w.heap.size + 1 + 1 + 1 + 1) 41 16 A 68 c (hvs (signS seed kn d)).flatten := hv 8 (by decide)
  simp only [putAll, List.drop_succ_cons, List.drop_zero, e8, e9, Act.put, List.setIfInBounds_toArray, List.set_cons_succ, List.set_cons_zero]
  have hne : (Value.slice Ac 68 cc).ownBlock ≠ some g := hO.ne_cells hC9 (by decide)
  have hcB : ∀ b, (Value.slice Ac 68 cc).ownBlock = some b → b < V.heap.size := fun b hb => (hO.lt hb).2
  have hV1 : All V [.cells g 60 sgz, .cells (w.heap.size + 1 + 1 + 1) 60 sgz, .cells (w.heap.size + 1 + 1) 43 siz, .cells (w.heap.size + 1) 37 (d.map bv), .cells w.heap.size 43 (siCells seed kh kn), .own (w.heap.size + 1 + 1 + 1 + 1) 41 16 Ac 68 cc (hvs (signS seed kn d)).flatten, .kept w w.heap.size] := ⟨hC9, hV.1, hV.2.1, hV.2.2.1, hV.2.2.2.1, hO, hV.2.2.2.2.1, trivial⟩
  clear hv hV hC9 hO hsz e8 e9 hW hW0 hsW
  refine wl_store_at hV1 0 rfl 60 (.tmp 7) (.tmp 39) rfl g _ _ (sgCells kn Ac 68 cc none 0 0) rfl rfl rfl rfl (by kernel_rfl) (sg_one _ _ _ _ _ _ _) (by simp [Apart, Res.apart, hne] <;> omega) ?_
  intro V2 hV2 hs2
  rw [← hs2] at hcB
  clear hV1 hs2
  simp only [List.set_cons_zero] at hV2
  have c1 := si_at16 hsl.out (hV2.at_ 4 rfl)
  rcases Nat.eq_zero_or_pos kh with hk0 | hk0
  ·subst hk0
   obtain ⟨BP, hBP⟩ : ∃ B, B = V2.heap.size := ⟨_, rfl⟩
   have hgt : decide ((0 : Int) < ((0 : Nat) : Int)) = false := by decide
   have hs2 : g < V2.heap.size := Cells.lt hV2.1
   have hV3 : All V2 [.own BP 41 16 none 0 0 (hvs (pathS seed 0 kn)).flatten, .cells g 60 (sgCells kn Ac 68 cc none 0 0), .cells (w.heap.size + 1 + 1 + 1) 60 sgz, .cells (w.heap.size + 1 + 1) 43 siz, .cells (w.heap.size + 1) 37 (d.map bv), .cells w.heap.size 43 (siCells seed 0 kn), .own (w.heap.size + 1 + 1 + 1 + 1) 41 16 Ac 68 cc (hvs (signS seed kn d)).flatten, .kept w w.heap.size] := ⟨Go.Adm.Own.nil _ _ _ _, hV2⟩
   rw [← hBP] at hcB hs2
   have hbs := Nat.le_of_eq hBP
   clear hV2 hBP
   have cn := si_at17 hsl.out (hV3.at_ 5 rfl)
   have cz := Cells.frozen (hV3.at_ 5 rfl) 17
   go_wp2_with fail
   refine wp_genP (Pr := fun X => All X [.own BP 41 16 none 0 0 (hvs (pathS seed 0 kn)).flatten, .cells g 60 (sgCells kn Ac 68 cc none 0 0), .cells (w.heap.size + 1 + 1 + 1) 60 sgz, .cells (w.heap.size + 1 + 1) 43 siz, .cells (w.heap.size + 1) 37 (d.map bv), .cells w.heap.size 43 (siCells seed 0 ((kn : Int) + 1)), .own (w.heap.size + 1 + 1 + 1 + 1) 41 16 Ac 68 cc (hvs (signS seed kn d)).flatten, .kept w w.heap.size] ∧ BP ≤ X.heap.size) (by
    have h1 := hV3.store 5 rfl 17 (.int .i64 ((kn : Int) + 1)) (by simp [Apart, Res.apart, Low.tree] <;> omega)
    rw [si_next seed 0 kn ((kn : Int) + 1) hsl.out] at h1
    exact ⟨h1, by simp [World.setCell]; omega⟩) ?_
   clear hV3 cn cz
   rintro X ⟨hX, hXs⟩
   have hXd : X.drew.heap.size = X.heap.size := rfl
   have hX0 := hX.drew
   refine wp_region_any (by kernel_rfl) ?_
   change wpAny _ _ _ _ _ _ _ (World.drew _)
   clear hX
   refine wpAny_ready (rs := [0, 1]) (by kernel_rfl) (by simp) ?_
   refine AllReady.cons rfl (fun K hK => ?_) ?_
   ·rw [if_pos (by simp [Region.wanted])]
    refine wp_load_mid 43 (.tmp 2) rfl w.heap.size 0 rfl (siCells seed 0 ((kn : Int) + 1)) _ (Cells.range (hX0.at_ 5 rfl)) Try.underlying43 rfl (by rw [si_len _ _ _ hsl.out]; kernel_rfl) ?_
    refine hK _ _ ?_
    clear hK K
    refine wpAny_ready (rs := [1, 2]) (by kernel_rfl) (by simp) ?_
    refine AllReady.cons rfl (fun K hK => ?_) ?_
    ·rw [if_pos (by simp [Region.wanted])]
     refine wp_load_mid 60 (.tmp 7) rfl g 0 rfl (sgCells kn Ac 68 cc none 0 0) _ (Cells.range (hX0.at_ 1 rfl)) Try.underlying60 rfl (by kernel_rfl) ?_
     refine hK _ _ ?_
     clear hK K
     refine wpAny_ready (rs := [2]) (by kernel_rfl) (by simp) ?_
     refine AllReady.cons rfl (fun K hK => ?_) ?_
     ·rw [if_pos (by simp [Region.wanted])]
      refine wp_store_at hX0 3 43 (.tmp 4) (.tmp 74) rfl (w.heap.size + 1 + 1) _ _ (siCells seed 0 ((kn : Int) + 1)) rfl rfl rfl (by rw [si_len _ _ _ hsl.out]; rfl) (by rw [si_len _ _ _ hsl.out]; kernel_rfl) (si_one _ _ _) (by simp [Apart, Res.apart, Low.parts, Low.els, Low.rd, Low.tree] <;> omega) ?_
      intro w22 h22 z22
      refine hK _ _ ?_
      clear hK K
      refine wpAny_ready (rs := [3]) (by kernel_rfl) (by simp) ?_
      refine AllReady.cons rfl (fun K hK => ?_) ?_
      ·rw [if_pos (by simp [Region.wanted])]
       refine wp_store_at h22 2 60 (.tmp 5) (.tmp 75) rfl (w.heap.size + 1 + 1 + 1) _ _ (sgCells kn Ac 68 cc none 0 0) rfl rfl rfl rfl (by kernel_rfl) (sg_one _ _ _ _ _ _ _) (by simp [Apart, Res.apart, Low.parts, Low.els, Low.rd, Low.tree] <;> omega) ?_
       intro w33 h33 z33
       refine hK _ _ ?_
       clear hK K
       refine wpAny_ready (rs := [4]) (by kernel_rfl) (by simp) ?_
       refine AllReady.cons rfl (fun K hK => ?_) ?_
       ·rw [if_pos (by simp [Region.wanted])]
        go_simp
        refine hK _ _ ?_
        clear hK K
        refine wpAny_done (by kernel_rfl) ?_ _
        go_wp2_with fail
        refine bodyPost_ret (v := .tuple #[.agg (siCells seed 0 ((kn : Int) + 1)).toArray, .agg (sgCells kn Ac 68 cc none 0 0).toArray, .int .i64 0]) ?_ rfl ⟨Ac, cc, none, 0, BP, rfl, by omega, by omega, Go.Adm.Own.less (h33.at_ 6 rfl) (by omega), hcB, h33.at_ 0 rfl, (h33.at_ 7 rfl).1⟩
        exact results_row_row_tmp (p := 4) (p2 := 5) (q := 6) rfl _ _ (w.heap.size + 1 + 1) 43 (siCells seed 0 ((kn : Int) + 1)).toArray (0, 0) _ rfl (h33.at_ 3 rfl) Try.underlying43 rfl (by rw [List.size_toArray, si_len _ _ _ hsl.out]; kernel_rfl) (w.heap.size + 1 + 1 + 1) 60 (sgCells kn Ac 68 cc none 0 0).toArray (0, 0) _ rfl (h33.at_ 2 rfl) Try.underlying60 rfl (by kernel_rfl)
       exact AllReady.nil
      exact AllReady.nil
     exact AllReady.nil
    refine AllReady.cons rfl (fun K hK => ?_) ?_
    ·rw [if_pos (by simp [Region.wanted])]
     refine wp_store_at hX0 3 43 (.tmp 4) (.tmp 74) rfl (w.heap.size + 1 + 1) _ _ (siCells seed 0 ((kn : Int) + 1)) rfl rfl rfl (by rw [si_len _ _ _ hsl.out]; rfl) (by rw [si_len _ _ _ hsl.out]; kernel_rfl) (si_one _ _ _) (by simp [Apart, Res.apart, Low.parts, Low.els, Low.rd, Low.tree] <;> omega) ?_
     intro w12 h12 z12
     refine hK _ _ ?_
     clear hK K
     refine wpAny_ready (rs := [1]) (by kernel_rfl) (by simp) ?_
     refine AllReady.cons rfl (fun K hK => ?_) ?_
     ·rw [if_pos (by simp [Region.wanted])]
      refine wp_load_mid 60 (.tmp 7) rfl g 0 rfl (sgCells kn Ac 68 cc none 0 0) _ (Cells.range (h12.at_ 1 rfl)) Try.underlying60 rfl (by kernel_rfl) ?_
      refine hK _ _ ?_
      clear hK K
      refine wpAny_ready (rs := [3]) (by kernel_rfl) (by simp) ?_
      refine AllReady.cons rfl (fun K hK => ?_) ?_
      ·rw [if_pos (by simp [Region.wanted])]
       refine wp_store_at h12 2 60 (.tmp 5) (.tmp 75) rfl (w.heap.size + 1 + 1 + 1) _ _ (sgCells kn Ac 68 cc none 0 0) rfl rfl rfl rfl (by kernel_rfl) (sg_one _ _ _ _ _ _ _) (by simp [Apart, Res.apart, Low.parts, Low.els, Low.rd, Low.tree] <;> omega) ?_
       intro w33 h33 z33
       refine hK _ _ ?_
       clear hK K
       refine wpAny_ready (rs := [4]) (by kernel_rfl) (by simp) ?_
       refine AllReady.cons rfl (fun K hK => ?_) ?_
       ·rw [if_pos (by simp [Region.wanted])]
        go_simp
        refine hK _ _ ?_
        clear hK K
        refine wpAny_done (by kernel_rfl) ?_ _
        go_wp2_with fail
        refine bodyPost_ret (v := .tuple #[.agg (siCells seed 0 ((kn : Int) + 1)).toArray, .agg (sgCells kn Ac 68 cc none 0 0).toArray, .int .i64 0]) ?_ rfl ⟨Ac, cc, none, 0, BP, rfl, by omega, by omega, Go.Adm.Own.less (h33.at_ 6 rfl) (by omega), hcB, h33.at_ 0 rfl, (h33.at_ 7 rfl).1⟩
        exact results_row_row_tmp (p := 4) (p2 := 5) (q := 6) rfl _ _ (w.heap.size + 1 + 1) 43 (siCells seed 0 ((kn : Int) + 1)).toArray (0, 0) _ rfl (h33.at_ 3 rfl) Try.underlying43 rfl (by rw [List.size_toArray, si_len _ _ _ hsl.out]; kernel_rfl) (w.heap.size + 1 + 1 + 1) 60 (sgCells kn Ac 68 cc none 0 0).toArray (0, 0) _ rfl (h33.at_ 2 rfl) Try.underlying60 rfl (by kernel_rfl)
       exact AllReady.nil
      exact AllReady.nil
     exact AllReady.nil
    exact AllReady.nil
   refine AllReady.cons rfl (fun K hK => ?_) ?_
   ·rw [if_pos (by simp [Region.wanted])]
    refine wp_load_mid 60 (.tmp 7) rfl g 0 rfl (sgCells kn Ac 68 cc none 0 0) _ (Cells.range (hX0.at_ 1 rfl)) Try.underlying60 rfl (by kernel_rfl) ?_
    refine hK _ _ ?_
    clear hK K
    refine wpAny_ready (rs := [0]) (by kernel_rfl) (by simp) ?_
    refine AllReady.cons rfl (fun K hK => ?_) ?_
    ·rw [if_pos (by simp [Region.wanted])]
     refine wp_load_mid 43 (.tmp 2) rfl w.heap.size 0 rfl (siCells seed 0 ((kn : Int) + 1)) _ (Cells.range (hX0.at_ 5 rfl)) Try.underlying43 rfl (by rw [si_len _ _ _ hsl.out]; kernel_rfl) ?_
     refine hK _ _ ?_
     clear hK K
     refine wpAny_ready (rs := [2]) (by kernel_rfl) (by simp) ?_
     refine AllReady.cons rfl (fun K hK => ?_) ?_
     ·rw [if_pos (by simp [Region.wanted])]
      refine wp_store_at hX0 3 43 (.tmp 4) (.tmp 74) rfl (w.heap.size + 1 + 1) _ _ (siCells seed 0 ((kn : Int) + 1)) rfl rfl rfl (by rw [si_len _ _ _ hsl.out]; rfl) (by rw [si_len _ _ _ hsl.out]; kernel_rfl) (si_one _ _ _) (by simp [Apart, Res.apart, Low.parts, Low.els, Low.rd, Low.tree] <;> omega) ?_
      intro w22 h22 z22
      refine hK _ _ ?_
      clear hK K
      refine wpAny_ready (rs := [3]) (by kernel_rfl) (by simp) ?_
      refine AllReady.cons rfl (fun K hK => ?_) ?_
      ·rw [if_pos (by simp [Region.wanted])]
       refine wp_store_at h22 2 60 (.tmp 5) (.tmp 75) rfl (w.heap.size + 1 + 1 + 1) _ _ (sgCells kn Ac 68 cc none 0 0) rfl rfl rfl rfl (by kernel_rfl) (sg_one _ _ _ _ _ _ _) (by simp [Apart, Res.apart, Low.parts, Low.els, Low.rd, Low.tree] <;> omega) ?_
       intro w33 h33 z33
       refine hK _ _ ?_
       clear hK K
       refine wpAny_ready (rs := [4]) (by kernel_rfl) (by simp) ?_
       refine AllReady.cons rfl (fun K hK => ?_) ?_
       ·rw [if_pos (by simp [Region.wanted])]
        go_simp
        refine hK _ _ ?_
        clear hK K
        refine wpAny_done (by kernel_rfl) ?_ _
        go_wp2_with fail
        refine bodyPost_ret (v := .tuple #[.agg (siCells seed 0 ((kn : Int) + 1)).toArray, .agg (sgCells kn Ac 68 cc none 0 0).toArray, .int .i64 0]) ?_ rfl ⟨Ac, cc, none, 0, BP, rfl, by omega, by omega, Go.Adm.Own.less (h33.at_ 6 rfl) (by omega), hcB, h33.at_ 0 rfl, (h33.at_ 7 rfl).1⟩
        exact results_row_row_tmp (p := 4) (p2 := 5) (q := 6) rfl _ _ (w.heap.size + 1 + 1) 43 (siCells seed 0 ((kn : Int) + 1)).toArray (0, 0) _ rfl (h33.at_ 3 rfl) Try.underlying43 rfl (by rw [List.size_toArray, si_len _ _ _ hsl.out]; kernel_rfl) (w.heap.size + 1 + 1 + 1) 60 (sgCells kn Ac 68 cc none 0 0).toArray (0, 0) _ rfl (h33.at_ 2 rfl) Try.underlying60 rfl (by kernel_rfl)
       exact AllReady.nil
      exact AllReady.nil
     exact AllReady.nil
    exact AllReady.nil
   exact AllReady.nil
  ·have hgt : decide ((0 : Int) < (kh : Int)) = true := by simp; omega
   go_wp2_with (refine wl_load_any rfl 41 (.tmp 43) rfl ⟨w.heap.size, 0, none⟩ rfl (seed.map bv) _ (si_seed hsl.out (hV2.at_ 4 rfl)) Try.underlying41 rfl (by rw [List.length_map, hsl.out]; kernel_rfl) ?_)
   refine (tree_any2 V2 seed kh hsl.out hk).mono ?_
   rintro e V3 ⟨A6, c6, vs6, rfl, hrd6, hlv6, hfr6, hb6⟩
   have hb0 := hV2.call hb6
   have hs6 := hb6.size
   have hs2 : g < V2.heap.size := Cells.lt hV2.1
   have hN := TreeIn.nest 41 16 (⟨hfr6.1, hfr6.2, hrd6, hlv6⟩ : TreeIn V2.heap.size V3.heap.size A6 (kh + 1) vs6 (lvls 0 (leavesS seed kh) kh) V3) (Nat.le_refl _)
   obtain ⟨BP, hBP⟩ : ∃ B, B = V3.heap.size := ⟨_, rfl⟩
   rw [← hBP] at hN
   have hI0 : All V3 [.own BP 41 16 none 0 0 (hvs ((pathS seed kh kn).take 0)).flatten, .cells g 60 (sgCells kn Ac 68 cc none 0 0), .cells (w.heap.size + 1 + 1 + 1) 60 sgz, .cells (w.heap.size + 1 + 1) 43 siz, .cells (w.heap.size + 1) 37 (d.map bv), .cells w.heap.size 43 (siCells seed kh kn), .own (w.heap.size + 1 + 1 + 1 + 1) 41 16 Ac 68 cc (hvs (signS seed kn d)).flatten, .kept w w.heap.size, .nest V2.heap.size 41 16 none 0 0 [] 0 (fun b => V2.heap.size ≤ b ∧ b < BP) (TreeIn V2.heap.size BP A6 (kh + 1) vs6 (lvls 0 (leavesS seed kh) kh))] := ⟨Go.Adm.Own.nil _ _ _ _, hb0.1, hb0.2.1, hb0.2.2.1, hb0.2.2.2.1, hb0.2.2.2.2.1, hb0.2.2.2.2.2.1, hb0.2.2.2.2.2.2.1, hN, trivial⟩
   have hcB2 : ∀ b, (Value.slice Ac 68 cc).ownBlock = some b → b < BP := fun b hb => by have := hcB b hb; omega
   have hbs : BP ≤ V3.heap.size := Nat.le_of_eq hBP
   have hgB : g < BP := by omega
   have hlB : V2.heap.size < BP := by
    obtain ⟨ad, e, hlt, _⟩ := hrd6.at_ (by omega)
    have := hfr6.1 ad e
    omega
   have c1 := si_at16 hsl.out (hI0.at_ 5 rfl)
   clear hV2 hb0 hs6 hrd6 hlv6 hfr6 hb6 hN hcB hBP
   go_wp2_with fail
   clear c1
   go_loopw [50] (fun i wr => ∃ (k : Nat) (A' : Option Addr) (c' : Nat), k ≤ kh ∧ i = .int .i64 k ∧ All wr [.own BP 41 16 A' k c' (hvs ((pathS seed kh kn).take k)).flatten, .cells g 60 (sgCells kn Ac 68 cc A' k c'), .cells (w.heap.size + 1 + 1 + 1) 60 sgz, .cells (w.heap.size + 1 + 1) 43 siz, .cells (w.heap.size + 1) 37 (d.map bv), .cells w.heap.size 43 (siCells seed kh kn), .own (w.heap.size + 1 + 1 + 1 + 1) 41 16 Ac 68 cc (hvs (signS seed kn d)).flatten, .kept w w.heap.size, .nest V2.heap.size 41 16 none 0 0 [] 0 (fun b => V2.heap.size ≤ b ∧ b < BP) (TreeIn V2.heap.size BP A6 (kh + 1) vs6 (lvls 0 (leavesS seed kh) kh))] ∧ BP ≤ wr.heap.size) (fun i _ => kh - (intOf i).toNat)
   case atStart => exact ⟨0, none, 0, by omega, rfl, hI0, hbs⟩
   case round =>
    obtain ⟨k, A', c', hkk, rfl, hI, hsz⟩ := hrel
    clear hI0 hbs
    by_cases hlt : k < kh
    ·have hM := Lib.hid (pathS_succ seed kh kn k hlt)
     obtain ⟨ad6, cl, adl, rfl, hsib⟩ := TreeIn.sib (hI.at_ 8 rfl : Nest ..).inn hlt HB.out
     have HT : Hid (∀ W, All W [.own BP 41 16 A' k c' (hvs ((pathS seed kh kn).take k)).flatten, .cells g 60 (sgCells kn Ac 68 cc A' k c'), .cells (w.heap.size + 1 + 1 + 1) 60 sgz, .cells (w.heap.size + 1 + 1) 43 siz, .cells (w.heap.size + 1) 37 (d.map bv), .cells w.heap.size 43 (siCells seed kh kn), .own (w.heap.size + 1 + 1 + 1 + 1) 41 16 Ac 68 cc (hvs (signS seed kn d)).flatten, .kept w w.heap.size, .nest V2.heap.size 41 16 none 0 0 [] 0 (fun b => V2.heap.size ≤ b ∧ b < BP) (TreeIn V2.heap.size BP (some ad6) (kh + 1) vs6 (lvls 0 (leavesS seed kh) kh))] → W.cell? (ad6.add k) = some (.slice (some adl) (lvl 0 (leavesS seed kh) k).length cl) ∧ ∀ j u, ((sibF seed kh kn k).map bv)[j]? = some u → W.cell? ((adl.add ((kn / 2 ^ k ^^^ 1) * 16)).add j) = some u) := Lib.hid (fun W hW => hsib W (hW.at_ 8 rfl : Nest ..).inn)
     have h16 := Lib.hid (sibF_len seed kh kn k hlt HB.out)
     have hml := lvl_sib seed kh kn k hlt HB.out
     have hi64 : kn / 2 ^ k < 64 := Nat.lt_of_le_of_lt (Nat.div_le_self _ _) hkn64
     have hxo := xor1 (kn / 2 ^ k) hi64
     have hxo2 : bits .xor .i64 ((kn : Int) / 2 ^ k) 1 = ((kn / 2 ^ k ^^^ 1 : Nat) : Int) := by
      rw [← hxo]
      push_cast
      rfl
     have hsh : ((kn : Int).fdiv (2 ^ k)) = ((kn / 2 ^ k : Nat) : Int) := by
      rw [Int.fdiv_eq_ediv_of_nonneg _ (by exact_mod_cast Nat.zero_le _)]
      push_cast
      rfl
     have wk0 : (0 : Int) ≤ (k : Int) := by omega
     have wk1 : (k : Int) < ((kh + 1 : Nat) : Int) := by omega
     have wk1' : (k : Int) < (kh : Int) + 1 := by omega
     have wk2 : ((k : Int)).toNat = k := by omega
     have wm0 : (0 : Int) ≤ ((kn / 2 ^ k ^^^ 1 : Nat) : Int) := by omega
     clear hsib
     go_wp2_with fail
     refine wp_region_hops 14 [53, 54, 55, 56, 57, 58, 59, 60, 61, 62, 63, 64, 65, 66] _
      [.eq (.pointer (some ⟨g, 2, none⟩)), .eq (.slice A' k c'), .eq (.slice (some ad6) (kh + 1) c6), .eq (.int .i64 k), .eq (.pointer (some (ad6.add k))), .eq (.slice (some adl) (lvl 0 (leavesS seed kh) k).length cl), .eq (.pointer (some ⟨w.heap.size, 17, none⟩)), .eq (.int .i64 kn), .eq (.int .i64 k), .eq (.int .i64 ((kn / 2 ^ k : Nat) : Int)), .eq (.int .i64 ((kn / 2 ^ k ^^^ 1 : Nat) : Int)), .eq (.pointer (some (adl.add ((kn / 2 ^ k ^^^ 1) * 16)))), .eq (.agg ((sibF seed kh kn k).map bv).toArray), .rd 16 1 ((sibF seed kh kn k).map bv)]
      (by kernel_rfl) (by kernel_rfl) hI rfl ?hops ?fin
     case hops =>
      refine ⟨?_, ?_, ?_, ?_, ?_, ?_, ?_, ?_, ?_, ?_, ?_, ?_, ?_, ?_, trivial⟩
      ·intro a W hW hb hd K hK
       have b7 := hb 7 rfl
       go_simp
       exact hK _ _ (World.grownBy.refl _ _) rfl
      ·intro a W hW hb hd K hK
       have b53 : a.tmps[53]?.getD undef = _ := hd ⟨0, .data⟩ (by simp) rfl
       have c3 : W.cell? ⟨g, 2, none⟩ = some (.slice A' k c') := Cells.cell (hW.at_ 1 rfl) (i := 2) (by simp [sgCells])
       go_simp
       exact hK _ _ (World.grownBy.refl _ _) rfl
      ·intro a W hW hb hd K hK
       have b8 := hb 8 rfl
       go_simp
       exact hK _ _ (World.grownBy.refl _ _) rfl
      ·intro a W hW hb hd K hK
       have b9 := hb 9 rfl
       go_simp
       exact hK _ _ (World.grownBy.refl _ _) rfl
      ·intro a W hW hb hd K hK
       have b55 : a.tmps[55]?.getD undef = _ := hd ⟨2, .data⟩ (by simp) rfl
       have b56 : a.tmps[56]?.getD undef = _ := hd ⟨3, .data⟩ (by simp) rfl
       go_simp
       exact hK _ _ (World.grownBy.refl _ _) rfl
      ·intro a W hW hb hd K hK
       have b57 : a.tmps[57]?.getD undef = _ := hd ⟨4, .data⟩ (by simp) rfl
       have c4 := (HT.out W hW).1
       go_simp
       exact hK _ _ (World.grownBy.refl _ _) rfl
      ·intro a W hW hb hd K hK
       have b2 := hb 2 rfl
       go_simp
       exact hK _ _ (World.grownBy.refl _ _) rfl
      ·intro a W hW hb hd K hK
       have b59 : a.tmps[59]?.getD undef = _ := hd ⟨6, .data⟩ (by simp) rfl
       have c5 := si_at17 hsl.out (hW.at_ 5 rfl)
       go_simp
       exact hK _ _ (World.grownBy.refl _ _) rfl
      ·intro a W hW hb hd K hK
       have b9 := hb 9 rfl
       go_simp
       exact hK _ _ (World.grownBy.refl _ _) rfl
      ·intro a W hW hb hd K hK
       have b60 : a.tmps[60]?.getD undef = _ := hd ⟨7, .data⟩ (by simp) rfl
       have b61 : a.tmps[61]?.getD undef = _ := hd ⟨8, .data⟩ (by simp) rfl
       go_simp
       exact hK _ _ (World.grownBy.refl _ _) rfl
      ·intro a W hW hb hd K hK
       have b62 : a.tmps[62]?.getD undef = _ := hd ⟨9, .data⟩ (by simp) rfl
       go_simp
       exact hK _ _ (World.grownBy.refl _ _) rfl
      ·intro a W hW hb hd K hK
       have b58 : a.tmps[58]?.getD undef = _ := hd ⟨5, .data⟩ (by simp) rfl
       have b63 : a.tmps[63]?.getD undef = _ := hd ⟨10, .data⟩ (by simp) rfl
       go_simp
       exact hK _ _ (World.grownBy.refl _ _) rfl
      ·intro a W hW hb hd K hK
       have b64 : a.tmps[64]?.getD undef = _ := hd ⟨11, .data⟩ (by simp) rfl
       refine wp_load_any 41 (.tmp 64) rfl (adl.add ((kn / 2 ^ k ^^^ 1) * 16)) (by simp [Act.eval, b64]) ((sibF seed kh kn k).map bv) _ (HT.out W hW).2 Try.underlying41 rfl (by rw [List.length_map, h16.out]; kernel_rfl) ?_
       exact hK _ _ (World.grownBy.refl _ _) rfl
      ·intro a W hW hb hd K hK
       have b65 : a.tmps[65]?.getD undef = _ := hd ⟨12, .data⟩ (by simp) rfl
       refine wp_lit1 els_half (.tmp 65) rfl ((sibF seed kh kn k).map bv) (by simp [Act.eval, b65]) (by rw [List.length_map, h16.out]) (by decide) ?_
       exact hK _ _ (grown_alloc _ _) ⟨_, _, rfl, (Rd.lit W ((sibF seed kh kn k).map bv).toArray _ 1 (by rw [List.size_toArray, List.length_map, h16.out])).mono (by simp)⟩
     case fin =>
      intro vs W hW hv
      have e1 : vs 1 = _ := hv 1 (by decide)
      obtain ⟨A7, c7, e13, hr13⟩ : ∃ A c, vs 13 = .slice A 1 c ∧ Rd W W.heap.size 16 A 1 ((sibF seed kh kn k).map bv) := hv 13 (by decide)
      have hsW : BP ≤ W.heap.size := by
       have h1 := (hW.at_ 8 rfl : Nest ..).fr (BP - 1) ⟨by omega, by omega⟩
       omega
      clear hv hI HT
      simp only [putAll, List.drop_succ_cons, List.drop_zero, e1, e13, Act.put, List.setIfInBounds_toArray, List.set_cons_succ, List.set_cons_zero]
      clear e1 e13
      generalize sibF seed kh kn k = x at *
      refine wl_app_at els_half hW 0 rfl (.tmp 54) (.tmp 66) rfl BP _ _ _ _ rfl rfl W.heap.size _ 1 _ (x.map bv) rfl hr13 (bv_one _) (by omega) hsW (by intro b hb hob; have hq : (Value.slice Ac 68 cc).ownBlock ≠ some b := fun e => (by have := hcB2 b e; omega); have hq3 : (Value.slice none 0 0).ownBlock = none := rfl; simp [Apart, Res.apart, Low.els, Low.cell, hq, hq3, hb] <;> omega) ?_
      intro A8 c8 w8 hI8 hs8
      have c9 : w8.cell? ⟨g, 2, none⟩ = some (.slice A' k c') := Cells.cell (hI8.at_ 1 rfl) (i := 2) (by simp [sgCells])
      have z9 := Cells.frozen (hI8.at_ 1 rfl) 2
      go_wp2_with fail
      refine ⟨⟨k + 1, A8, c8, by omega, by go_num, ?_, ?_⟩, by simp [intOf]; omega⟩
      ·rw [hM.out, ← hvs_snoc]
       exact hI8.store 1 rfl 2 (.slice A8 (k + 1) c8) (by simp [Apart, Res.apart, hne] <;> omega)
      ·simp [World.setCell]; omega
    ·obtain rfl : k = kh := by omega
     rw [List.take_of_length_le (by rw [hpl.out]; omega)] at hI
     have hT : All wr [.own BP 41 16 A' k c' (hvs (pathS seed k kn)).flatten, .cells g 60 (sgCells kn Ac 68 cc A' k c'), .cells (w.heap.size + 1 + 1 + 1) 60 sgz, .cells (w.heap.size + 1 + 1) 43 siz, .cells (w.heap.size + 1) 37 (d.map bv), .cells w.heap.size 43 (siCells seed k kn), .own (w.heap.size + 1 + 1 + 1 + 1) 41 16 Ac 68 cc (hvs (signS seed kn d)).flatten, .kept w w.heap.size] := ⟨hI.1, hI.2.1, hI.2.2.1, hI.2.2.2.1, hI.2.2.2.2.1, hI.2.2.2.2.2.1, hI.2.2.2.2.2.2.1, hI.2.2.2.2.2.2.2.1, trivial⟩
     have hcB := hcB2
     clear hI
     have cn := si_at17 hsl.out (hT.at_ 5 rfl)
     have cz := Cells.frozen (hT.at_ 5 rfl) 17
     go_wp2_with fail
     refine wp_genP (Pr := fun X => All X [.own BP 41 16 A' k c' (hvs (pathS seed k kn)).flatten, .cells g 60 (sgCells kn Ac 68 cc A' k c'), .cells (w.heap.size + 1 + 1 + 1) 60 sgz, .cells (w.heap.size + 1 + 1) 43 siz, .cells (w.heap.size + 1) 37 (d.map bv), .cells w.heap.size 43 (siCells seed k ((kn : Int) + 1)), .own (w.heap.size + 1 + 1 + 1 + 1) 41 16 Ac 68 cc (hvs (signS seed kn d)).flatten, .kept w w.heap.size] ∧ BP ≤ X.heap.size) (by
      have h1 := hT.store 5 rfl 17 (.int .i64 ((kn : Int) + 1)) (by simp [Apart, Res.apart, Low.tree] <;> omega)
      rw [si_next seed k kn ((kn : Int) + 1) hsl.out] at h1
      exact ⟨h1, by simp [World.setCell]; omega⟩) ?_
     clear hT cn cz
     rintro X ⟨hX, hXs⟩
     have hXd : X.drew.heap.size = X.heap.size := rfl
     have hX0 := hX.drew
     refine wp_region_any (by kernel_rfl) ?_
     change wpAny _ _ _ _ _ _ _ (World.drew _)
     clear hX
     refine wpAny_ready (rs := [0, 1]) (by kernel_rfl) (by simp) ?_
     refine AllReady.cons rfl (fun K hK => ?_) ?_
     ·rw [if_pos (by simp [Region.wanted])]
      refine wp_load_mid 43 (.tmp 2) rfl w.heap.size 0 rfl (siCells seed k ((kn : Int) + 1)) _ (Cells.range (hX0.at_ 5 rfl)) Try.underlying43 rfl (by rw [si_len _ _ _ hsl.out]; kernel_rfl) ?_
      refine hK _ _ ?_
      clear hK K
      refine wpAny_ready (rs := [1, 2]) (by kernel_rfl) (by simp) ?_
      refine AllReady.cons rfl (fun K hK => ?_) ?_
      ·rw [if_pos (by simp [Region.wanted])]
       refine wp_load_mid 60 (.tmp 7) rfl g 0 rfl (sgCells kn Ac 68 cc A' k c') _ (Cells.range (hX0.at_ 1 rfl)) Try.underlying60 rfl (by kernel_rfl) ?_
       refine hK _ _ ?_
       clear hK K
       refine wpAny_ready (rs := [2]) (by kernel_rfl) (by simp) ?_
       refine AllReady.cons rfl (fun K hK => ?_) ?_
       ·rw [if_pos (by simp [Region.wanted])]
        refine wp_store_at hX0 3 43 (.tmp 4) (.tmp 74) rfl (w.heap.size + 1 + 1) _ _ (siCells seed k ((kn : Int) + 1)) rfl rfl rfl (by rw [si_len _ _ _ hsl.out]; rfl) (by rw [si_len _ _ _ hsl.out]; kernel_rfl) (si_one _ _ _) (by simp [Apart, Res.apart, Low.parts, Low.els, Low.rd, Low.tree] <;> omega) ?_
        intro w22 h22 z22
        refine hK _ _ ?_
        clear hK K
        refine wpAny_ready (rs := [3]) (by kernel_rfl) (by simp) ?_
        refine AllReady.cons rfl (fun K hK => ?_) ?_
        ·rw [if_pos (by simp [Region.wanted])]
         refine wp_store_at h22 2 60 (.tmp 5) (.tmp 75) rfl (w.heap.size + 1 + 1 + 1) _ _ (sgCells kn Ac 68 cc A' k c') rfl rfl rfl rfl (by kernel_rfl) (sg_one _ _ _ _ _ _ _) (by simp [Apart, Res.apart, Low.parts, Low.els, Low.rd, Low.tree] <;> omega) ?_
         intro w33 h33 z33
         refine hK _ _ ?_
         clear hK K
         refine wpAny_ready (rs := [4]) (by kernel_rfl) (by simp) ?_
         refine AllReady.cons rfl (fun K hK => ?_) ?_
         ·rw [if_pos (by simp [Region.wanted])]
          go_simp
          refine hK _ _ ?_
          clear hK K
          refine wpAny_done (by kernel_rfl) ?_ _
          go_wp2_with fail
          refine bodyPost_ret (v := .tuple #[.agg (siCells seed k ((kn : Int) + 1)).toArray, .agg (sgCells kn Ac 68 cc A' k c').toArray, .int .i64 0]) ?_ rfl ⟨Ac, cc, A', c', BP, rfl, by omega, by omega, Go.Adm.Own.less (h33.at_ 6 rfl) (by omega), hcB, h33.at_ 0 rfl, (h33.at_ 7 rfl).1⟩
          exact results_row_row_tmp (p := 4) (p2 := 5) (q := 6) rfl _ _ (w.heap.size + 1 + 1) 43 (siCells seed k ((kn : Int) + 1)).toArray (0, 0) _ rfl (h33.at_ 3 rfl) Try.underlying43 rfl (by rw [List.size_toArray, si_len _ _ _ hsl.out]; kernel_rfl) (w.heap.size + 1 + 1 + 1) 60 (sgCells kn Ac 68 cc A' k c').toArray (0, 0) _ rfl (h33.at_ 2 rfl) Try.underlying60 rfl (by kernel_rfl)
         exact AllReady.nil
        exact AllReady.nil
       exact AllReady.nil
      refine AllReady.cons rfl (fun K hK => ?_) ?_
      ·rw [if_pos (by simp [Region.wanted])]
       refine wp_store_at hX0 3 43 (.tmp 4) (.tmp 74) rfl (w.heap.size + 1 + 1) _ _ (siCells seed k ((kn : Int) + 1)) rfl rfl rfl (by rw [si_len _ _ _ hsl.out]; rfl) (by rw [si_len _ _ _ hsl.out]; kernel_rfl) (si_one _ _ _) (by simp [Apart, Res.apart, Low.parts, Low.els, Low.rd, Low.tree] <;> omega) ?_
       intro w12 h12 z12
       refine hK _ _ ?_
       clear hK K
       refine wpAny_ready (rs := [1]) (by kernel_rfl) (by simp) ?_
       refine AllReady.cons rfl (fun K hK => ?_) ?_
       ·rw [if_pos (by simp [Region.wanted])]
        refine wp_load_mid 60 (.tmp 7) rfl g 0 rfl (sgCells kn Ac 68 cc A' k c') _ (Cells.range (h12.at_ 1 rfl)) Try.underlying60 rfl (by kernel_rfl) ?_
        refine hK _ _ ?_
        clear hK K
        refine wpAny_ready (rs := [3]) (by kernel_rfl) (by simp) ?_
        refine AllReady.cons rfl (fun K hK => ?_) ?_
        ·rw [if_pos (by simp [Region.wanted])]
         refine wp_store_at h12 2 60 (.tmp 5) (.tmp 75) rfl (w.heap.size + 1 + 1 + 1) _ _ (sgCells kn Ac 68 cc A' k c') rfl rfl rfl rfl (by kernel_rfl) (sg_one _ _ _ _ _ _ _) (by simp [Apart, Res.apart, Low.parts, Low.els, Low.rd, Low.tree] <;> omega) ?_
         intro w33 h33 z33
         refine hK _ _ ?_
         clear hK K
         refine wpAny_ready (rs := [4]) (by kernel_rfl) (by simp) ?_
         refine AllReady.cons rfl (fun K hK => ?_) ?_
         ·rw [if_pos (by simp [Region.wanted])]
          go_simp
          refine hK _ _ ?_
          clear hK K
          refine wpAny_done (by kernel_rfl) ?_ _
          go_wp2_with fail
          refine bodyPost_ret (v := .tuple #[.agg (siCells seed k ((kn : Int) + 1)).toArray, .agg (sgCells kn Ac 68 cc A' k c').toArray, .int .i64 0]) ?_ rfl ⟨Ac, cc, A', c', BP, rfl, by omega, by omega, Go.Adm.Own.less (h33.at_ 6 rfl) (by omega), hcB, h33.at_ 0 rfl, (h33.at_ 7 rfl).1⟩
          exact results_row_row_tmp (p := 4) (p2 := 5) (q := 6) rfl _ _ (w.heap.size + 1 + 1) 43 (siCells seed k ((kn : Int) + 1)).toArray (0, 0) _ rfl (h33.at_ 3 rfl) Try.underlying43 rfl (by rw [List.size_toArray, si_len _ _ _ hsl.out]; kernel_rfl) (w.heap.size + 1 + 1 + 1) 60 (sgCells kn Ac 68 cc A' k c').toArray (0, 0) _ rfl (h33.at_ 2 rfl) Try.underlying60 rfl (by kernel_rfl)
         exact AllReady.nil
        exact AllReady.nil
       exact AllReady.nil
      exact AllReady.nil
     refine AllReady.cons rfl (fun K hK => ?_) ?_
     ·rw [if_pos (by simp [Region.wanted])]
      refine wp_load_mid 60 (.tmp 7) rfl g 0 rfl (sgCells kn Ac 68 cc A' k c') _ (Cells.range (hX0.at_ 1 rfl)) Try.underlying60 rfl (by kernel_rfl) ?_
      refine hK _ _ ?_
      clear hK K
      refine wpAny_ready (rs := [0]) (by kernel_rfl) (by simp) ?_
      refine AllReady.cons rfl (fun K hK => ?_) ?_
      ·rw [if_pos (by simp [Region.wanted])]
       refine wp_load_mid 43 (.tmp 2) rfl w.heap.size 0 rfl (siCells seed k ((kn : Int) + 1)) _ (Cells.range (hX0.at_ 5 rfl)) Try.underlying43 rfl (by rw [si_len _ _ _ hsl.out]; kernel_rfl) ?_
       refine hK _ _ ?_
       clear hK K
       refine wpAny_ready (rs := [2]) (by kernel_rfl) (by simp) ?_
       refine AllReady.cons rfl (fun K hK => ?_) ?_
       ·rw [if_pos (by simp [Region.wanted])]
        refine wp_store_at hX0 3 43 (.tmp 4) (.tmp 74) rfl (w.heap.size + 1 + 1) _ _ (siCells seed k ((kn : Int) + 1)) rfl rfl rfl (by rw [si_len _ _ _ hsl.out]; rfl) (by rw [si_len _ _ _ hsl.out]; kernel_rfl) (si_one _ _ _) (by simp [Apart, Res.apart, Low.parts, Low.els, Low.rd, Low.tree] <;> omega) ?_
        intro w22 h22 z22
        refine hK _ _ ?_
        clear hK K
        refine wpAny_ready (rs := [3]) (by kernel_rfl) (by simp) ?_
        refine AllReady.cons rfl (fun K hK => ?_) ?_
        ·rw [if_pos (by simp [Region.wanted])]
         refine wp_store_at h22 2 60 (.tmp 5) (.tmp 75) rfl (w.heap.size + 1 + 1 + 1) _ _ (sgCells kn Ac 68 cc A' k c') rfl rfl rfl rfl (by kernel_rfl) (sg_one _ _ _ _ _ _ _) (by simp [Apart, Res.apart, Low.parts, Low.els, Low.rd, Low.tree] <;> omega) ?_
         intro w33 h33 z33
         refine hK _ _ ?_
         clear hK K
         refine wpAny_ready (rs := [4]) (by kernel_rfl) (by simp) ?_
         refine AllReady.cons rfl (fun K hK => ?_) ?_
         ·rw [if_pos (by simp [Region.wanted])]
          go_simp
          refine hK _ _ ?_
          clear hK K
          refine wpAny_done (by kernel_rfl) ?_ _
          go_wp2_with fail
          refine bodyPost_ret (v := .tuple #[.agg (siCells seed k ((kn : Int) + 1)).toArray, .agg (sgCells kn Ac 68 cc A' k c').toArray, .int .i64 0]) ?_ rfl ⟨Ac, cc, A', c', BP, rfl, by omega, by omega, Go.Adm.Own.less (h33.at_ 6 rfl) (by omega), hcB, h33.at_ 0 rfl, (h33.at_ 7 rfl).1⟩
          exact results_row_row_tmp (p := 4) (p2 := 5) (q := 6) rfl _ _ (w.heap.size + 1 + 1) 43 (siCells seed k ((kn : Int) + 1)).toArray (0, 0) _ rfl (h33.at_ 3 rfl) Try.underlying43 rfl (by rw [List.size_toArray, si_len _ _ _ hsl.out]; kernel_rfl) (w.heap.size + 1 + 1 + 1) 60 (sgCells kn Ac 68 cc A' k c').toArray (0, 0) _ rfl (h33.at_ 2 rfl) Try.underlying60 rfl (by kernel_rfl)
         exact AllReady.nil
        exact AllReady.nil
       exact AllReady.nil
      exact AllReady.nil
     exact AllReady.nil


end Go.Proofs.Ytfakjamocpamiaa

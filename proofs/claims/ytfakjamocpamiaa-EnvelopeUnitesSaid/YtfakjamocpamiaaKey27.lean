/- Sign of the document: what is made. -/
import Derived.Test.YtfakjamocpamiaaKey26
set_option linter.unusedSimpArgs false
set_option linter.unusedVariables false
namespace Go.Proofs.Ytfakjamocpamiaa
open Go Go.RowKit Go.Adm

set_option maxRecDepth 100000 in
set_option maxHeartbeats 3200000 in
theorem refSign_make (w : World) (seed d : List UInt8) (kh kn : Nat) (hs : seed.length = 16) (hd : d.length = 32) (hk : kh ≤ 6) (hb : kn < 2 ^ kh) :
  Calls Try.prog 44 #[.agg (siCells seed kh kn).toArray, .agg (d.map bv).toArray] w (SignOk seed d kh kn 41 w) := by
 have hR : All w [.kept w w.heap.size] := ⟨⟨Below.refl _ _, Nat.le_refl _⟩, trivial⟩
 have hsl := Lib.hid hs
 have hdl := Lib.hid hd
 have h64 := (pow_le64 kh hk).2
 have hx : hOk (kh : Int) = true := by unfold hOk; simp; omega
 have hn : decide ((kn : Int) < 0) = false := by simp
 have p1 : IntKind.i64.wrap (2 ^ kh) = ((2 ^ kh : Nat) : Int) := by rw [IntWalk.i64_in _ (by have := h64; have : ((2 ^ kh : Nat) : Int) = 2 ^ kh := (by simp); omega)]; simp
 have p2 : wrap64 (2 ^ kh) = ((2 ^ kh : Nat) : Int) := by have := pow_cast kh hk; simpa using this
 have hg : decide (((2 ^ kh : Nat) : Int) ≤ (kn : Int)) = false := by simp only [decide_eq_false_iff_not]; omega
 have hg2 : decide ((2 : Int) ^ kh ≤ (kn : Int)) = false := by
  simp only [decide_eq_false_iff_not]
  have : ¬ (((2 ^ kh : Nat) : Int) ≤ (kn : Int)) := by omega
  intro hc
  exact this (by exact_mod_cast hc)
 have HB := Lib.hid hb
 have hkn64 : kn < 64 := by omega
 have hki : (kh : Int) ≤ 6 := by omega
 have wkn : IntKind.i64.wrap ((kn : Int) + 1) = (kn : Int) + 1 := IntWalk.i64_in _ (by omega)
 have hpl := Lib.hid (pathS_len seed kh kn)
 clear hs hd hb h64
 go_enter Try.func44, Try.ntmps44
 go_upto_region 1 with (fail)
 refine wp_gen ((((hR.new (l := siCells seed kh kn) _ 43 rfl rfl).new (l := d.map bv) _ 37 (g := w.heap.size + 1) (by simp) rfl).new (l := siz) _ 43 (g := w.heap.size + 1 + 1) (by simp) rfl).new (l := sgz) _ 60 (g := w.heap.size + 1 + 1 + 1) (by simp) rfl) ?_
 intro W hW
 clear hR
 have c1 := si_at16 hsl.out (hW.at_ 3 rfl)
 have c2 := si_at17 hsl.out (hW.at_ 3 rfl)
 have hk0 : decide ((kh : Int) < 0) = false := by simp
 have hk6 : decide ((6 : Int) < (kh : Int)) = false := by simp; omega
 go_wp2_with fail
 refine wp_gen hW ?_
 clear c1 c2 hW
 clear W
 intro W hW0
 have hW := hW0
 have hsW : ∀ W, All W [.cells (w.heap.size + 1 + 1 + 1) 60 sgz, .cells (w.heap.size + 1 + 1) 43 siz, .cells (w.heap.size + 1) 37 (d.map bv), .cells w.heap.size 43 (siCells seed kh kn), .kept w w.heap.size] → w.heap.size + 1 + 1 + 1 + 1 ≤ W.heap.size := fun W hW => Cells.lt (hW.at_ 0 rfl)
 refine wp_region_hops 10 [35, 36, 37, 38, 39, 40, 41, 42, 43, 7] _
  [.eq (.pointer (some ⟨w.heap.size, 17, none⟩)), .eq (.int .i64 kn), .eq (.pointer (some ⟨w.heap.size, 0, none⟩)), .eq (.agg (seed.map bv).toArray), .eq (.pointer (some ⟨w.heap.size, 17, none⟩)), .eq (.int .i64 kn), .eq (.agg (d.map bv).toArray), .own (w.heap.size + 1 + 1 + 1 + 1) 41 16 68 (hvs (signS seed kn d)).flatten, .sig (w.heap.size + 1 + 1 + 1 + 1) 41 kn (hvs (signS seed kn d)).flatten, .box (w.heap.size + 1 + 1 + 1 + 1) 60 sgz]
  (by kernel_rfl) (by kernel_rfl) hW0 rfl ?hops ?fin
 case hops =>
  refine ⟨?_, ?_, ?_, ?_, ?_, ?_, ?_, ?_, ?_, ?_, trivial⟩
  ·intro a W hW hb hd K hK
   have b2 := hb 2 rfl
   go_simp
   exact hK _ _ (World.grownBy.refl _ _) rfl
  ·intro a W hW hb hd K hK
   have b35 : a.tmps[35]?.getD undef = _ := hd ⟨0, .data⟩ (by simp) rfl
   have c2 := si_at17 hsl.out (hW.at_ 3 rfl)
   go_simp
   exact hK _ _ (World.grownBy.refl _ _) rfl
  ·intro a W hW hb hd K hK
   have b2 := hb 2 rfl
   go_simp
   exact hK _ _ (World.grownBy.refl _ _) rfl
  ·intro a W hW hb hd K hK
   have b37 : a.tmps[37]?.getD undef = _ := hd ⟨2, .data⟩ (by simp) rfl
   refine wp_load_any 41 (.tmp 37) rfl ⟨w.heap.size, 0, none⟩ (by simp [Act.eval, b37]) (seed.map bv) _ (si_seed hsl.out (hW.at_ 3 rfl)) Try.underlying41 rfl (by rw [List.length_map, hsl.out]; kernel_rfl) ?_
   exact hK _ _ (World.grownBy.refl _ _) rfl
  ·intro a W hW hb hd K hK
   have b2 := hb 2 rfl
   go_simp
   exact hK _ _ (World.grownBy.refl _ _) rfl
  ·intro a W hW hb hd K hK
   have b39 : a.tmps[39]?.getD undef = _ := hd ⟨4, .data⟩ (by simp) rfl
   have c2 := si_at17 hsl.out (hW.at_ 3 rfl)
   go_simp
   exact hK _ _ (World.grownBy.refl _ _) rfl
  ·intro a W hW hb hd K hK
   have b3 := hb 3 rfl
   refine wp_load_mid 37 (.tmp 3) rfl (w.heap.size + 1) 0 (by simp [Act.eval, b3]) (d.map bv) _ (Cells.range (hW.at_ 2 rfl)) Try.underlying37 rfl (by rw [List.length_map, hdl.out]; kernel_rfl) ?_
   exact hK _ _ (World.grownBy.refl _ _) rfl
  ·intro a W hW hb hd K hK
   have b38 : a.tmps[38]?.getD undef = _ := hd ⟨3, .data⟩ (by simp) rfl
   have b40 : a.tmps[40]?.getD undef = _ := hd ⟨5, .data⟩ (by simp) rfl
   have b41 : a.tmps[41]?.getD undef = _ := hd ⟨6, .data⟩ (by simp) rfl
   have hsz := hsW W hW
   go_simp
   refine (refSign_any W seed kn d hsl.out hdl.out).mono ?_
   rintro e w' ⟨A, c, rfl, hO, hb'⟩
   exact hK _ _ (grown_of_below hb') ⟨Nat.le_trans hsz hb'.size, A, c, rfl, hO.less hsz⟩
  ·intro a W hW hb hd K hK
   have b36 : a.tmps[36]?.getD undef = _ := hd ⟨1, .data⟩ (by simp) rfl
   obtain ⟨hsz, A, c, b42, hO⟩ := hd ⟨7, .data⟩ (by simp) rfl
   change a.tmps[42]?.getD undef = _ at b42
   go_simp
   exact hK _ _ (World.grownBy.refl _ _) ⟨hsz, A, c, rfl, hO⟩
  ·intro a W hW hb hd K hK
   go_simp
   exact hK _ _ (grown_alloc _ _) ⟨_, rfl, hsW W hW, Cells.new _ _ _⟩
 case fin =>
  intro vs V hV hv
  obtain ⟨g, e9, hg9, hC9⟩ : ∃ g, vs 9 = .pointer (some ⟨g, 0, none⟩) ∧ w.heap.size + 1 + 1 + 1 + 1 ≤ g ∧ Cells V g 60 sgz := hv 9 (by decide)
  obtain ⟨hsz, Ac, cc, e8, hO⟩ : w.heap.size + 1 + 1 + 1 + 1 ≤ V.heap.size ∧ ∃ A c, vs 8 = .agg (sgCells kn A 68 c none 0 0).toArray ∧ Go.Adm.Own V (w.heap.size + 1 + 1 + 1 + 1) 41 16 A 68 c (hvs (signS seed kn d)).flatten := hv 8 (by decide)
  simp only [putAll, List.drop_succ_cons, List.drop_zero, e8, e9, Act.put, List.setIfInBounds_toArray, List.set_cons_succ, List.set_cons_zero]
  have hne : (Value.slice Ac 68 cc).ownBlock ≠ some g := hO.ne_cells hC9 (by decide)
  have hcB : ∀ b, (Value.slice Ac 68 cc).ownBlock = some b → b < V.heap.size := fun b hb => (hO.lt hb).2
  have hV1 : All V [.cells g 60 sgz, .cells (w.heap.size + 1 + 1 + 1) 60 sgz, .cells (w.heap.size + 1 + 1) 43 siz, .cells (w.heap.size + 1) 37 (d.map bv), .cells w.heap.size 43 (siCells seed kh kn), .own (w.heap.size + 1 + 1 + 1 + 1) 41 16 Ac 68 cc (hvs (signS seed kn d)).flatten, .kept w w.heap.size] := ⟨hC9, hV.1, hV.2.1, hV.2.2.1, hV.2.2.2.1, hO, hV.2.2.2.2.1, trivial⟩
  clear hv hV hC9 hO hsz e8 e9 hW hW0 hsW
  refine wl_store_at hV1 0 rfl 60 (.tmp 7) (.tmp 43) rfl g _ _ (sgCells kn Ac 68 cc none 0 0) rfl rfl rfl rfl (by kernel_rfl) (sg_one _ _ _ _ _ _ _) (by simp [Apart, Res.apart, hne] <;> omega) ?_
  intro V2 hV2 hs2
  rw [← hs2] at hcB
  clear hV1 hs2
  simp only [List.set_cons_zero] at hV2
  have c1 := si_at16 hsl.out (hV2.at_ 4 rfl)
  go_wp2_with (refine wl_load_any rfl 41 (.tmp 44) rfl ⟨w.heap.size, 0, none⟩ rfl (seed.map bv) _ (si_seed hsl.out (hV2.at_ 4 rfl)) Try.underlying41 rfl (by rw [List.length_map, hsl.out]; kernel_rfl) ?_)
  refine (leaves_any V2 seed kh hsl.out hk).mono ?_
  rintro e V3 ⟨Al0, cl0, rfl, hl0, hb6⟩
  have hb0 := hV2.call hb6
  have hs6 := hb6.size
  have hs2 : g < V2.heap.size := Cells.lt hV2.1
  obtain ⟨BP, hBP⟩ : ∃ B, B = V2.heap.size := ⟨_, rfl⟩
  have hll : (lvl 0 (leavesS seed kh) 0).length = 2 ^ kh := by simp [lvl, leavesS]
  have hI0 : All V3 [.own BP 41 16 none 0 0 (hvs ((pathS seed kh kn).take 0)).flatten, .own BP 41 16 Al0 (lvl 0 (leavesS seed kh) 0).length cl0 (hvs (lvl 0 (leavesS seed kh) 0)).flatten, .cells g 60 (sgCells kn Ac 68 cc none 0 0), .cells (w.heap.size + 1 + 1 + 1) 60 sgz, .cells (w.heap.size + 1 + 1) 43 siz, .cells (w.heap.size + 1) 37 (d.map bv), .cells w.heap.size 43 (siCells seed kh kn), .own (w.heap.size + 1 + 1 + 1 + 1) 41 16 Ac 68 cc (hvs (signS seed kn d)).flatten, .kept w w.heap.size] := ⟨Go.Adm.Own.nil _ _ _ _, by rw [hBP, hll]; exact hl0, hb0⟩
  rw [← hll]
  rw [← hBP] at hcB hs2 hs6
  have c1 := si_at16 hsl.out (hI0.at_ 6 rfl)
  have c2 := si_at17 hsl.out (hI0.at_ 6 rfl)
  clear hV2 hb0 hl0 hb6 hBP hll
  go_wp2_with fail
  clear c1 c2
  go_loopw [8, 9, 10] (fun lv iv kv wr => ∃ (k : Nat) (A' : Option Addr) (c' : Nat) (Al : Option Addr) (cl : Nat), k ≤ kh ∧ kv = .int .i64 k ∧ iv = .int .i64 ((kn / 2 ^ k : Nat) : Int) ∧ lv = .slice Al (lvl 0 (leavesS seed kh) k).length cl ∧ All wr [.own BP 41 16 A' k c' (hvs ((pathS seed kh kn).take k)).flatten, .own BP 41 16 Al (lvl 0 (leavesS seed kh) k).length cl (hvs (lvl 0 (leavesS seed kh) k)).flatten, .cells g 60 (sgCells kn Ac 68 cc A' k c'), .cells (w.heap.size + 1 + 1 + 1) 60 sgz, .cells (w.heap.size + 1 + 1) 43 siz, .cells (w.heap.size + 1) 37 (d.map bv), .cells w.heap.size 43 (siCells seed kh kn), .own (w.heap.size + 1 + 1 + 1 + 1) 41 16 Ac 68 cc (hvs (signS seed kn d)).flatten, .kept w w.heap.size] ∧ (∀ b, (Value.slice A' k c').ownBlock = some b → (Value.slice Al (lvl 0 (leavesS seed kh) k).length cl).ownBlock ≠ some b) ∧ BP ≤ wr.heap.size) (fun _ _ kv _ => kh - (intOf kv).toNat)
  case atStart => exact ⟨0, none, 0, Al0, cl0, by omega, rfl, by simp, rfl, hI0, (fun b hb => (by cases hb)), hs6⟩
  case round =>
   obtain ⟨k, A', c', Al, cl, hkk, rfl, rfl, rfl, hI, hD, hsz⟩ := hrel
   clear hI0 hs6
   have c1 := si_at16 hsl.out (hI.at_ 6 rfl)
   by_cases hlt : k < kh
   ·have hM := Lib.hid (pathS_succ seed kh kn k hlt)
    have hml := lvl_sib seed kh kn k hlt HB.out
    have hE0 := Els.of (hI.at_ 1 rfl) (hvs_each (lvl_each 0 _ (leavesS_each seed kh) k)) (by rw [hvs_len])
    obtain ⟨al, rfl, -, -⟩ := Els.half hE0 hml
    have HT : Hid (∀ W, All W [.own BP 41 16 A' k c' (hvs ((pathS seed kh kn).take k)).flatten, .own BP 41 16 (some al) (lvl 0 (leavesS seed kh) k).length cl (hvs (lvl 0 (leavesS seed kh) k)).flatten, .cells g 60 (sgCells kn Ac 68 cc A' k c'), .cells (w.heap.size + 1 + 1 + 1) 60 sgz, .cells (w.heap.size + 1 + 1) 43 siz, .cells (w.heap.size + 1) 37 (d.map bv), .cells w.heap.size 43 (siCells seed kh kn), .own (w.heap.size + 1 + 1 + 1 + 1) 41 16 Ac 68 cc (hvs (signS seed kn d)).flatten, .kept w w.heap.size] → ∀ j u, ((sibF seed kh kn k).map bv)[j]? = some u → W.cell? ((al.add ((kn / 2 ^ k ^^^ 1) * 16)).add j) = some u) := Lib.hid (fun W hW => by
     have hE := Els.of (hW.at_ 1 rfl) (hvs_each (lvl_each 0 _ (leavesS_each seed kh) k)) (by rw [hvs_len])
     obtain ⟨al', e, _, hcs⟩ := Els.half hE hml
     obtain rfl := Option.some.inj e
     rw [sibF_at seed kh kn k hlt HB.out]
     exact hcs)
    have h16 := Lib.hid (sibF_len seed kh kn k hlt HB.out)
    have HL16 := Lib.hid (lvl_each 0 _ (leavesS_each seed kh) k)
    have hup : Hid (lvl 0 (leavesS seed kh) (k + 1) = upS (k : Int) (lvl 0 (leavesS seed kh) k)) := Lib.hid (by rw [lvl, Int.zero_add])
    have hln : (lvl 0 (leavesS seed kh) k).length ≤ 1000000 := by
     rw [lvl_len 0 (leavesS seed kh) kh (by simp [leavesS]) k (by omega)]
     exact Nat.le_trans (Nat.pow_le_pow_right (by decide) (by omega : kh - k ≤ 6)) (by decide)
    have hi64 : kn / 2 ^ k < 64 := Nat.lt_of_le_of_lt (Nat.div_le_self _ _) hkn64
    have hxo := xor1 (kn / 2 ^ k) hi64
    have hdv : Hid (kn / 2 ^ k / 2 = kn / 2 ^ (k + 1)) := Lib.hid (by rw [Nat.div_div_eq_div_mul, Nat.pow_succ])
    clear hE0
    have hml' : ((kn / 2 ^ k ^^^ 1 : Nat) : Int) < ((lvl 0 (leavesS seed kh) k).length : Int) := by omega
    clear hml
    generalize hnl : (lvl 0 (leavesS seed kh) k).length = nl at *
    have HNL := Lib.hid hnl
    clear hnl
    generalize hmi : kn / 2 ^ k ^^^ 1 = m at *
    generalize hii : kn / 2 ^ k = iv at *
    generalize sibF seed kh kn k = x at *
    clear hmi hii
    go_wp2_with fail
    refine wp_region_hops 8 [57, 58, 59, 60, 61, 62, 63, 64] _
     [.eq (.pointer (some ⟨g, 2, none⟩)), .eq (.slice A' k c'), .eq (.slice (some al) nl cl), .eq (.int .i64 iv), .eq (.int .i64 m), .eq (.pointer (some (al.add (m * 16)))), .eq (.agg (x.map bv).toArray), .rd 16 1 (x.map bv)]
     (by kernel_rfl) (by kernel_rfl) hI rfl ?hops ?fin
    case hops =>
     refine ⟨?_, ?_, ?_, ?_, ?_, ?_, ?_, ?_, trivial⟩
     ·intro a W hW hb hd K hK
      have b7 := hb 7 rfl
      go_simp
      exact hK _ _ (World.grownBy.refl _ _) rfl
     ·intro a W hW hb hd K hK
      have b57 : a.tmps[57]?.getD undef = _ := hd ⟨0, .data⟩ (by simp) rfl
      have c3 : W.cell? ⟨g, 2, none⟩ = some (.slice A' k c') := Cells.cell (hW.at_ 2 rfl) (i := 2) (by simp [sgCells])
      go_simp
      exact hK _ _ (World.grownBy.refl _ _) rfl
     ·intro a W hW hb hd K hK
      have b8 := hb 8 rfl
      go_simp
      exact hK _ _ (World.grownBy.refl _ _) rfl
     ·intro a W hW hb hd K hK
      have b9 := hb 9 rfl
      go_simp
      exact hK _ _ (World.grownBy.refl _ _) rfl
     ·intro a W hW hb hd K hK
      have b60 : a.tmps[60]?.getD undef = _ := hd ⟨3, .data⟩ (by simp) rfl
      go_simp
      exact hK _ _ (World.grownBy.refl _ _) rfl
     ·intro a W hW hb hd K hK
      have b59 : a.tmps[59]?.getD undef = _ := hd ⟨2, .data⟩ (by simp) rfl
      have b61 : a.tmps[61]?.getD undef = _ := hd ⟨4, .data⟩ (by simp) rfl
      go_simp
      exact hK _ _ (World.grownBy.refl _ _) rfl
     ·intro a W hW hb hd K hK
      have b62 : a.tmps[62]?.getD undef = _ := hd ⟨5, .data⟩ (by simp) rfl
      refine wp_load_any 41 (.tmp 62) rfl (al.add (m * 16)) (by simp [Act.eval, b62]) (x.map bv) _ (HT.out W hW) Try.underlying41 rfl (by rw [List.length_map, h16.out]; kernel_rfl) ?_
      exact hK _ _ (World.grownBy.refl _ _) rfl
     ·intro a W hW hb hd K hK
      have b63 : a.tmps[63]?.getD undef = _ := hd ⟨6, .data⟩ (by simp) rfl
      refine wp_lit1 els_half (.tmp 63) rfl (x.map bv) (by simp [Act.eval, b63]) (by rw [List.length_map, h16.out]) (by decide) ?_
      exact hK _ _ (grown_alloc _ _) ⟨_, _, rfl, (Rd.lit W (x.map bv).toArray _ 1 (by rw [List.size_toArray, List.length_map, h16.out])).mono (by simp)⟩
    case fin =>
     intro vs W hW hv
     have e1 : vs 1 = _ := hv 1 (by decide)
     obtain ⟨A7, c7, e7, hr7⟩ : ∃ A c, vs 7 = .slice A 1 c ∧ Rd W W.heap.size 16 A 1 (x.map bv) := hv 7 (by decide)
     have hlo := Go.Adm.Own.lt (hW.at_ 1 rfl) rfl
     have hsW : BP ≤ W.heap.size := by omega
     clear hv hI HT
     simp only [putAll, List.drop_succ_cons, List.drop_zero, e1, e7, Act.put, List.setIfInBounds_toArray, List.set_cons_succ, List.set_cons_zero]
     clear e1 e7
     refine wl_app6 _ els_half rfl (.tmp 58) (.tmp 64) rfl BP A' k c' _ rfl hW.1 W.heap.size A7 1 c7 (x.map bv) rfl hr7 (bv_one _) (by omega) hsW ?_
     intro A8 c8 w8 hown8 hg8 hob8
     have hI8 := All.upd hg8 0 (.own BP 41 16 A8 (k + 1) c8 ((hvs ((pathS seed kh kn).take k)).flatten ++ x.map bv)) hW hown8 (by
      cases hq : (Value.slice A' k c').ownBlock with
      | none => exact Apart.none _
      | some b =>
       have hb := (Go.Adm.Own.lt (hW.at_ 0 rfl) hq).1
       have q1 := hD b hq
       have q2 : (Value.slice Ac 68 cc).ownBlock ≠ some b := fun e => (by have := hcB b e; omega)
       simp [Apart, Res.apart, Low.els, Low.cell, q1, q2] <;> omega)
     have hD8 : ∀ b, (Value.slice A8 (k + 1) c8).ownBlock = some b → (Value.slice (some al) nl cl).ownBlock ≠ some b := fun b hb e => by
      rcases hob8 with h | h
      ·rw [h] at hb; exact hD b hb e
      ·rw [h] at hb
       injection hb with hb
       have := (Go.Adm.Own.lt (hW.at_ 1 rfl) e).2
       omega
     have hs8 := hg8.size
     rw [hvs_snoc, ← hM.out] at hI8
     have c9 : w8.cell? ⟨g, 2, none⟩ = some (.slice A' k c') := Cells.cell (hI8.at_ 2 rfl) (i := 2) (by simp [sgCells])
     have z9 := Cells.frozen (hI8.at_ 2 rfl) 2
     clear hW hown8 hg8 hob8 hD
     go_wp2_with fail
     have hI9 := hI8.store 2 rfl 2 (.slice A8 (k + 1) c8) (by simp [Apart, Res.apart, hne] <;> omega)
     have hs9 : (w8.setCell ⟨g, 2, none⟩ (.slice A8 (k + 1) c8)).heap.size = w8.heap.size := by simp [World.setCell]
     clear hI8 c9 z9
     generalize w8.setCell ⟨g, 2, none⟩ (.slice A8 (k + 1) c8) = w9 at *
     have hE9 := Els.of (hI9.at_ 1 rfl) (hvs_each HL16.out) (by rw [hvs_len]; exact HNL.out)
     refine (up_any w9 w9.heap.size (some al) nl cl (k : Int) (lvl 0 (leavesS seed kh) k) hE9 HL16.out (Nat.le_refl _) hln).mono ?_
     rintro e w10 ⟨A10, c10, rfl, hO10, hb10⟩
     have hI10 := hI9.call hb10
     have hs10 := hb10.size
     rw [HNL.out] at hO10 ⊢
     have hDn : ∀ b, (Value.slice A8 (k + 1) c8).ownBlock = some b → (Value.slice A10 (nl / 2) c10).ownBlock ≠ some b := fun b hb e => by
      have h1 := (Go.Adm.Own.lt (hI9.at_ 0 rfl) hb).2
      have h2 := (Go.Adm.Own.lt hO10 e).1
      omega
     clear hE9 hb10
     have hO11 := Go.Adm.Own.less (base' := BP) hO10 (by omega)
     rw [← hup.out] at hO11
     have hq : Hid (nl / 2 = (lvl 0 (leavesS seed kh) (k + 1)).length) := Lib.hid (by rw [hup.out, upS_len, HNL.out])
     have wq : IntKind.i64.wrap ((iv : Int) / 2) = (iv : Int) / 2 := IntWalk.i64_in _ (by omega)
     clear hI9 hO10
     generalize nl / 2 = n2 at *
     go_wp2_with fail
     refine ⟨⟨k + 1, A8, c8, A10, c10, by omega, by go_num, congrArg (Value.int .i64) (by rw [← hdv.out]; omega), by rw [← hq.out], ?_, ?_, ?_⟩, by simp [intOf]; omega⟩
     ·rw [← hq.out]
      exact ⟨hI10.1, hO11, hI10.2.2⟩
     ·rw [← hq.out]
      exact hDn
     ·omega
   ·obtain rfl : k = kh := by omega
    rw [List.take_of_length_le (by rw [hpl.out]; omega)] at hI
    have hT : All wr [.own BP 41 16 A' k c' (hvs (pathS seed k kn)).flatten, .cells g 60 (sgCells kn Ac 68 cc A' k c'), .cells (w.heap.size + 1 + 1 + 1) 60 sgz, .cells (w.heap.size + 1 + 1) 43 siz, .cells (w.heap.size + 1) 37 (d.map bv), .cells w.heap.size 43 (siCells seed k kn), .own (w.heap.size + 1 + 1 + 1 + 1) 41 16 Ac 68 cc (hvs (signS seed kn d)).flatten, .kept w w.heap.size] := ⟨hI.1, hI.2.2⟩
    have hgB := hs2
    clear hI
    have cn := si_at17 hsl.out (hT.at_ 5 rfl)
    have cz := Cells.frozen (hT.at_ 5 rfl) 17
    go_wp2_with fail
    refine wp_genP (Pr := fun X => All X [.own BP 41 16 A' k c' (hvs (pathS seed k kn)).flatten, .cells g 60 (sgCells kn Ac 68 cc A' k c'), .cells (w.heap.size + 1 + 1 + 1) 60 sgz, .cells (w.heap.size + 1 + 1) 43 siz, .cells (w.heap.size + 1) 37 (d.map bv), .cells w.heap.size 43 (siCells seed k ((kn : Int) + 1)), .own (w.heap.size + 1 + 1 + 1 + 1) 41 16 Ac 68 cc (hvs (signS seed kn d)).flatten, .kept w w.heap.size] ∧ BP ≤ X.heap.size) (by
     have h1 := hT.store 5 rfl 17 (.int .i64 ((kn : Int) + 1)) (by simp [Apart, Res.apart, Low.tree] <;> omega)
     rw [si_next seed k kn ((kn : Int) + 1) hsl.out] at h1
     exact ⟨h1, by simp [World.setCell]; omega⟩) ?_
    clear hT cn cz
    rintro X ⟨hX, hXs⟩
    have hXd : X.drew.heap.size = X.heap.size := rfl
    have hX0 := hX.drew
    refine wp_region_any (by kernel_rfl) ?_
    change wpAny _ _ _ _ _ _ _ (World.drew _)
    clear hX
    refine wpAny_ready (rs := [0, 1]) (by kernel_rfl) (by simp) ?_
    refine AllReady.cons rfl (fun K hK => ?_) ?_
    ·rw [if_pos (by simp [Region.wanted])]
     refine wp_load_mid 43 (.tmp 2) rfl w.heap.size 0 rfl (siCells seed k ((kn : Int) + 1)) _ (Cells.range (hX0.at_ 5 rfl)) Try.underlying43 rfl (by rw [si_len _ _ _ hsl.out]; kernel_rfl) ?_
     refine hK _ _ ?_
     clear hK K
     refine wpAny_ready (rs := [1, 2]) (by kernel_rfl) (by simp) ?_
     refine AllReady.cons rfl (fun K hK => ?_) ?_
     ·rw [if_pos (by simp [Region.wanted])]
      refine wp_load_mid 60 (.tmp 7) rfl g 0 rfl (sgCells kn Ac 68 cc A' k c') _ (Cells.range (hX0.at_ 1 rfl)) Try.underlying60 rfl (by kernel_rfl) ?_
      refine hK _ _ ?_
      clear hK K
      refine wpAny_ready (rs := [2]) (by kernel_rfl) (by simp) ?_
      refine AllReady.cons rfl (fun K hK => ?_) ?_
      ·rw [if_pos (by simp [Region.wanted])]
       refine wp_store_at hX0 3 43 (.tmp 4) (.tmp 76) rfl (w.heap.size + 1 + 1) _ _ (siCells seed k ((kn : Int) + 1)) rfl rfl rfl (by rw [si_len _ _ _ hsl.out]; rfl) (by rw [si_len _ _ _ hsl.out]; kernel_rfl) (si_one _ _ _) (by simp [Apart, Res.apart, Low.parts, Low.els, Low.rd, Low.tree] <;> omega) ?_
       intro w22 h22 z22
       refine hK _ _ ?_
       clear hK K
       refine wpAny_ready (rs := [3]) (by kernel_rfl) (by simp) ?_
       refine AllReady.cons rfl (fun K hK => ?_) ?_
       ·rw [if_pos (by simp [Region.wanted])]
        refine wp_store_at h22 2 60 (.tmp 5) (.tmp 77) rfl (w.heap.size + 1 + 1 + 1) _ _ (sgCells kn Ac 68 cc A' k c') rfl rfl rfl rfl (by kernel_rfl) (sg_one _ _ _ _ _ _ _) (by simp [Apart, Res.apart, Low.parts, Low.els, Low.rd, Low.tree] <;> omega) ?_
        intro w33 h33 z33
        refine hK _ _ ?_
        clear hK K
        refine wpAny_ready (rs := [4]) (by kernel_rfl) (by simp) ?_
        refine AllReady.cons rfl (fun K hK => ?_) ?_
        ·rw [if_pos (by simp [Region.wanted])]
         go_simp
         refine hK _ _ ?_
         clear hK K
         refine wpAny_done (by kernel_rfl) ?_ _
         go_wp2_with fail
         refine bodyPost_ret (v := .tuple #[.agg (siCells seed k ((kn : Int) + 1)).toArray, .agg (sgCells kn Ac 68 cc A' k c').toArray, .int .i64 0]) ?_ rfl ⟨Ac, cc, A', c', BP, rfl, by omega, by omega, Go.Adm.Own.less (h33.at_ 6 rfl) (by omega), hcB, h33.at_ 0 rfl, (h33.at_ 7 rfl).1⟩
         exact results_row_row_tmp (p := 4) (p2 := 5) (q := 6) rfl _ _ (w.heap.size + 1 + 1) 43 (siCells seed k ((kn : Int) + 1)).toArray (0, 0) _ rfl (h33.at_ 3 rfl) Try.underlying43 rfl (by rw [List.size_toArray, si_len _ _ _ hsl.out]; kernel_rfl) (w.heap.size + 1 + 1 + 1) 60 (sgCells kn Ac 68 cc A' k c').toArray (0, 0) _ rfl (h33.at_ 2 rfl) Try.underlying60 rfl (by kernel_rfl)
        exact AllReady.nil
       exact AllReady.nil
      exact AllReady.nil
     refine AllReady.cons rfl (fun K hK => ?_) ?_
     ·rw [if_pos (by simp [Region.wanted])]
      refine wp_store_at hX0 3 43 (.tmp 4) (.tmp 76) rfl (w.heap.size + 1 + 1) _ _ (siCells seed k ((kn : Int) + 1)) rfl rfl rfl (by rw [si_len _ _ _ hsl.out]; rfl) (by rw [si_len _ _ _ hsl.out]; kernel_rfl) (si_one _ _ _) (by simp [Apart, Res.apart, Low.parts, Low.els, Low.rd, Low.tree] <;> omega) ?_
      intro w12 h12 z12
      refine hK _ _ ?_
      clear hK K
      refine wpAny_ready (rs := [1]) (by kernel_rfl) (by simp) ?_
      refine AllReady.cons rfl (fun K hK => ?_) ?_
      ·rw [if_pos (by simp [Region.wanted])]
       refine wp_load_mid 60 (.tmp 7) rfl g 0 rfl (sgCells kn Ac 68 cc A' k c') _ (Cells.range (h12.at_ 1 rfl)) Try.underlying60 rfl (by kernel_rfl) ?_
       refine hK _ _ ?_
       clear hK K
       refine wpAny_ready (rs := [3]) (by kernel_rfl) (by simp) ?_
       refine AllReady.cons rfl (fun K hK => ?_) ?_
       ·rw [if_pos (by simp [Region.wanted])]
        refine wp_store_at h12 2 60 (.tmp 5) (.tmp 77) rfl (w.heap.size + 1 + 1 + 1) _ _ (sgCells kn Ac 68 cc A' k c') rfl rfl rfl rfl (by kernel_rfl) (sg_one _ _ _ _ _ _ _) (by simp [Apart, Res.apart, Low.parts, Low.els, Low.rd, Low.tree] <;> omega) ?_
        intro w33 h33 z33
        refine hK _ _ ?_
        clear hK K
        refine wpAny_ready (rs := [4]) (by kernel_rfl) (by simp) ?_
        refine AllReady.cons rfl (fun K hK => ?_) ?_
        ·rw [if_pos (by simp [Region.wanted])]
         go_simp
         refine hK _ _ ?_
         clear hK K
         refine wpAny_done (by kernel_rfl) ?_ _
         go_wp2_with fail
         refine bodyPost_ret (v := .tuple #[.agg (siCells seed k ((kn : Int) + 1)).toArray, .agg (sgCells kn Ac 68 cc A' k c').toArray, .int .i64 0]) ?_ rfl ⟨Ac, cc, A', c', BP, rfl, by omega, by omega, Go.Adm.Own.less (h33.at_ 6 rfl) (by omega), hcB, h33.at_ 0 rfl, (h33.at_ 7 rfl).1⟩
         exact results_row_row_tmp (p := 4) (p2 := 5) (q := 6) rfl _ _ (w.heap.size + 1 + 1) 43 (siCells seed k ((kn : Int) + 1)).toArray (0, 0) _ rfl (h33.at_ 3 rfl) Try.underlying43 rfl (by rw [List.size_toArray, si_len _ _ _ hsl.out]; kernel_rfl) (w.heap.size + 1 + 1 + 1) 60 (sgCells kn Ac 68 cc A' k c').toArray (0, 0) _ rfl (h33.at_ 2 rfl) Try.underlying60 rfl (by kernel_rfl)
        exact AllReady.nil
       exact AllReady.nil
      exact AllReady.nil
     exact AllReady.nil
    refine AllReady.cons rfl (fun K hK => ?_) ?_
    ·rw [if_pos (by simp [Region.wanted])]
     refine wp_load_mid 60 (.tmp 7) rfl g 0 rfl (sgCells kn Ac 68 cc A' k c') _ (Cells.range (hX0.at_ 1 rfl)) Try.underlying60 rfl (by kernel_rfl) ?_
     refine hK _ _ ?_
     clear hK K
     refine wpAny_ready (rs := [0]) (by kernel_rfl) (by simp) ?_
     refine AllReady.cons rfl (fun K hK => ?_) ?_
     ·rw [if_pos (by simp [Region.wanted])]
      refine wp_load_mid 43 (.tmp 2) rfl w.heap.size 0 rfl (siCells seed k ((kn : Int) + 1)) _ (Cells.range (hX0.at_ 5 rfl)) Try.underlying43 rfl (by rw [si_len _ _ _ hsl.out]; kernel_rfl) ?_
      refine hK _ _ ?_
      clear hK K
      refine wpAny_ready (rs := [2]) (by kernel_rfl) (by simp) ?_
      refine AllReady.cons rfl (fun K hK => ?_) ?_
      ·rw [if_pos (by simp [Region.wanted])]
       refine wp_store_at hX0 3 43 (.tmp 4) (.tmp 76) rfl (w.heap.size + 1 + 1) _ _ (siCells seed k ((kn : Int) + 1)) rfl rfl rfl (by rw [si_len _ _ _ hsl.out]; rfl) (by rw [si_len _ _ _ hsl.out]; kernel_rfl) (si_one _ _ _) (by simp [Apart, Res.apart, Low.parts, Low.els, Low.rd, Low.tree] <;> omega) ?_
       intro w22 h22 z22
       refine hK _ _ ?_
       clear hK K
       refine wpAny_ready (rs := [3]) (by kernel_rfl) (by simp) ?_
       refine AllReady.cons rfl (fun K hK => ?_) ?_
       ·rw [if_pos (by simp [Region.wanted])]
        refine wp_store_at h22 2 60 (.tmp 5) (.tmp 77) rfl (w.heap.size + 1 + 1 + 1) _ _ (sgCells kn Ac 68 cc A' k c') rfl rfl rfl rfl (by kernel_rfl) (sg_one _ _ _ _ _ _ _) (by simp [Apart, Res.apart, Low.parts, Low.els, Low.rd, Low.tree] <;> omega) ?_
        intro w33 h33 z33
        refine hK _ _ ?_
        clear hK K
        refine wpAny_ready (rs := [4]) (by kernel_rfl) (by simp) ?_
        refine AllReady.cons rfl (fun K hK => ?_) ?_
        ·rw [if_pos (by simp [Region.wanted])]
         go_simp
         refine hK _ _ ?_
         clear hK K
         refine wpAny_done (by kernel_rfl) ?_ _
         go_wp2_with fail
         refine bodyPost_ret (v := .tuple #[.agg (siCells seed k ((kn : Int) + 1)).toArray, .agg (sgCells kn Ac 68 cc A' k c').toArray, .int .i64 0]) ?_ rfl ⟨Ac, cc, A', c', BP, rfl, by omega, by omega, Go.Adm.Own.less (h33.at_ 6 rfl) (by omega), hcB, h33.at_ 0 rfl, (h33.at_ 7 rfl).1⟩
         exact results_row_row_tmp (p := 4) (p2 := 5) (q := 6) rfl _ _ (w.heap.size + 1 + 1) 43 (siCells seed k ((kn : Int) + 1)).toArray (0, 0) _ rfl (h33.at_ 3 rfl) Try.underlying43 rfl (by rw [List.size_toArray, si_len _ _ _ hsl.out]; kernel_rfl) (w.heap.size + 1 + 1 + 1) 60 (sgCells kn Ac 68 cc A' k c').toArray (0, 0) _ rfl (h33.at_ 2 rfl) Try.underlying60 rfl (by kernel_rfl)
        exact AllReady.nil
       exact AllReady.nil
      exact AllReady.nil
     exact AllReady.nil
    exact AllReady.nil


end Go.Proofs.Ytfakjamocpamiaa

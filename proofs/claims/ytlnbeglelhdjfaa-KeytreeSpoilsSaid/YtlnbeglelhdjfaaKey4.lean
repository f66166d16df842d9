/- Join and ID, both of the program and of the reference. -/
import Derived.Test.YtlnbeglelhdjfaaKey3
import Derived.Deep.Cut
set_option linter.unusedSimpArgs false
set_option linter.unusedVariables false
namespace Go.Adm
def idS (h : Int) (root : List UInt8) : List UInt8 := shaS (7 :: b8 h :: root)
theorem idS_len (h : Int) (root : List UInt8) : (idS h root).length = 32 := shaS_len _
def pkCells (h : Int) (root : List UInt8) : List Value := .int .i64 h :: root.map bv
end Go.Adm
namespace Go.Proofs.Ytlnbeglelhdjfaa
open Go Go.RowKit Go.Adm

set_option maxRecDepth 100000 in
set_option maxHeartbeats 3200000 in
theorem Join_any (w : World) (x y : List UInt8) (level index : Int) (hx : x.length = 16) (hy : y.length = 16) :
    Calls Try.prog 23 #[.int .i64 level, .int .i64 index, .agg (x.map bv).toArray, .agg (y.map bv).toArray] w fun e w' => e = .returned (.agg ((joinS level index x y).map bv).toArray) ∧ Below w.heap.size w w' := by
  have hR : All w [.kept w w.heap.size] := ⟨⟨Below.refl _ _, Nat.le_refl _⟩, trivial⟩
  have hxl := Lib.hid hx
  have hyl := Lib.hid hy
  clear hx hy
  have hfl : Hid (halfS [[6, b8 level, b8 (index / 256), b8 index], x, y].flatten = joinS level index x y) := Lib.hid (by simp [joinS])
  have h16 := Lib.hid (joinS_len level index x y)
  go_enter Try.func23, Try.ntmps23
  have hI := ((hR.new (x.map bv).toArray 23 rfl rfl).new (y.map bv).toArray 23 (g := w.heap.size + 1) (by simp) rfl).new (List.replicate 16 (.int .u8 0)).toArray 23 (g := w.heap.size + 1 + 1) (by simp) rfl
  go_wp2
  refine wp_region_hops 10 [9, 10, 11, 12, 13, 14, 15, 16, 17, 18] _
    [.eq (.int .i64 level), .eq (.int .u8 (level % 256)), .eq (.int .i64 index), .eq (.int .i64 (index / 256)), .eq (.int .u8 (index / 256 % 256)), .eq (.int .i64 index), .eq (.int .u8 (index % 256)), .bytes [6, b8 level, b8 (index / 256), b8 index], .eq (.slice (some ⟨w.heap.size, 0, none⟩) 16 16), .eq (.slice (some ⟨w.heap.size + 1, 0, none⟩) 16 16)]
    (by kernel_rfl) (by kernel_rfl) hI rfl ?hops ?fin
  case hops =>
    refine ⟨?_, ?_, ?_, ?_, ?_, ?_, ?_, ?_, ?_, ?_, trivial⟩
    · intro a W hW hb hd K hK
      have b0 := hb 0 rfl
      go_simp
      exact hK _ _ (World.grownBy.refl _ _) rfl
    · intro a W hW hb hd K hK
      have b9 : a.tmps[9]?.getD undef = _ := hd ⟨0, .data⟩ (by simp) rfl
      go_simp
      exact hK _ _ (World.grownBy.refl _ _) rfl
    · intro a W hW hb hd K hK
      have b1 := hb 1 rfl
      go_simp
      exact hK _ _ (World.grownBy.refl _ _) rfl
    · intro a W hW hb hd K hK
      have b11 : a.tmps[11]?.getD undef = _ := hd ⟨2, .data⟩ (by simp) rfl
      go_simp
      exact hK _ _ (World.grownBy.refl _ _) rfl
    · intro a W hW hb hd K hK
      have b12 : a.tmps[12]?.getD undef = _ := hd ⟨3, .data⟩ (by simp) rfl
      go_simp
      exact hK _ _ (World.grownBy.refl _ _) rfl
    · intro a W hW hb hd K hK
      have b1 := hb 1 rfl
      go_simp
      exact hK _ _ (World.grownBy.refl _ _) rfl
    · intro a W hW hb hd K hK
      have b14 : a.tmps[14]?.getD undef = _ := hd ⟨5, .data⟩ (by simp) rfl
      go_simp
      exact hK _ _ (World.grownBy.refl _ _) rfl
    · intro a W hW hb hd K hK
      have b10 : a.tmps[10]?.getD undef = _ := hd ⟨1, .data⟩ (by simp) rfl
      have b13 : a.tmps[13]?.getD undef = _ := hd ⟨4, .data⟩ (by simp) rfl
      have b15 : a.tmps[15]?.getD undef = _ := hd ⟨6, .data⟩ (by simp) rfl
      go_simp
      exact hK _ _ (grown_alloc _ _) (BytesAt.new _ _ _ [6, b8 level, b8 (index / 256), b8 index] _ _ (by simp only [b8_v]; rfl) rfl (by simp) (by decide))
    · intro a W hW hb hd K hK
      have b6 := hb 6 rfl
      go_simp
      exact hK _ _ (World.grownBy.refl _ _) rfl
    · intro a W hW hb hd K hK
      have b7 := hb 7 rfl
      go_simp
      exact hK _ _ (World.grownBy.refl _ _) rfl
  case fin =>
    intro vs W hW hv
    have p7 : BytesAt W W.heap.size (vs 7) [6, b8 level, b8 (index / 256), b8 index] := hv 7 (by decide)
    have e8 : vs 8 = .slice (some ⟨w.heap.size, 0, none⟩) 16 16 := hv 8 (by decide)
    have e9 : vs 9 = .slice (some ⟨w.heap.size + 1, 0, none⟩) 16 16 := hv 9 (by decide)
    have px : BytesAt W W.heap.size (.slice (some ⟨w.heap.size, 0, none⟩) 16 16) x := BytesAt.of (hW.at_ 2 rfl) (Cells.lt (hW.at_ 2 rfl)) hxl.out.symm (by rw [hxl.out]; omega) (by decide)
    have py : BytesAt W W.heap.size (.slice (some ⟨w.heap.size + 1, 0, none⟩) 16 16) y := BytesAt.of (hW.at_ 1 rfl) (Cells.lt (hW.at_ 1 rfl)) hyl.out.symm (by rw [hyl.out]; omega) (by decide)
    obtain ⟨A7, c7, e7, -⟩ := id p7
    rw [e7] at p7
    clear hv hI
    simp only [putAll, List.drop_succ_cons, List.drop_zero, e7, e8, e9]
    clear e7 e8 e9
    go_wp2_with fail
    refine (Half_any _ _ _ _ _ [[6, b8 level, b8 (index / 256), b8 index], x, y] (Parts.of (Cells.new _ _ _) (by simp) rfl
      (.cons (p7.grown (grown_alloc _ _)) (.cons (px.grown (grown_alloc _ _)) (.cons (py.grown (grown_alloc _ _)) .nil)))) (Nat.le_refl _) (by simp) (by simp [hxl.out, hyl.out])).mono ?_
    rintro e w5 ⟨rfl, hb⟩
    rw [hfl.out]
    have hI5 := (hW.alloc _).call hb
    generalize hr : joinS level index x y = r at *
    have HR := Lib.hid hr
    clear hr hfl hb p7 px py hW
    go_wp2_with (refine wl_store_at hI5 0 rfl 23 (.tmp 8) _ rfl (w.heap.size + 1 + 1) _ _ (r.map bv) rfl rfl rfl (by rw [List.length_map, h16.out]; rfl) (by rw [List.length_map, h16.out]; kernel_rfl) (bv_one _) (by simp [Apart, Res.apart, Low.parts, Low.els, Low.rd] <;> omega) ?_; intro w9 hI9 hs9)
    refine bodyPost_ret (v := .agg (r.map bv).toArray) ?_ rfl ⟨by rw [HR.out], (hI9.at_ 3 rfl).1⟩
    exact results_cell_row rfl _ _ (w.heap.size + 1 + 1) 23 (r.map bv).toArray (0, 0) _ rfl (hI9.at_ 0 rfl) Try.underlying23 rfl (by rw [List.size_toArray, List.length_map, h16.out]; kernel_rfl)

set_option maxRecDepth 100000 in
set_option maxHeartbeats 3200000 in
theorem refJoin_any (w : World) (x y : List UInt8) (level index : Int) (hx : x.length = 16) (hy : y.length = 16) :
    Calls Try.prog 24 #[.int .i64 level, .int .i64 index, .agg (x.map bv).toArray, .agg (y.map bv).toArray] w fun e w' => e = .returned (.agg ((joinS level index x y).map bv).toArray) ∧ Below w.heap.size w w' := by
  have hR : All w [.kept w w.heap.size] := ⟨⟨Below.refl _ _, Nat.le_refl _⟩, trivial⟩
  have hxl := Lib.hid hx
  have hyl := Lib.hid hy
  clear hx hy
  have hfl : Hid (halfS [[6, b8 level, b8 (index / 256), b8 index], x, y].flatten = joinS level index x y) := Lib.hid (by simp [joinS])
  have h16 := Lib.hid (joinS_len level index x y)
  go_enter Try.func24, Try.ntmps24
  have hI := ((hR.new (x.map bv).toArray 23 rfl rfl).new (y.map bv).toArray 23 (g := w.heap.size + 1) (by simp) rfl).new (List.replicate 16 (.int .u8 0)).toArray 23 (g := w.heap.size + 1 + 1) (by simp) rfl
  go_wp2
  refine wp_region_hops 10 [9, 10, 11, 12, 13, 14, 15, 16, 17, 18] _
    [.eq (.int .i64 level), .eq (.int .u8 (level % 256)), .eq (.int .i64 index), .eq (.int .i64 (index / 256)), .eq (.int .u8 (index / 256 % 256)), .eq (.int .i64 index), .eq (.int .u8 (index % 256)), .bytes [6, b8 level, b8 (index / 256), b8 index], .eq (.slice (some ⟨w.heap.size, 0, none⟩) 16 16), .eq (.slice (some ⟨w.heap.size + 1, 0, none⟩) 16 16)]
    (by kernel_rfl) (by kernel_rfl) hI rfl ?hops ?fin
  case hops =>
    refine ⟨?_, ?_, ?_, ?_, ?_, ?_, ?_, ?_, ?_, ?_, trivial⟩
    · intro a W hW hb hd K hK
      have b0 := hb 0 rfl
      go_simp
      exact hK _ _ (World.grownBy.refl _ _) rfl
    · intro a W hW hb hd K hK
      have b9 : a.tmps[9]?.getD undef = _ := hd ⟨0, .data⟩ (by simp) rfl
      go_simp
      exact hK _ _ (World.grownBy.refl _ _) rfl
    · intro a W hW hb hd K hK
      have b1 := hb 1 rfl
      go_simp
      exact hK _ _ (World.grownBy.refl _ _) rfl
    · intro a W hW hb hd K hK
      have b11 : a.tmps[11]?.getD undef = _ := hd ⟨2, .data⟩ (by simp) rfl
      go_simp
      exact hK _ _ (World.grownBy.refl _ _) rfl
    · intro a W hW hb hd K hK
      have b12 : a.tmps[12]?.getD undef = _ := hd ⟨3, .data⟩ (by simp) rfl
      go_simp
      exact hK _ _ (World.grownBy.refl _ _) rfl
    · intro a W hW hb hd K hK
      have b1 := hb 1 rfl
      go_simp
      exact hK _ _ (World.grownBy.refl _ _) rfl
    · intro a W hW hb hd K hK
      have b14 : a.tmps[14]?.getD undef = _ := hd ⟨5, .data⟩ (by simp) rfl
      go_simp
      exact hK _ _ (World.grownBy.refl _ _) rfl
    · intro a W hW hb hd K hK
      have b10 : a.tmps[10]?.getD undef = _ := hd ⟨1, .data⟩ (by simp) rfl
      have b13 : a.tmps[13]?.getD undef = _ := hd ⟨4, .data⟩ (by simp) rfl
      have b15 : a.tmps[15]?.getD undef = _ := hd ⟨6, .data⟩ (by simp) rfl
      go_simp
      exact hK _ _ (grown_alloc _ _) (BytesAt.new _ _ _ [6, b8 level, b8 (index / 256), b8 index] _ _ (by simp only [b8_v]; rfl) rfl (by simp) (by decide))
    · intro a W hW hb hd K hK
      have b6 := hb 6 rfl
      go_simp
      exact hK _ _ (World.grownBy.refl _ _) rfl
    · intro a W hW hb hd K hK
      have b7 := hb 7 rfl
      go_simp
      exact hK _ _ (World.grownBy.refl _ _) rfl
  case fin =>
    intro vs W hW hv
    have p7 : BytesAt W W.heap.size (vs 7) [6, b8 level, b8 (index / 256), b8 index] := hv 7 (by decide)
    have e8 : vs 8 = .slice (some ⟨w.heap.size, 0, none⟩) 16 16 := hv 8 (by decide)
    have e9 : vs 9 = .slice (some ⟨w.heap.size + 1, 0, none⟩) 16 16 := hv 9 (by decide)
    have px : BytesAt W W.heap.size (.slice (some ⟨w.heap.size, 0, none⟩) 16 16) x := BytesAt.of (hW.at_ 2 rfl) (Cells.lt (hW.at_ 2 rfl)) hxl.out.symm (by rw [hxl.out]; omega) (by decide)
    have py : BytesAt W W.heap.size (.slice (some ⟨w.heap.size + 1, 0, none⟩) 16 16) y := BytesAt.of (hW.at_ 1 rfl) (Cells.lt (hW.at_ 1 rfl)) hyl.out.symm (by rw [hyl.out]; omega) (by decide)
    obtain ⟨A7, c7, e7, -⟩ := id p7
    rw [e7] at p7
    clear hv hI
    simp only [putAll, List.drop_succ_cons, List.drop_zero, e7, e8, e9]
    clear e7 e8 e9
    go_wp2_with fail
    refine (refHalf_any _ _ _ _ _ [[6, b8 level, b8 (index / 256), b8 index], x, y] (Parts.of (Cells.new _ _ _) (by simp) rfl
      (.cons (p7.grown (grown_alloc _ _)) (.cons (px.grown (grown_alloc _ _)) (.cons (py.grown (grown_alloc _ _)) .nil)))) (Nat.le_refl _) (by simp) (by simp [hxl.out, hyl.out])).mono ?_
    rintro e w5 ⟨rfl, hb⟩
    rw [hfl.out]
    have hI5 := (hW.alloc _).call hb
    generalize hr : joinS level index x y = r at *
    have HR := Lib.hid hr
    clear hr hfl hb p7 px py hW
    go_wp2_with (refine wl_store_at hI5 0 rfl 23 (.tmp 8) _ rfl (w.heap.size + 1 + 1) _ _ (r.map bv) rfl rfl rfl (by rw [List.length_map, h16.out]; rfl) (by rw [List.length_map, h16.out]; kernel_rfl) (bv_one _) (by simp [Apart, Res.apart, Low.parts, Low.els, Low.rd] <;> omega) ?_; intro w9 hI9 hs9)
    refine bodyPost_ret (v := .agg (r.map bv).toArray) ?_ rfl ⟨by rw [HR.out], (hI9.at_ 3 rfl).1⟩
    exact results_cell_row rfl _ _ (w.heap.size + 1 + 1) 23 (r.map bv).toArray (0, 0) _ rfl (hI9.at_ 0 rfl) Try.underlying23 rfl (by rw [List.size_toArray, List.length_map, h16.out]; kernel_rfl)

set_option maxRecDepth 100000 in
set_option maxHeartbeats 3200000 in
theorem ID_any (w : World) (h : Int) (root : List UInt8) (hr : root.length = 16) :
    Calls Try.prog 19 #[.agg (pkCells h root).toArray] w fun e w' => e = .returned (.agg ((idS h root).map bv).toArray) ∧ Below w.heap.size w w' := by
  have hR : All w [.kept w w.heap.size] := ⟨⟨Below.refl _ _, Nat.le_refl _⟩, trivial⟩
  have hrl := Lib.hid hr
  clear hr
  have h32 := Lib.hid (idS_len h root)
  go_enter Try.func19, Try.ntmps19
  have hI := (hR.new (pkCells h root).toArray 40 rfl rfl).new (List.replicate 32 (.int .u8 0)).toArray 27 (g := w.heap.size + 1) (by simp) rfl
  go_wp2
  refine wp_region_hops 6 [3, 4, 5, 6, 7, 8] _
    [.eq (.pointer (some ⟨w.heap.size, 0, none⟩)), .eq (.int .i64 h), .eq (.int .u8 (h % 256)), .own (w.heap.size + 2) 5 1 2 ([7, b8 h].map bv), .eq (.pointer (some ⟨w.heap.size, 1, none⟩)), .eq (.slice (some ⟨w.heap.size, 1, none⟩) 16 16)]
    (by kernel_rfl) (by kernel_rfl) hI rfl ?hops ?fin
  case hops =>
    refine ⟨?_, ?_, ?_, ?_, ?_, ?_, trivial⟩
    · intro a W hW hb hd K hK
      have b1 := hb 1 rfl
      go_simp
      exact hK _ _ (World.grownBy.refl _ _) rfl
    · intro a W hW hb hd K hK
      have cc : W.cell? ⟨w.heap.size, 0, none⟩ = some (.int .i64 h) := Cells.cell (hW.at_ 1 rfl) (i := 0) (by simp [pkCells])
      have b3 : a.tmps[3]?.getD undef = _ := hd ⟨0, .data⟩ (by simp) rfl
      go_simp
      exact hK _ _ (World.grownBy.refl _ _) rfl
    · intro a W hW hb hd K hK
      have b4 : a.tmps[4]?.getD undef = _ := hd ⟨1, .data⟩ (by simp) rfl
      go_simp
      exact hK _ _ (World.grownBy.refl _ _) rfl
    · intro a W hW hb hd K hK
      have b5 : a.tmps[5]?.getD undef = _ := hd ⟨2, .data⟩ (by simp) rfl
      go_simp
      exact hK _ _ (grown_alloc _ _) ⟨by have := Cells.lt (hW.at_ 0 rfl); simp; omega, _, _, rfl, (Go.Adm.Own.lit W _ 2 (by have := Cells.lt (hW.at_ 0 rfl); omega) (by decide) rfl).cast rfl (by simp only [b8_v]; rfl)⟩
    · intro a W hW hb hd K hK
      have b1 := hb 1 rfl
      go_simp
      exact hK _ _ (World.grownBy.refl _ _) rfl
    · intro a W hW hb hd K hK
      have b7 : a.tmps[7]?.getD undef = _ := hd ⟨4, .data⟩ (by simp) rfl
      go_simp
      exact hK _ _ (World.grownBy.refl _ _) rfl
  case fin =>
    intro vs W hW hv
    obtain ⟨hb2, A3, c3, e3, hown⟩ : w.heap.size + 2 ≤ W.heap.size ∧ ∃ A c, vs 3 = .slice A 2 c ∧ Go.Adm.Own W (w.heap.size + 2) 5 1 A 2 c ([7, b8 h].map bv) := hv 3 (by decide)
    have e5 : vs 5 = .slice (some ⟨w.heap.size, 1, none⟩) 16 16 := hv 5 (by decide)
    clear hv hI
    simp only [putAll, List.drop_succ_cons, List.drop_zero, e3, e5]
    clear e3 e5
    refine wl_app _ els_u8 rfl (.tmp 6) (.tmp 8) rfl (w.heap.size + 2) A3 2 c3 _ rfl hown (w.heap.size + 1) _ 16 16 (root.map bv) rfl (by have := Cells.rd (hW.at_ 1 rfl) (o := 1) (n := 16) (by simp [pkCells, hrl.out]); rw [show ((pkCells h root).drop 1).take 16 = root.map bv from by show (root.map bv).take 16 = _; rw [List.take_of_length_le (by rw [List.length_map, hrl.out]; omega)]] at this; exact this) (bv_one _) (by decide) hb2 ?_
    intro A4 c4 w4 hown4 hb4 hg4
    have hI4 := hW.app hg4 hown (fun g hg => by simp [Apart, Res.apart] <;> omega)
    have hown5 : Go.Adm.Own w4 (w.heap.size + 2) 5 1 A4 18 c4 ((7 :: b8 h :: root).map bv) := hown4
    have hcap := hown5.cap
    clear hW hown hown4
    go_wp2_with fail
    refine (Sum_any w4 w4.heap.size A4 18 c4 (7 :: b8 h :: root) (Go.Adm.Own.rd hown5) (Nat.le_refl _) (by decide) hcap.1 hcap.2).mono ?_
    rintro e w5 ⟨rfl, hb⟩
    have hI5 := hI4.call hb
    change Hid ((idS h root).length = 32) at h32
    rw [show shaS (7 :: b8 h :: root) = idS h root from rfl]
    generalize hr : idS h root = r at *
    have HR := Lib.hid hr
    clear hr hb hown5 hcap hI4
    go_wp2_with (refine wl_store_at hI5 0 rfl 27 (.tmp 2) _ rfl (w.heap.size + 1) _ _ (r.map bv) rfl rfl rfl (by rw [List.length_map, h32.out]; rfl) (by rw [List.length_map, h32.out]; kernel_rfl) (bv_one _) (by simp [Apart, Res.apart, Low.parts, Low.els, Low.rd] <;> omega) ?_; intro w9 hI9 hs9)
    refine bodyPost_ret (v := .agg (r.map bv).toArray) ?_ rfl ⟨by rw [HR.out], (hI9.at_ 2 rfl).1⟩
    exact results_cell_row rfl _ _ (w.heap.size + 1) 27 (r.map bv).toArray (0, 0) _ rfl (hI9.at_ 0 rfl) Try.underlying27 rfl (by rw [List.size_toArray, List.length_map, h32.out]; kernel_rfl)

set_option maxRecDepth 100000 in
set_option maxHeartbeats 3200000 in
theorem refID_any (w : World) (h : Int) (root : List UInt8) (hr : root.length = 16) :
    Calls Try.prog 20 #[.agg (pkCells h root).toArray] w fun e w' => e = .returned (.agg ((idS h root).map bv).toArray) ∧ Below w.heap.size w w' := by
  have hR : All w [.kept w w.heap.size] := ⟨⟨Below.refl _ _, Nat.le_refl _⟩, trivial⟩
  have hrl := Lib.hid hr
  clear hr
  have h32 := Lib.hid (idS_len h root)
  go_enter Try.func20, Try.ntmps20
  go_upto_region 1 with (fail)
  refine wp_gen ((hR.new (pkCells h root).toArray 40 rfl rfl).new (List.replicate 32 (.int .u8 0)).toArray 27 (g := w.heap.size + 1) (by simp) rfl) ?_
  intro W hW
  have cc : W.cell? ⟨w.heap.size, 0, none⟩ = some (.int .i64 h) := Cells.cell (hW.at_ 1 rfl) (i := 0) (by simp [pkCells])
  have hlt : w.heap.size + 1 < W.heap.size := Cells.lt (hW.at_ 0 rfl)
  go_upto_region 2 with (fail)
  have hown : Go.Adm.Own (W.alloc (.cells #[.int .u8 7, .int .u8 (h % 256)] 5)) (w.heap.size + 2) 5 1 (some ⟨W.heap.size, 0, none⟩) 2 2 ([7, b8 h].map bv) := (Go.Adm.Own.lit W _ 2 (by omega) (by decide) rfl).cast rfl (by simp only [b8_v]; rfl)
  have hW2 := hW.new #[.int .u8 7, .int .u8 (h % 256)] 5 rfl rfl
  clear cc
  go_wp2_with (at_builtin; refine wl_app _ els_u8 rfl (.tmp 8) (.tmp 10) rfl (w.heap.size + 2) _ 2 2 _ rfl hown (w.heap.size + 1) _ 16 16 (root.map bv) rfl (by have := Cells.rd (hW2.at_ 2 rfl) (o := 1) (n := 16) (by simp [pkCells, hrl.out]); rw [show ((pkCells h root).drop 1).take 16 = root.map bv from by show (root.map bv).take 16 = _; rw [List.take_of_length_le (by rw [List.length_map, hrl.out]; omega)]] at this; exact this) (bv_one _) (by decide) (by simp; omega) ?_; intro A4 c4 w4 hown4 hb4 hg4)
  have hI4 := (hW.alloc _).app hg4 hown (fun g hg => by simp [Apart, Res.apart] <;> omega)
  have hown5 : Go.Adm.Own w4 (w.heap.size + 2) 5 1 A4 18 c4 ((7 :: b8 h :: root).map bv) := hown4
  have hcap := hown5.cap
  clear hW hown hown4 hW2
  refine (refSum_any w4 w4.heap.size A4 18 c4 (7 :: b8 h :: root) (Go.Adm.Own.rd hown5) (Nat.le_refl _) (by decide)).mono ?_
  rintro e w5 ⟨rfl, hb⟩
  have hI5 := hI4.call hb
  change Hid ((idS h root).length = 32) at h32
  rw [show shaS (7 :: b8 h :: root) = idS h root from rfl]
  generalize hr : idS h root = r at *
  have HR := Lib.hid hr
  clear hr hb hown5 hcap hI4
  go_wp2_with (refine wl_store_at hI5 0 rfl 27 (.tmp 2) _ rfl (w.heap.size + 1) _ _ (r.map bv) rfl rfl rfl (by rw [List.length_map, h32.out]; rfl) (by rw [List.length_map, h32.out]; kernel_rfl) (bv_one _) (by simp [Apart, Res.apart, Low.parts, Low.els, Low.rd] <;> omega) ?_; intro w9 hI9 hs9)
  refine bodyPost_ret (v := .agg (r.map bv).toArray) ?_ rfl ⟨by rw [HR.out], (hI9.at_ 2 rfl).1⟩
  exact results_cell_row rfl _ _ (w.heap.size + 1) 27 (r.map bv).toArray (0, 0) _ rfl (hI9.at_ 0 rfl) Try.underlying27 rfl (by rw [List.size_toArray, List.length_map, h32.out]; kernel_rfl)

end Go.Proofs.Ytlnbeglelhdjfaa

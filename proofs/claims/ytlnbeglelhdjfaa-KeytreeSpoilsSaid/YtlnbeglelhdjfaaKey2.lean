/- onetime: Secret, Climb. -/
import Derived.Test.YtlnbeglelhdjfaaKeySpec
import Derived.Test.YtlnbeglelhdjfaaGen2
set_option linter.unusedSimpArgs false
set_option linter.unusedVariables false
namespace Go.Proofs.Ytlnbeglelhdjfaa
open Go Go.RowKit Go.Adm

theorem two_any (w : World) (x : Int) :
    Calls Try.prog 53 #[.int .i64 x] w fun e w' => e = .returned (.slice (some ⟨w.heap.size, 0, none⟩) 2 2) ∧ w' = w.alloc (.cells #[.int .u8 (x / 256 % 256), .int .u8 (x % 256)] 5) := by
  go_enter Try.func53, Try.ntmps53
  go_wp2
  go_ret
  exact ⟨rfl, rfl⟩

set_option maxRecDepth 100000 in
set_option maxHeartbeats 3200000 in
theorem Secret_any (w : World) (seed : List UInt8) (leaf chain : Int) (hs : seed.length = 16) :
    Calls Try.prog 40 #[.agg (seed.map bv).toArray, .int .i64 leaf, .int .i64 chain] w fun e w' => e = .returned (.agg ((secretS seed leaf chain).map bv).toArray) ∧ Below w.heap.size w w' := by
  have hR : All w [.kept w w.heap.size] := ⟨⟨Below.refl _ _, Nat.le_refl _⟩, trivial⟩
  have hsm : Hid ((seed.map bv).length = 16) := Lib.hid (by simpa using hs)
  have hsl := Lib.hid hs
  clear hs
  go_enter Try.func40, Try.ntmps40
  go_wp2
  have hI := (hR.new (seed.map bv).toArray 23 rfl rfl).new (List.replicate 16 (.int .u8 0)).toArray 23 (g := w.heap.size + 1) (by simp) rfl
  refine wp_region_hops 7 [7, 8, 9, 10, 11, 12, 13] _
    [.bytes [3], .eq (.slice (some ⟨w.heap.size, 0, none⟩) 16 16), .eq (.int .i64 leaf), .bytes (twoS leaf), .eq (.int .i64 chain), .eq (.int .u8 (chain % 256)), .bytes [b8 chain]]
    (by kernel_rfl) (by kernel_rfl) hI rfl ?hops ?fin
  case hops =>
    refine ⟨?_, ?_, ?_, ?_, ?_, ?_, ?_, trivial⟩
    · intro a W hW hb hd K hK
      go_simp
      exact hK _ _ (grown_alloc _ _) (BytesAt.new _ _ _ _ _ _ rfl rfl (by decide) (by decide))
    · intro a W hW hb hd K hK
      have b1 := hb 3 rfl
      go_simp
      exact hK _ _ (World.grownBy.refl _ _) rfl
    · intro a W hW hb hd K hK
      have b1 := hb 1 rfl
      go_simp
      exact hK _ _ (World.grownBy.refl _ _) rfl
    · intro a W hW hb hd K hK
      have b1 : a.tmps[9]?.getD undef = _ := hd ⟨2, .data⟩ (by simp) rfl
      go_simp
      refine (two_any W leaf).mono ?_
      rintro e w' ⟨rfl, rfl⟩
      exact hK _ _ (grown_alloc _ _) (BytesAt.new _ _ _ (twoS leaf) _ _ (by simp only [b8_v]; rfl) rfl (by simp [twoS]) (by decide))
    · intro a W hW hb hd K hK
      have b1 := hb 2 rfl
      go_simp
      exact hK _ _ (World.grownBy.refl _ _) rfl
    · intro a W hW hb hd K hK
      have b1 : a.tmps[11]?.getD undef = _ := hd ⟨4, .data⟩ (by simp) rfl
      go_simp
      exact hK _ _ (World.grownBy.refl _ _) rfl
    · intro a W hW hb hd K hK
      have b1 : a.tmps[12]?.getD undef = _ := hd ⟨5, .data⟩ (by simp) rfl
      go_simp
      exact hK _ _ (grown_alloc _ _) (BytesAt.new _ _ _ [b8 chain] _ _ (by simp only [b8_v]; rfl) rfl (Nat.le_refl 1) (by decide))
  case fin =>
    intro vs W hW hv
    have p0 : BytesAt W W.heap.size (vs 0) [3] := hv 0 (by decide)
    have p3 : BytesAt W W.heap.size (vs 3) (twoS leaf) := hv 3 (by decide)
    have p6 : BytesAt W W.heap.size (vs 6) [b8 chain] := hv 6 (by decide)
    have p1 : BytesAt W W.heap.size (.slice (some ⟨w.heap.size, 0, none⟩) 16 16) seed := BytesAt.of (hW.at_ 1 rfl) (Cells.lt (hW.at_ 1 rfl)) hsl.out.symm (by rw [hsl.out]; omega) (by decide)
    have e1 : vs 1 = .slice (some ⟨w.heap.size, 0, none⟩) 16 16 := hv 1 (by decide)
    obtain ⟨A0, c0, e0, -⟩ := id p0
    obtain ⟨A3, c3, e3, -⟩ := id p3
    obtain ⟨A6, c6, e6, -⟩ := id p6
    rw [e0] at p0
    rw [e3] at p3
    rw [e6] at p6
    clear hv hI
    simp only [putAll, List.drop_succ_cons, List.drop_zero, e0, e1, e3, e6]
    clear e0 e1 e3 e6
    have hfl : Hid (halfS [[3], seed, twoS leaf, [b8 chain]].flatten = secretS seed leaf chain) := Lib.hid (by simp [secretS])
    have h16 := Lib.hid (secretS_len seed leaf chain)
    go_wp2_with fail
    refine (Half_any _ _ _ _ _ [[3], seed, twoS leaf, [b8 chain]] (Parts.of (Cells.new _ _ _) (by simp) rfl
      (.cons (p0.grown (grown_alloc _ _)) (.cons (p1.grown (grown_alloc _ _)) (.cons (p3.grown (grown_alloc _ _)) (.cons (p6.grown (grown_alloc _ _)) .nil))))) (Nat.le_refl _) (by simp) (by simp [twoS, hsl.out])).mono ?_
    rintro e w5 ⟨rfl, hb⟩
    rw [hfl.out]
    have hI5 := (hW.alloc _).call hb
    generalize hr : secretS seed leaf chain = r at *
    have HR := Lib.hid hr
    clear hr
    clear hb p0 p1 p3 p6 hW
    go_wp2_with (refine wl_store_at hI5 0 rfl 23 (.tmp 6) _ rfl (w.heap.size + 1) _ _ (r.map bv) rfl rfl rfl (by rw [List.length_map, h16.out]; rfl) (by rw [List.length_map, h16.out]; kernel_rfl) (bv_one _) (by simp [Apart, Res.apart] <;> omega) ?_; intro w9 hI9 hs9)
    refine bodyPost_ret (v := .agg (r.map bv).toArray) ?_ rfl ⟨by rw [HR.out], (hI9.at_ 2 rfl).1⟩
    exact results_cell_row rfl _ _ (w.heap.size + 1) 23 (r.map bv).toArray (0, 0) _ rfl (hI9.at_ 0 rfl) Try.underlying23 rfl (by rw [List.size_toArray, List.length_map, h16.out]; kernel_rfl)

set_option maxRecDepth 100000 in
set_option maxHeartbeats 3200000 in
theorem Climb_any (w : World) (x : List UInt8) (leaf chain f t : Int) (hx : x.length = 16) :
    Calls Try.prog 39 #[.agg (x.map bv).toArray, .int .i64 leaf, .int .i64 chain, .int .i64 f, .int .i64 t] w fun e w' => e = .returned (.agg ((climbS x leaf chain f t).map bv).toArray) ∧ Below w.heap.size w w' := by
  have hR : All w [.kept w w.heap.size] := ⟨⟨Below.refl _ _, Nat.le_refl _⟩, trivial⟩
  have hsl := Lib.hid hx
  clear hx
  by_cases hc : f < 0 ∨ 3 < t
  · have hcl : Hid (climbS x leaf chain f t = x) := Lib.hid (by unfold climbS; rw [if_pos hc])
    have hfin : ∀ W : World, All W [.cells (w.heap.size + 1) 23 (List.replicate 16 (.int .u8 0)), .cells w.heap.size 23 (x.map bv), .kept w w.heap.size] → True := fun _ _ => trivial
    clear hfin
    have hcc : (decide (f < 0) = true) ∨ (decide (f < 0) = false ∧ decide (3 < t) = true) := by
      rcases hc with h | h
      · left; simpa using h
      · by_cases h1 : f < 0
        · left; simpa using h1
        · right; exact ⟨by simpa using h1, by simpa using h⟩
    clear hc
    go_enter Try.func39, Try.ntmps39
    have hI := (hR.new (x.map bv).toArray 23 rfl rfl).new (List.replicate 16 (.int .u8 0)).toArray 23 (g := w.heap.size + 1) (by simp) rfl
    rcases hcc with hd | ⟨hd, hd2⟩
    all_goals
      go_wp2_with (first | (refine wl_load_at rfl 23 (.tmp 5) rfl w.heap.size _ _ hI.2.1 rfl _ Try.underlying23 rfl (by rw [List.length_map, hsl.out]; kernel_rfl) ?_) | (refine wl_store_at hI 0 rfl 23 _ _ rfl (w.heap.size + 1) _ _ (x.map bv) rfl rfl rfl (by rw [List.length_map, hsl.out]; rfl) (by rw [List.length_map, hsl.out]; kernel_rfl) (bv_one _) (by simp [Apart, Res.apart] <;> omega) ?_; intro w9 hI9 hs9))
      refine bodyPost_ret (v := .agg (x.map bv).toArray) ?_ rfl ⟨by rw [hcl.out], (hI9.at_ 2 rfl).1⟩
      exact results_cell_row rfl _ _ (w.heap.size + 1) 23 (x.map bv).toArray (0, 0) _ rfl (hI9.at_ 0 rfl) Try.underlying23 rfl (by rw [List.size_toArray, List.length_map, hsl.out]; kernel_rfl)
  · have hcl : Hid (climbS x leaf chain f t = climbN x leaf chain f (t - f).toNat) := Lib.hid (by unfold climbS; rw [if_neg hc])
    have hf0 : 0 ≤ f := by omega
    have ht3 : t ≤ 3 := by omega
    have hd : decide (f < 0) = false := by simp; omega
    have hd2 : decide (3 < t) = false := by simp; omega
    clear hc
    go_enter Try.func39, Try.ntmps39
    have hI := (hR.new (x.map bv).toArray 23 rfl rfl).new (List.replicate 16 (.int .u8 0)).toArray 23 (g := w.heap.size + 1) (by simp) rfl
    go_wp2
    clear hd hd2
    go_loopw [11] (fun i wr => ∃ (k : Nat) (a : Int), i = .int .i64 a ∧ Hid (a = f + k) ∧ 0 ≤ a ∧ k ≤ (t - f).toNat ∧ All wr [.cells (w.heap.size + 1) 23 (List.replicate 16 (.int .u8 0)), .cells w.heap.size 23 ((climbN x leaf chain f k).map bv), .kept w w.heap.size]) (fun i _ => (3 - intOf i).toNat)
    case atStart => exact ⟨0, f, rfl, Lib.hid (by simp), hf0, by omega, hI⟩
    case round =>
      obtain ⟨k, at_, rfl, HA, ha0, hk, hIr⟩ := hrel
      have hcx : Hid ((climbN x leaf chain f k).length = 16) := Lib.hid (climbN_len x leaf chain f hsl.out k)
      by_cases hlt : at_ < t
      · have hat : at_ ≤ 2 := by omega
        have hs1 : Hid (climbN x leaf chain f (k + 1) = stepS (climbN x leaf chain f k) leaf chain at_) := Lib.hid (by rw [climbN, HA.out])
        generalize climbN x leaf chain f k = y at *
        go_wp2
        refine wp_region_hops 9 [25, 26, 27, 28, 29, 30, 31, 32, 33] _
          [.bytes [4], .eq (.slice (some ⟨w.heap.size, 0, none⟩) 16 16), .eq (.int .i64 leaf), .bytes (twoS leaf), .eq (.int .i64 chain), .eq (.int .u8 (chain % 256)), .eq (.int .i64 at_), .eq (.int .u8 (at_ % 256)), .bytes [b8 chain, b8 at_]]
          (by kernel_rfl) (by kernel_rfl) hIr rfl ?hops ?fin
        case hops =>
          refine ⟨?_, ?_, ?_, ?_, ?_, ?_, ?_, ?_, ?_, trivial⟩
          · intro a W hW hb hd K hK
            go_simp
            exact hK _ _ (grown_alloc _ _) (BytesAt.new _ _ _ [4] _ _ rfl rfl (by decide) (by decide))
          · intro a W hW hb hd K hK
            have b5 := hb 5 rfl
            go_simp
            exact hK _ _ (World.grownBy.refl _ _) rfl
          · intro a W hW hb hd K hK
            have b1 := hb 1 rfl
            go_simp
            exact hK _ _ (World.grownBy.refl _ _) rfl
          · intro a W hW hb hd K hK
            have b27 : a.tmps[27]?.getD undef = _ := hd ⟨2, .data⟩ (by simp) rfl
            go_simp
            refine (two_any W leaf).mono ?_
            rintro e w' ⟨rfl, rfl⟩
            exact hK _ _ (grown_alloc _ _) (BytesAt.new _ _ _ (twoS leaf) _ _ (by simp only [b8_v]; rfl) rfl (by simp [twoS]) (by decide))
          · intro a W hW hb hd K hK
            have b2 := hb 2 rfl
            go_simp
            exact hK _ _ (World.grownBy.refl _ _) rfl
          · intro a W hW hb hd K hK
            have b29 : a.tmps[29]?.getD undef = _ := hd ⟨4, .data⟩ (by simp) rfl
            go_simp
            exact hK _ _ (World.grownBy.refl _ _) rfl
          · intro a W hW hb hd K hK
            have b11 := hb 11 rfl
            go_simp
            exact hK _ _ (World.grownBy.refl _ _) rfl
          · intro a W hW hb hd K hK
            have b31 : a.tmps[31]?.getD undef = _ := hd ⟨6, .data⟩ (by simp) rfl
            go_simp
            exact hK _ _ (World.grownBy.refl _ _) rfl
          · intro a W hW hb hd K hK
            have b30 : a.tmps[30]?.getD undef = _ := hd ⟨5, .data⟩ (by simp) rfl
            have b32 : a.tmps[32]?.getD undef = _ := hd ⟨7, .data⟩ (by simp) rfl
            go_simp
            exact hK _ _ (grown_alloc _ _) (BytesAt.new _ _ _ [b8 chain, b8 at_] _ _ (by simp only [b8_v]; rfl) rfl (Nat.le_refl 2) (by decide))
        case fin =>
          intro vs W hW hv
          have p0 : BytesAt W W.heap.size (vs 0) [4] := hv 0 (by decide)
          have p3 : BytesAt W W.heap.size (vs 3) (twoS leaf) := hv 3 (by decide)
          have p8 : BytesAt W W.heap.size (vs 8) [b8 chain, b8 at_] := hv 8 (by decide)
          have p1 : BytesAt W W.heap.size (.slice (some ⟨w.heap.size, 0, none⟩) 16 16) y := BytesAt.of (hW.at_ 1 rfl) (Cells.lt (hW.at_ 1 rfl)) hcx.out.symm (by rw [hcx.out]; omega) (by decide)
          have e1 : vs 1 = .slice (some ⟨w.heap.size, 0, none⟩) 16 16 := hv 1 (by decide)
          obtain ⟨A0, c0, e0, -⟩ := id p0
          obtain ⟨A3, c3, e3, -⟩ := id p3
          obtain ⟨A8, c8, e8, -⟩ := id p8
          rw [e0] at p0
          rw [e3] at p3
          rw [e8] at p8
          clear hv hI hIr
          simp only [putAll, List.drop_succ_cons, List.drop_zero, e0, e1, e3, e8]
          clear e0 e1 e3 e8
          have hfl : Hid (halfS [[4], y, twoS leaf, [b8 chain, b8 at_]].flatten = stepS y leaf chain at_) := Lib.hid (by simp [stepS])
          have h16 := Lib.hid (stepS_len y leaf chain at_)
          go_wp2_with fail
          refine (Half_any _ _ _ _ _ [[4], y, twoS leaf, [b8 chain, b8 at_]] (Parts.of (Cells.new _ _ _) (by simp) rfl
            (.cons (p0.grown (grown_alloc _ _)) (.cons (p1.grown (grown_alloc _ _)) (.cons (p3.grown (grown_alloc _ _)) (.cons (p8.grown (grown_alloc _ _)) .nil))))) (Nat.le_refl _) (by simp) (by simp [twoS, hcx.out])).mono ?_
          rintro e w5 ⟨rfl, hb⟩
          rw [hfl.out]
          have hI5 := (hW.alloc _).call hb
          generalize hr : stepS y leaf chain at_ = r at *
          have HR := Lib.hid hr
          clear hr
          clear hb p0 p1 p3 p8 hW
          go_wp2_with (refine wl_store_at hI5 1 rfl 23 (.tmp 5) _ rfl w.heap.size _ _ (r.map bv) rfl rfl rfl (by rw [List.length_map, h16.out, List.length_map, hcx.out]) (by rw [List.length_map, h16.out]; kernel_rfl) (bv_one _) (by simp [Apart, Res.apart] <;> omega) ?_; intro w9 hI9 hs9)
          go_roundw
          case measure => simp [intOf]; omega
          exact ⟨k + 1, at_ + 1, rfl, Lib.hid (by have := HA.out; omega), by omega, by have := HA.out; omega, by rw [hs1.out]; exact hI9⟩
      · have hkt : Hid (k = (t - f).toNat) := Lib.hid (by have := HA.out; omega)
        rw [hkt.out] at hcx hIr
        rw [← hcl.out] at hcx hIr
        generalize hr : climbS x leaf chain f t = r at *
        have HR := Lib.hid hr
        clear hr hcl
        go_wp2_with (first | (refine wl_load_at rfl 23 (.tmp 5) rfl w.heap.size _ _ hIr.2.1 rfl _ Try.underlying23 rfl (by rw [List.length_map, hcx.out]; kernel_rfl) ?_) | (refine wl_store_at hIr 0 rfl 23 _ _ rfl (w.heap.size + 1) _ _ (r.map bv) rfl rfl rfl (by rw [List.length_map, hcx.out]; rfl) (by rw [List.length_map, hcx.out]; kernel_rfl) (bv_one _) (by simp [Apart, Res.apart] <;> omega) ?_; intro w9 hI9 hs9))
        refine bodyPost_ret (v := .agg (r.map bv).toArray) ?_ rfl ⟨by rw [HR.out], (hI9.at_ 2 rfl).1⟩
        exact results_cell_row rfl _ _ (w.heap.size + 1) 23 (r.map bv).toArray (0, 0) _ rfl (hI9.at_ 0 rfl) Try.underlying23 rfl (by rw [List.size_toArray, List.length_map, hcx.out]; kernel_rfl)
end Go.Proofs.Ytlnbeglelhdjfaa

/- one-time keys: the reference's Secret and Climb; Join; ID. -/
import Derived.Test.YtlnbeglelhdjfaaKey2
import Derived.Test.YtlnbeglelhdjfaaGen2
set_option linter.unusedSimpArgs false
set_option linter.unusedVariables false
namespace Go.Proofs.Ytlnbeglelhdjfaa
open Go Go.RowKit Go.Adm

set_option maxRecDepth 100000 in
set_option maxHeartbeats 3200000 in
theorem refSecret_any (w : World) (seed : List UInt8) (leaf chain : Int) (hs : seed.length = 16) :
    Calls Try.prog 45 #[.agg (seed.map bv).toArray, .int .i64 leaf, .int .i64 chain] w fun e w' => e = .returned (.agg ((secretS seed leaf chain).map bv).toArray) ∧ Below w.heap.size w w' := by
  have hR : All w [.kept w w.heap.size] := ⟨⟨Below.refl _ _, Nat.le_refl _⟩, trivial⟩
  have hsl := Lib.hid hs
  clear hs
  have hfl : Hid (halfS [[3], seed, [b8 (leaf / 256), b8 leaf, b8 chain]].flatten = secretS seed leaf chain) := Lib.hid (by simp [secretS, twoS])
  have h16 := Lib.hid (secretS_len seed leaf chain)
  go_enter Try.func45, Try.ntmps45
  have hI := (hR.new (seed.map bv).toArray 23 rfl rfl).new (List.replicate 16 (.int .u8 0)).toArray 23 (g := w.heap.size + 1) (by simp) rfl
  have hJ := (((hI.new #[.int .u8 3] 5 (g := w.heap.size + 1 + 1) (l := [3].map bv) (by simp) (by first | rfl | (simp only [b8_v]; rfl))).new #[.int .u8 (leaf / 256 % 256), .int .u8 (leaf % 256), .int .u8 (chain % 256)] 5 (g := w.heap.size + 1 + 1 + 1) (l := [b8 (leaf / 256), b8 leaf, b8 chain].map bv) (by simp) (by first | rfl | (simp only [b8_v]; rfl))).new #[.slice (some ⟨w.heap.size + 1 + 1, 0, none⟩) 1 1, .slice (some ⟨w.heap.size, 0, none⟩) 16 16, .slice (some ⟨w.heap.size + 1 + 1 + 1, 0, none⟩) 3 3] 64 (g := w.heap.size + 1 + 1 + 1 + 1) (l := _) (by simp) rfl)
  go_wp2_with fail
  refine (refHalf_any _ _ _ _ _ [[3], seed, [b8 (leaf / 256), b8 leaf, b8 chain]] (Parts.of (hJ.at_ 0 rfl) (Cells.lt (hJ.at_ 0 rfl)) rfl (.cons (BytesAt.of (hJ.at_ 2 rfl) (Cells.lt (hJ.at_ 2 rfl)) rfl (by simp) (by decide)) (.cons (BytesAt.of (hJ.at_ 4 rfl) (Cells.lt (hJ.at_ 4 rfl)) hsl.out.symm (by rw [hsl.out]; omega) (by decide)) (.cons (BytesAt.of (hJ.at_ 1 rfl) (Cells.lt (hJ.at_ 1 rfl)) rfl (by simp) (by decide)) .nil)))) (Nat.le_refl _) (by simp) (by simp [hsl.out])).mono ?_
  rintro e w5 ⟨rfl, hb⟩
  rw [hfl.out]
  have hI5 := hJ.call hb
  generalize hr : secretS seed leaf chain = r at *
  have HR := Lib.hid hr
  clear hr hfl hI hJ hb
  go_wp2_with (refine wl_store_at hI5 3 rfl 23 (.tmp 6) _ rfl (w.heap.size + 1) _ _ (r.map bv) rfl rfl rfl (by rw [List.length_map, h16.out]; rfl) (by rw [List.length_map, h16.out]; kernel_rfl) (bv_one _) (by simp [Apart, Res.apart, Low.parts, Low.els, Low.rd] <;> omega) ?_; intro w9 hI9 hs9)
  refine bodyPost_ret (v := .agg (r.map bv).toArray) ?_ rfl ⟨by rw [HR.out], (hI9.at_ 5 rfl).1⟩
  exact results_cell_row rfl _ _ (w.heap.size + 1) 23 (r.map bv).toArray (0, 0) _ rfl (hI9.at_ 3 rfl) Try.underlying23 rfl (by rw [List.size_toArray, List.length_map, h16.out]; kernel_rfl)

set_option maxRecDepth 100000 in
set_option maxHeartbeats 3200000 in
theorem refClimb_any (w : World) (x : List UInt8) (leaf chain f t : Int) (hx : x.length = 16) :
    Calls Try.prog 44 #[.agg (x.map bv).toArray, .int .i64 leaf, .int .i64 chain, .int .i64 f, .int .i64 t] w fun e w' => e = .returned (.agg ((climbS x leaf chain f t).map bv).toArray) ∧ Below w.heap.size w w' := by
  have hR : All w [.kept w w.heap.size] := ⟨⟨Below.refl _ _, Nat.le_refl _⟩, trivial⟩
  have hsl := Lib.hid hx
  clear hx
  by_cases hc : f < 0 ∨ 3 < t
  · have hcl : Hid (climbS x leaf chain f t = x) := Lib.hid (by unfold climbS; rw [if_pos hc])
    have hfin : ∀ W : World, All W [.cells (w.heap.size + 1) 23 (List.replicate 16 (.int .u8 0)), .cells w.heap.size 23 (x.map bv), .kept w w.heap.size] → True := fun _ _ => trivial
    clear hfin
    have hcc : (decide (f < 0) = true) ∨ (decide (f < 0) = false ∧ decide (3 < t) = true) := by
      rcases hc with h | h
      · left; simpa using h
      · by_cases h1 : f < 0
        · left; simpa using h1
        · right; exact ⟨by simpa using h1, by simpa using h⟩
    clear hc
    go_enter Try.func44, Try.ntmps44
    have hI := (hR.new (x.map bv).toArray 23 rfl rfl).new (List.replicate 16 (.int .u8 0)).toArray 23 (g := w.heap.size + 1) (by simp) rfl
    rcases hcc with hd | ⟨hd, hd2⟩
    all_goals
      go_wp2_with (first | (refine wl_load_at rfl 23 (.tmp 5) rfl w.heap.size _ _ hI.2.1 rfl _ Try.underlying23 rfl (by rw [List.length_map, hsl.out]; kernel_rfl) ?_) | (refine wl_store_at hI 0 rfl 23 _ _ rfl (w.heap.size + 1) _ _ (x.map bv) rfl rfl rfl (by rw [List.length_map, hsl.out]; rfl) (by rw [List.length_map, hsl.out]; kernel_rfl) (bv_one _) (by simp [Apart, Res.apart] <;> omega) ?_; intro w9 hI9 hs9))
      refine bodyPost_ret (v := .agg (x.map bv).toArray) ?_ rfl ⟨by rw [hcl.out], (hI9.at_ 2 rfl).1⟩
      exact results_cell_row rfl _ _ (w.heap.size + 1) 23 (x.map bv).toArray (0, 0) _ rfl (hI9.at_ 0 rfl) Try.underlying23 rfl (by rw [List.size_toArray, List.length_map, hsl.out]; kernel_rfl)
  · have hcl : Hid (climbS x leaf chain f t = climbN x leaf chain f (t - f).toNat) := Lib.hid (by unfold climbS; rw [if_neg hc])
    have hf0 : 0 ≤ f := by omega
    have ht3 : t ≤ 3 := by omega
    have hd : decide (f < 0) = false := by simp; omega
    have hd2 : decide (3 < t) = false := by simp; omega
    clear hc
    go_enter Try.func44, Try.ntmps44
    have hI := (hR.new (x.map bv).toArray 23 rfl rfl).new (List.replicate 16 (.int .u8 0)).toArray 23 (g := w.heap.size + 1) (by simp) rfl
    go_wp2
    clear hd hd2
    go_loopw [11] (fun i wr => ∃ (k : Nat) (a : Int), i = .int .i64 a ∧ Hid (a = f + k) ∧ 0 ≤ a ∧ k ≤ (t - f).toNat ∧ All wr [.cells (w.heap.size + 1) 23 (List.replicate 16 (.int .u8 0)), .cells w.heap.size 23 ((climbN x leaf chain f k).map bv), .kept w w.heap.size]) (fun i _ => (3 - intOf i).toNat)
    case atStart => exact ⟨0, f, rfl, Lib.hid (by simp), hf0, by omega, hI⟩
    case round =>
      obtain ⟨k, at_, rfl, HA, ha0, hk, hIr⟩ := hrel
      have hcx : Hid ((climbN x leaf chain f k).length = 16) := Lib.hid (climbN_len x leaf chain f hsl.out k)
      by_cases hlt : at_ < t
      · have hat : at_ ≤ 2 := by omega
        have hs1 : Hid (climbN x leaf chain f (k + 1) = stepS (climbN x leaf chain f k) leaf chain at_) := Lib.hid (by rw [climbN, HA.out])
        generalize climbN x leaf chain f k = y at *
        have hlw : w.heap.size + 1 < wr.heap.size := Cells.lt (hIr.at_ 0 rfl)
        have hJ := (((hIr.new #[.int .u8 4] 5 (g := wr.heap.size) (l := [4].map bv) (by simp) (by first | rfl | (simp only [b8_v]; rfl))).new #[.int .u8 (leaf / 256 % 256), .int .u8 (leaf % 256), .int .u8 (chain % 256), .int .u8 at_] 5 (g := wr.heap.size + 1) (l := [b8 (leaf / 256), b8 leaf, b8 chain, b8 at_].map bv) (by simp) (by simp only [b8_v, b8_small ha0 (by omega : at_ < 256)]; rfl)).new #[.slice (some ⟨wr.heap.size, 0, none⟩) 1 1, .slice (some ⟨w.heap.size, 0, none⟩) 16 16, .slice (some ⟨wr.heap.size + 1, 0, none⟩) 4 4] 64 (g := wr.heap.size + 1 + 1) (l := _) (by simp) rfl)
        have hfl : Hid (halfS [[4], y, [b8 (leaf / 256), b8 leaf, b8 chain, b8 at_]].flatten = stepS y leaf chain at_) := Lib.hid (by simp [stepS, twoS])
        have h16 := Lib.hid (stepS_len y leaf chain at_)
        go_wp2_with fail
        refine (refHalf_any _ _ _ _ _ [[4], y, [b8 (leaf / 256), b8 leaf, b8 chain, b8 at_]] (Parts.of (hJ.at_ 0 rfl) (Cells.lt (hJ.at_ 0 rfl)) rfl (.cons (BytesAt.of (hJ.at_ 2 rfl) (Cells.lt (hJ.at_ 2 rfl)) rfl (by simp) (by decide)) (.cons (BytesAt.of (hJ.at_ 4 rfl) (Cells.lt (hJ.at_ 4 rfl)) hcx.out.symm (by rw [hcx.out]; omega) (by decide)) (.cons (BytesAt.of (hJ.at_ 1 rfl) (Cells.lt (hJ.at_ 1 rfl)) rfl (by simp) (by decide)) .nil)))) (Nat.le_refl _) (by simp) (by simp [hcx.out])).mono ?_
        rintro e w5 ⟨rfl, hb⟩
        rw [hfl.out]
        have hI5 := hJ.call hb
        generalize hr : stepS y leaf chain at_ = r at *
        have HR := Lib.hid hr
        clear hr
        clear hb hJ hIr hI
        go_wp2_with (refine wl_store_at hI5 4 rfl 23 (.tmp 5) _ rfl w.heap.size _ _ (r.map bv) rfl rfl rfl (by rw [List.length_map, h16.out, List.length_map, hcx.out]) (by rw [List.length_map, h16.out]; kernel_rfl) (bv_one _) (by simp [Apart, Res.apart] <;> omega) ?_; intro w9 hI9 hs9)
        go_roundw
        case measure => simp [intOf]; omega
        exact ⟨k + 1, at_ + 1, rfl, Lib.hid (by have := HA.out; omega), by omega, by have := HA.out; omega, by rw [hs1.out]; exact ((hI9.erase 0).erase 0).erase 0⟩
      · have hkt : Hid (k = (t - f).toNat) := Lib.hid (by have := HA.out; omega)
        rw [hkt.out] at hcx hIr
        rw [← hcl.out] at hcx hIr
        generalize hr : climbS x leaf chain f t = r at *
        have HR := Lib.hid hr
        clear hr hcl
        go_wp2_with (first | (refine wl_load_at rfl 23 (.tmp 5) rfl w.heap.size _ _ hIr.2.1 rfl _ Try.underlying23 rfl (by rw [List.length_map, hcx.out]; kernel_rfl) ?_) | (refine wl_store_at hIr 0 rfl 23 _ _ rfl (w.heap.size + 1) _ _ (r.map bv) rfl rfl rfl (by rw [List.length_map, hcx.out]; rfl) (by rw [List.length_map, hcx.out]; kernel_rfl) (bv_one _) (by simp [Apart, Res.apart] <;> omega) ?_; intro w9 hI9 hs9))
        refine bodyPost_ret (v := .agg (r.map bv).toArray) ?_ rfl ⟨by rw [HR.out], (hI9.at_ 2 rfl).1⟩
        exact results_cell_row rfl _ _ (w.heap.size + 1) 23 (r.map bv).toArray (0, 0) _ rfl (hI9.at_ 0 rfl) Try.underlying23 rfl (by rw [List.size_toArray, List.length_map, hcx.out]; kernel_rfl)
end Go.Proofs.Ytlnbeglelhdjfaa

/- Public, both of the program and of the reference. -/
import Derived.Test.YtlnbeglelhdjfaaKey5
import Derived.Test.YtlnbeglelhdjfaaGen2
set_option linter.unusedSimpArgs false
set_option linter.unusedVariables false
namespace Go.Adm
open Go Go.RowKit
def endsS (seed : List UInt8) (leaf : Int) : List (List UInt8) := (List.range 68).map fun (i : Nat) => climbS (secretS seed leaf (i : Int)) leaf (i : Int) 0 3
theorem endsS_len (seed : List UInt8) (leaf : Int) : (endsS seed leaf).length = 68 := by simp [endsS]
theorem endsS_each (seed : List UInt8) (leaf : Int) : ∀ x ∈ endsS seed leaf, x.length = 16 := by
  intro x hx
  obtain ⟨i, _, rfl⟩ := List.mem_map.1 hx
  exact climbS_len _ _ _ _ _ (secretS_len _ _ _)
theorem endsS_succ (seed : List UInt8) (leaf : Int) (k : Nat) (hk : k < 68) : (endsS seed leaf).take (k + 1) = (endsS seed leaf).take k ++ [climbS (secretS seed leaf k) leaf k 0 3] := by
  rw [List.take_succ_eq_append_getElem (by rw [endsS_len]; exact hk)]
  simp [endsS]
theorem hvs_snoc (hs : List (List UInt8)) (h : List UInt8) : (hvs hs).flatten ++ h.map bv = (hvs (hs ++ [h])).flatten := by simp [hvs]
theorem mem_take_each {n : Nat} {hs : List (List UInt8)} (h : ∀ x ∈ hs, x.length = n) (k : Nat) : ∀ x ∈ hs.take k, x.length = n := fun x hx => h x (List.mem_of_mem_take hx)
end Go.Adm
namespace Go.Proofs.Ytlnbeglelhdjfaa
open Go Go.RowKit Go.Adm

theorem els_half : ElemOf Try.prog 28 23 (.agg (List.replicate 16 (.int .u8 0)).toArray) 16 16 := ElemOf.mk' Try.underlying28 (by kernel_rfl) rfl (by decide) (by decide)
set_option maxRecDepth 100000 in
set_option maxHeartbeats 3200000 in
theorem Public_any (w : World) (seed : List UInt8) (leaf : Int) (hs : seed.length = 16) :
    Calls Try.prog 41 #[.agg (seed.map bv).toArray, .int .i64 leaf] w fun e w' => e = .returned (.agg ((publicS seed leaf).map bv).toArray) ∧ Below w.heap.size w w' := by
  have hR : All w [.kept w w.heap.size] := ⟨⟨Below.refl _ _, Nat.le_refl _⟩, trivial⟩
  have hsl := Lib.hid hs
  clear hs
  go_enter Try.func41, Try.ntmps41
  go_upto_region 1 with (fail)
  refine wp_gen ((hR.new (l := seed.map bv) _ 23 rfl rfl).new (l := List.replicate 16 (Value.int .u8 0)) _ 23 (g := w.heap.size + 1) (by simp) rfl) ?_
  intro W hW
  have hlt : w.heap.size + 1 < W.heap.size := Cells.lt (hW.at_ 0 rfl)
  have hI0 : All W [.own (w.heap.size + 2) 23 16 none 0 0 [], .cells (w.heap.size + 1) 23 (List.replicate 16 (.int .u8 0)), .cells w.heap.size 23 (seed.map bv), .kept w w.heap.size] := ⟨Go.Adm.Own.nil _ _ _ _, hW⟩
  clear hW
  go_wp2
  go_loopw [5, 7] (fun v i wr => ∃ (k : Nat) (A' : Option Addr) (c' : Nat), k ≤ 68 ∧ i = .int .i64 k ∧ v = .slice A' k c' ∧
    All wr [.own (w.heap.size + 2) 23 16 A' k c' (hvs ((endsS seed leaf).take k)).flatten, .cells (w.heap.size + 1) 23 (List.replicate 16 (.int .u8 0)), .cells w.heap.size 23 (seed.map bv), .kept w w.heap.size] ∧ w.heap.size + 2 ≤ wr.heap.size) (fun _ i _ => 68 - (intOf i).toNat)
  case atStart => exact ⟨0, none, 0, by omega, rfl, rfl, hI0, hlt⟩
  case round =>
    obtain ⟨k, A', c', hk, rfl, rfl, hI, hsz⟩ := hrel
    by_cases hlt : k < 68
    · have hM := Lib.hid (endsS_succ seed leaf k hlt)
      have h16a := secretS_len seed leaf (k : Int)
      have h16b := Lib.hid (climbS_len (secretS seed leaf k) leaf k 0 3 (secretS_len seed leaf k))
      go_wp2_with (refine wl_load_at rfl 23 (.tmp 2) rfl w.heap.size _ _ (hI.at_ 2 rfl) rfl _ Try.underlying23 rfl (by rw [List.length_map, hsl.out]; kernel_rfl) ?_)
      refine (Secret_any wr seed leaf k hsl.out).mono ?_
      rintro e w3 ⟨rfl, hb3⟩
      have hI3 := hI.call hb3
      have hs3 := hb3.size
      clear hI hb3
      go_wp2_with fail
      refine (Climb_any w3 (secretS seed leaf k) leaf k 0 3 h16a).mono ?_
      rintro e w4 ⟨rfl, hb4⟩
      have hI4 := hI3.call hb4
      have hs4 := hb4.size
      clear hI3 hb4 h16a
      generalize climbS (secretS seed leaf k) leaf k 0 3 = x at *
      go_wp2_with (first | (refine wl_lit1 els_half rfl _ rfl (x.map bv) rfl (by rw [List.length_map, h16b.out]) (by decide) ?_) | (at_builtin; refine wl_app_at els_half (hI4.alloc _) 0 rfl (.tmp 10) (.tmp 18) rfl (w.heap.size + 2) _ _ _ _ rfl rfl (w4.heap.size + 1) _ 1 1 (x.map bv) rfl (Rd.lit w4 (x.map bv).toArray _ 1 (by rw [List.size_toArray, List.length_map, h16b.out])) (bv_one _) (by omega) (by simp; omega) (by intro g hg _; simp [Apart, Res.apart] <;> omega) ?_; intro A5 c5 w5 hI5 hs5))
      refine ⟨⟨k + 1, A5, c5, by omega, by go_num, rfl, ?_, by first | omega | (simp at hs5; omega)⟩, by simp [intOf]; omega⟩
      rw [hM.out, ← hvs_snoc]
      exact hI5
    · obtain rfl : k = 68 := by omega
      rw [List.take_of_length_le (by rw [endsS_len]; omega)] at hI
      have hE : Els wr wr.heap.size 16 A' 68 (hvs (endsS seed leaf)) := Els.of (hI.at_ 0 rfl : Go.Adm.Own wr _ 23 16 A' 68 c' _) (hvs_each (endsS_each seed leaf)) (by rw [hvs_len, endsS_len])
      have h16 := Lib.hid (publicS_len seed leaf)
      go_wp2_with fail
      refine (Combine_any wr wr.heap.size A' 68 c' leaf (endsS seed leaf) hE (endsS_each seed leaf) (Nat.le_refl _) (by decide)).mono ?_
      rintro e w5 ⟨rfl, hb⟩
      have hI5 := (hI.erase 0).call hb
      rw [show combineS leaf (endsS seed leaf) = publicS seed leaf from rfl]
      generalize hr : publicS seed leaf = r at *
      have HR := Lib.hid hr
      clear hr hb hI hE
      go_wp2_with (refine wl_store_at hI5 0 rfl 23 (.tmp 4) _ rfl (w.heap.size + 1) _ _ (r.map bv) rfl rfl rfl (by rw [List.length_map, h16.out]; rfl) (by rw [List.length_map, h16.out]; kernel_rfl) (bv_one _) (by simp [Apart, Res.apart, Low.parts, Low.els, Low.rd] <;> omega) ?_; intro w9 hI9 hs9)
      refine bodyPost_ret (v := .agg (r.map bv).toArray) ?_ rfl ⟨by rw [HR.out], (hI9.at_ 2 rfl).1⟩
      exact results_cell_row rfl _ _ (w.heap.size + 1) 23 (r.map bv).toArray (0, 0) _ rfl (hI9.at_ 0 rfl) Try.underlying23 rfl (by rw [List.size_toArray, List.length_map, h16.out]; kernel_rfl)

set_option maxRecDepth 100000 in
set_option maxHeartbeats 3200000 in
theorem refPublic_any (w : World) (seed : List UInt8) (leaf : Int) (hs : seed.length = 16) :
    Calls Try.prog 46 #[.agg (seed.map bv).toArray, .int .i64 leaf] w fun e w' => e = .returned (.agg ((publicS seed leaf).map bv).toArray) ∧ Below w.heap.size w w' := by
  have hR : All w [.kept w w.heap.size] := ⟨⟨Below.refl _ _, Nat.le_refl _⟩, trivial⟩
  have hsl := Lib.hid hs
  clear hs
  go_enter Try.func46, Try.ntmps46
  go_upto_region 1 with (fail)
  refine wp_gen ((hR.new (l := seed.map bv) _ 23 rfl rfl).new (l := List.replicate 16 (Value.int .u8 0)) _ 23 (g := w.heap.size + 1) (by simp) rfl) ?_
  intro W hW
  have hlt : w.heap.size + 1 < W.heap.size := Cells.lt (hW.at_ 0 rfl)
  have hI0 : All W [.own (w.heap.size + 2) 23 16 none 0 0 [], .cells (w.heap.size + 1) 23 (List.replicate 16 (.int .u8 0)), .cells w.heap.size 23 (seed.map bv), .kept w w.heap.size] := ⟨Go.Adm.Own.nil _ _ _ _, hW⟩
  clear hW
  go_wp2
  go_loopw [5, 6] (fun v i wr => ∃ (k : Nat) (A' : Option Addr) (c' : Nat), k ≤ 68 ∧ i = .int .i64 k ∧ v = .slice A' k c' ∧
    All wr [.own (w.heap.size + 2) 23 16 A' k c' (hvs ((endsS seed leaf).take k)).flatten, .cells (w.heap.size + 1) 23 (List.replicate 16 (.int .u8 0)), .cells w.heap.size 23 (seed.map bv), .kept w w.heap.size] ∧ w.heap.size + 2 ≤ wr.heap.size) (fun _ i _ => 68 - (intOf i).toNat)
  case atStart => exact ⟨0, none, 0, by omega, rfl, rfl, hI0, hlt⟩
  case round =>
    obtain ⟨k, A', c', hk, rfl, rfl, hI, hsz⟩ := hrel
    by_cases hlt : k < 68
    · have hM := Lib.hid (endsS_succ seed leaf k hlt)
      have h16a := secretS_len seed leaf (k : Int)
      have h16b := Lib.hid (climbS_len (secretS seed leaf k) leaf k 0 3 (secretS_len seed leaf k))
      go_wp2_with (refine wl_load_at rfl 23 (.tmp 2) rfl w.heap.size _ _ (hI.at_ 2 rfl) rfl _ Try.underlying23 rfl (by rw [List.length_map, hsl.out]; kernel_rfl) ?_)
      refine (refSecret_any wr seed leaf k hsl.out).mono ?_
      rintro e w3 ⟨rfl, hb3⟩
      have hI3 := hI.call hb3
      have hs3 := hb3.size
      clear hI hb3
      go_wp2_with fail
      refine (refClimb_any w3 (secretS seed leaf k) leaf k 0 3 h16a).mono ?_
      rintro e w4 ⟨rfl, hb4⟩
      have hI4 := hI3.call hb4
      have hs4 := hb4.size
      clear hI3 hb4 h16a
      generalize climbS (secretS seed leaf k) leaf k 0 3 = x at *
      go_wp2_with (first | (refine wl_lit1 els_half rfl _ rfl (x.map bv) rfl (by rw [List.length_map, h16b.out]) (by decide) ?_) | (at_builtin; refine wl_app_at els_half (hI4.alloc _) 0 rfl (.tmp 11) (.tmp 19) rfl (w.heap.size + 2) _ _ _ _ rfl rfl (w4.heap.size + 1) _ 1 1 (x.map bv) rfl (Rd.lit w4 (x.map bv).toArray _ 1 (by rw [List.size_toArray, List.length_map, h16b.out])) (bv_one _) (by omega) (by simp; omega) (by intro g hg _; simp [Apart, Res.apart] <;> omega) ?_; intro A5 c5 w5 hI5 hs5))
      refine ⟨⟨k + 1, A5, c5, by omega, by go_num, rfl, ?_, by first | omega | (simp at hs5; omega)⟩, by simp [intOf]; omega⟩
      rw [hM.out, ← hvs_snoc]
      exact hI5
    · obtain rfl : k = 68 := by omega
      rw [List.take_of_length_le (by rw [endsS_len]; omega)] at hI
      have hE : Els wr wr.heap.size 16 A' 68 (hvs (endsS seed leaf)) := Els.of (hI.at_ 0 rfl : Go.Adm.Own wr _ 23 16 A' 68 c' _) (hvs_each (endsS_each seed leaf)) (by rw [hvs_len, endsS_len])
      have h16 := Lib.hid (publicS_len seed leaf)
      go_wp2_with fail
      refine (refCombine_any wr wr.heap.size A' 68 c' leaf (endsS seed leaf) hE (endsS_each seed leaf) (Nat.le_refl _) (by decide)).mono ?_
      rintro e w5 ⟨rfl, hb⟩
      have hI5 := (hI.erase 0).call hb
      rw [show combineS leaf (endsS seed leaf) = publicS seed leaf from rfl]
      generalize hr : publicS seed leaf = r at *
      have HR := Lib.hid hr
      clear hr hb hI hE
      go_wp2_with (refine wl_store_at hI5 0 rfl 23 (.tmp 4) _ rfl (w.heap.size + 1) _ _ (r.map bv) rfl rfl rfl (by rw [List.length_map, h16.out]; rfl) (by rw [List.length_map, h16.out]; kernel_rfl) (bv_one _) (by simp [Apart, Res.apart, Low.parts, Low.els, Low.rd] <;> omega) ?_; intro w9 hI9 hs9)
      refine bodyPost_ret (v := .agg (r.map bv).toArray) ?_ rfl ⟨by rw [HR.out], (hI9.at_ 2 rfl).1⟩
      exact results_cell_row rfl _ _ (w.heap.size + 1) 23 (r.map bv).toArray (0, 0) _ rfl (hI9.at_ 0 rfl) Try.underlying23 rfl (by rw [List.size_toArray, List.length_map, h16.out]; kernel_rfl)

end Go.Proofs.Ytlnbeglelhdjfaa

/- The sanity check: three bytes are stored. -/
import Derived.Test.YtkcmaembpfakdaaDoorSto13
import Derived.Lib.SlBytesConst
set_option linter.unusedSimpArgs false
set_option linter.unusedVariables false
set_option maxRecDepth 100000
namespace Go.Adm
open Go Go.RowKit
theorem sha_abc : (shaS [97, 98, 99]).head? = some 186 := by kernel_rfl
theorem put3_nil (d : List UInt8) : put3 [] d [97, 98, 99] = ([(d, [97, 98, 99])], d, 0) := by
  rw [put3_new (by decide) (by decide) rfl (by decide)]; rfl
theorem pr_one {l : List Bl} {d b : List UInt8} (h : l.map pr = [(d, b)]) : ∃ x, l = [x] ∧ x.d = d ∧ x.b = b := by
  cases l with
  | nil => cases h
  | cons x r =>
    cases r with
    | nil =>
      injection h with h1 h2
      exact ⟨x, rfl, congrArg Prod.fst h1, congrArg Prod.snd h1⟩
    | cons y r => injection h with h1 h2; cases h2
end Go.Adm
namespace Go.Proofs.YtkcmaembpfakdaaDoor
open Go Go.RowKit Go.Adm

set_option maxHeartbeats 1600000 in
theorem awake_any (w : World) : Calls Tryd.prog 5 #[] w fun e w' => e = .returned (.bool true) ∧ Below w.heap.size w w' := by
  have hR : All w [.kept w w.heap.size] := ⟨⟨Below.refl _ _, Nat.le_refl _⟩, trivial⟩
  obtain ⟨d, hd⟩ : ∃ d, shaS [97, 98, 99] = d := ⟨_, rfl⟩
  have HD : Hid (d.length = 32) := Lib.hid (by rw [← hd]; exact shaS_len _)
  have HH : Hid (d.head? = some 186) := Lib.hid (by rw [← hd]; exact sha_abc)
  have HSD := Lib.hid hd
  clear hd
  go_enter Tryd.func5, Tryd.ntmps5
  have hcv := Lib.run_convert_bytes_const (P := Tryd.prog) w 22 5 #[.int .u8 97, .int .u8 98, .int .u8 99] 3 3 el_b8.ht Tryd.underlying5
  obtain ⟨W1, hW1⟩ : ∃ W1, W1 = w.alloc (.cells #[.int .u8 97, .int .u8 98, .int .u8 99] 5 ((#[.int .u8 97, .int .u8 98, .int .u8 99] : Array Value).size, (#[.int .u8 97, .int .u8 98, .int .u8 99] : Array Value).size + 1)) := ⟨_, rfl⟩
  have hA1 : All W1 [.kept w w.heap.size] := by rw [hW1]; exact hR.alloc _
  have hrd : Rd W1 W1.heap.size 1 (some ⟨w.heap.size, 0, none⟩) 3 (([97, 98, 99] : List UInt8).map bv) := by
    rw [hW1]
    refine ⟨rfl, fun _ => ⟨_, rfl, by simp, fun j u hu => ?_⟩⟩
    rw [add_lit, Nat.zero_add, World.cell?_alloc_mark]
    match j, hu with
    | 0, hu => exact hu
    | 1, hu => exact hu
    | 2, hu => exact hu
    | _ + 3, hu => cases hu
  have hpu := Put_any W1 W1.heap.size none (some ⟨w.heap.size, 0, none⟩) 0 0 3 3 [] d [97, 98, 99] Blobs.nil hrd HSD.out (by omega) (by omega) (Nat.le_refl _) (by decide) (Nat.le_refl _) (fun x hx => by cases hx)
  unfold PutPost at hpu
  rw [put3_nil] at hpu
  rw [hW1] at hpu
  clear hrd
  go_upto_region 1 with (fail)
  go_wp2_with fail
  refine hpu.mono ?_
  clear hpu hcv
  rintro e w2 ⟨A', n', c', l', rfl, hbl, hnc, hcm, hpr, hb2⟩
  rw [← hW1] at hb2
  obtain ⟨x, rfl, hxd, hxb⟩ := pr_one hpr
  have hn1 : n' = 1 := hbl.len.symm
  subst hn1
  have hA2 := hA1.call hb2
  have hA3 : All w2 [.low (.blobs w2.heap.size A' 1 [x]), .kept w w.heap.size] := ⟨⟨hbl, Nat.le_refl _⟩, hA2.at_ 0 rfl, trivial⟩
  have hwg : w.heap.size ≤ w2.heap.size := hA2.size_kept 0 rfl
  have hLK : Hid (lookB [x] d = some x) := Lib.hid (by unfold lookB; rw [List.find?_cons_of_pos (by simpa using hxd)])
  have HXB := Lib.hid hxb
  have hxn : Hid (x.n = 3) := Lib.hid (by have := (hbl.each x (List.mem_singleton.2 rfl)).len; rw [hxb] at this; exact this.symm)
  clear hA1 hA2 hb2 hW1 hbl hpr hR hxd hxb
  obtain ⟨g2, hg2⟩ : ∃ g2, g2 = w2.heap.size := ⟨_, rfl⟩
  rw [← hg2] at hA3
  have hwg2 : w.heap.size ≤ g2 := by omega
  have hzr : ∀ W : World, (zeroValue 36).run Tryd.prog W = .ok (.agg (z32.map bv).toArray) W := fun W => by kernel_rfl
  go_upto_region 2 with (refine wl_store_at (hA3.new (l := z32.map bv) _ 36 hg2 rfl) 0 rfl 36 (.tmp 2) (.tmp 11) rfl g2 _ _ (d.map bv) rfl (by rw [hg2]; rfl) rfl (by rw [List.length_map, HD.out]; rfl) (by rw [List.length_map, HD.out]; kernel_rfl) (bv_one _) (by simp [Apart, Res.apart, Low.blobs] <;> omega) ?_; intro W3 hW3 hs3; simp only [List.set_cons_zero] at hW3)
  simp only [← hg2]
  clear hA3 hs3 hg2
  have hge := Get_any W3 g2 A' 1 c' [x] d (hW3.at_ 1 rfl : Blobs W3 g2 A' 1 [x] ∧ _).1 HD.out (by omega) (hW3.at_ 1 rfl : _ ∧ g2 ≤ W3.heap.size).2 (fun y hy => by rw [List.mem_singleton.1 hy, hxn.out]; omega)
  rw [hLK.out] at hge
  go_wp2_with (refine wl_load_any rfl 36 (.tmp 2) rfl ⟨g2, 0, none⟩ rfl (d.map bv) _ (Cells.sub (hW3.at_ 0 rfl) 0 (fun j u h => by rwa [Nat.zero_add])) Tryd.underlying36 rfl (by rw [List.length_map, HD.out]; kernel_rfl) ?_)
  refine hge.mono ?_
  clear hge
  rintro e w4 ⟨A5, n5, c5, rfl, hb4, hr4⟩
  have hW4 := hW3.call hb4
  have hcv : (convert 22 9 (.slice A5 n5 c5)).run Tryd.prog w4 = .ok (.string ⟨#[97, 98, 99]⟩) w4 := by
    have h := conv_b (c := c5) hr4
    rw [show dataB (some x) = [97, 98, 99] from HXB.out] at h
    exact h
  have hc0 : w4.cell? ⟨g2, 0, none⟩ = some (.int .u8 186) := by
    have h0 : 0 < d.length := by rw [HD.out]; decide
    have h1 := Cells.cell (hW4.at_ 0 rfl : Cells w4 g2 _ _) (i := 0) (by rw [List.length_map]; exact h0)
    rw [h1, List.getElem_map]
    have h2 := HH.out
    rw [List.head?_eq_getElem?, List.getElem?_eq_getElem h0] at h2
    rw [Option.some.inj h2]; rfl
  clear hb4 hr4 hW3
  go_wp2_with fail
  go_ret
  exact ⟨rfl, (hW4.at_ 2 rfl : _ ∧ _).1⟩
end Go.Proofs.YtkcmaembpfakdaaDoor

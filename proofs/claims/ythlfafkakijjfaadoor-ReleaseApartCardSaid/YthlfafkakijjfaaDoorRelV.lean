/- Releases: which are valid. -/
import Derived.Test.YthlfafkakijjfaaDoorRelH
set_option linter.unusedSimpArgs false
set_option linter.unusedVariables false
set_option maxRecDepth 100000
namespace Go.Proofs.YthlfafkakijjfaaDoor
open Go Go.RowKit Go.Adm Go.AdP
set_option maxHeartbeats 6400000 in
theorem rlsValid_any (w : World) (x : Rls) (h : x.Ok) (z1 : x.l.size ≤ 140737488355328) (z2 : x.r.size ≤ 140737488355328) :
    Calls Tryd.prog 21 #[.agg (rlsC x).toArray] w fun e w' => e = .returned (.bool (rlsB x)) ∧ Below w.heap.size w w' := by
  have hR : All w [.kept w w.heap.size] := ⟨⟨Below.refl _ _, Nat.le_refl _⟩, trivial⟩
  have HLA := Lib.hid h.a
  have HLD := Lib.hid h.d
  have HLC := Lib.hid h.c
  have XA := Lib.hid (rls_a x h)
  have XD := Lib.hid (rls_d x h)
  have XC := Lib.hid (rls_c x h)
  have XL := Lib.hid (rls_l x h)
  have XR := Lib.hid (rls_r x h)
  have XT := Lib.hid (rls_t x h)
  have hn3 := fun w => ne_dg w x.a z32 h.a (by decide)
  have hn4 := fun w => ne_dg w x.d z32 h.d (by decide)
  have hn5 := fun w => ne_dg w x.c z32 h.c (by decide)
  have HZ : Hid ((z32.map bv).length = 32) := Lib.hid rfl
  have HF : Hid (rlsB x = (nameB x.l && (nameB x.r && (!decide (x.a = z32) && (!decide (x.d = z32) && (!decide (x.c = z32) && (decide (0 ≤ x.t) && decide (x.t ≤ 1099511627776)))))))) := Lib.hid rfl
  have hzr := zero_dg
  clear h
  go_enter Tryd.func21, Tryd.ntmps21
  go_upto_region 1 with (fail)
  refine wp_gen (hR.new (l := rlsC x) _ 26 rfl rfl) ?_
  intro W hW
  have hs := Cells.lt (hW.at_ 0 rfl)
  obtain ⟨g, hg⟩ : ∃ g, g = W.heap.size := ⟨_, rfl⟩
  have hW1 := hW.new (l := z32.map bv) (z32.map bv).toArray 24 (g := W.heap.size) rfl rfl
  have hap : Apart (some W.heap.size) [.cells w.heap.size 26 (rlsC x), .kept w w.heap.size] := by simp [Apart, Res.apart]; omega
  clear hR hg
  go_upto_region 2 with (first
    | (refine wl_store_at hW1 0 rfl 24 (.tmp 3) (.tmp 5) rfl W.heap.size _ _ (z32.map bv) rfl rfl rfl rfl (by rw [HZ.out]; kernel_rfl) (bv_one _) hap ?_; intro W2 hW2 hs2))
  simp only [List.set_cons_zero] at hW2
  clear hW1 hap hs2 hW hs
  obtain ⟨g3, hg3⟩ : ∃ g, g = W.heap.size := ⟨_, rfl⟩
  rw [← hg3] at hW2 ⊢
  clear hg3
  have c64 := cell_at (hW2.at_ 1 rfl) XL.out
  have c65 := cell_at (hW2.at_ 1 rfl) XR.out
  have c98 := cell_at (hW2.at_ 1 rfl) XT.out
  have rA := Lib.hid (cell_dig (hW2.at_ 1 rfl) XA.out)
  have rD := Lib.hid (cell_dig (hW2.at_ 1 rfl) XD.out)
  have rC := Lib.hid (cell_dig (hW2.at_ 1 rfl) XC.out)
  have rZ := Lib.hid (cell_all (hW2.at_ 0 rfl))
  have hb := Lib.hid (hW2.at_ 2 rfl : _ ∧ _).1
  clear hW2 hzr
  generalize hz : z32 = z at *
  clear hz
  cases e1 : nameB x.l with
  | false =>
    rw [e1] at HF
    go_wp2_with (first | (go_at_call 38; refine (Name_any _ _ (by first | exact z1 | exact z2)).mono ?_; rintro e w' ⟨rfl, rfl⟩) | (refine wl_met_load 24 (.tmp 16) rfl ⟨w.heap.size, 0, none⟩ rfl (x.a.map bv) _ rA.out Tryd.underlying24 rfl (by rw [List.length_map, HLA.out]; kernel_rfl) rfl ?_) | (refine wl_met_load 24 (.tmp 3) rfl ⟨g3, 0, none⟩ rfl (z.map bv) _ rZ.out Tryd.underlying24 rfl (by rw [HZ.out]; kernel_rfl) rfl ?_) | (refine wl_met_load 24 (.tmp 22) rfl ⟨w.heap.size, 32, none⟩ rfl (x.d.map bv) _ rD.out Tryd.underlying24 rfl (by rw [List.length_map, HLD.out]; kernel_rfl) rfl ?_) | (refine wl_met_load 24 (.tmp 28) rfl ⟨w.heap.size, 66, none⟩ rfl (x.c.map bv) _ rC.out Tryd.underlying24 rfl (by rw [List.length_map, HLC.out]; kernel_rfl) rfl ?_))
    go_ret
    exact ⟨ret_bool (by rw [HF.out]; rfl), hb.out⟩
  | true =>
    rw [e1] at HF
    cases e2 : nameB x.r with
    | false =>
      rw [e2] at HF
      go_wp2_with (first | (go_at_call 38; refine (Name_any _ _ (by first | exact z1 | exact z2)).mono ?_; rintro e w' ⟨rfl, rfl⟩) | (refine wl_met_load 24 (.tmp 16) rfl ⟨w.heap.size, 0, none⟩ rfl (x.a.map bv) _ rA.out Tryd.underlying24 rfl (by rw [List.length_map, HLA.out]; kernel_rfl) rfl ?_) | (refine wl_met_load 24 (.tmp 3) rfl ⟨g3, 0, none⟩ rfl (z.map bv) _ rZ.out Tryd.underlying24 rfl (by rw [HZ.out]; kernel_rfl) rfl ?_) | (refine wl_met_load 24 (.tmp 22) rfl ⟨w.heap.size, 32, none⟩ rfl (x.d.map bv) _ rD.out Tryd.underlying24 rfl (by rw [List.length_map, HLD.out]; kernel_rfl) rfl ?_) | (refine wl_met_load 24 (.tmp 28) rfl ⟨w.heap.size, 66, none⟩ rfl (x.c.map bv) _ rC.out Tryd.underlying24 rfl (by rw [List.length_map, HLC.out]; kernel_rfl) rfl ?_))
      go_ret
      exact ⟨ret_bool (by rw [HF.out]; rfl), hb.out⟩
    | true =>
      rw [e2] at HF
      cases e3 : (!decide (x.a = z)) with
      | false =>
        rw [e3] at HF hn3
        clear e3
        go_wp2_with (first | (go_at_call 38; refine (Name_any _ _ (by first | exact z1 | exact z2)).mono ?_; rintro e w' ⟨rfl, rfl⟩) | (refine wl_met_load 24 (.tmp 16) rfl ⟨w.heap.size, 0, none⟩ rfl (x.a.map bv) _ rA.out Tryd.underlying24 rfl (by rw [List.length_map, HLA.out]; kernel_rfl) rfl ?_) | (refine wl_met_load 24 (.tmp 3) rfl ⟨g3, 0, none⟩ rfl (z.map bv) _ rZ.out Tryd.underlying24 rfl (by rw [HZ.out]; kernel_rfl) rfl ?_) | (refine wl_met_load 24 (.tmp 22) rfl ⟨w.heap.size, 32, none⟩ rfl (x.d.map bv) _ rD.out Tryd.underlying24 rfl (by rw [List.length_map, HLD.out]; kernel_rfl) rfl ?_) | (refine wl_met_load 24 (.tmp 28) rfl ⟨w.heap.size, 66, none⟩ rfl (x.c.map bv) _ rC.out Tryd.underlying24 rfl (by rw [List.length_map, HLC.out]; kernel_rfl) rfl ?_))
        go_ret
        exact ⟨ret_bool (by rw [HF.out]; rfl), hb.out⟩
      | true =>
        rw [e3] at HF hn3
        clear e3
        cases e4 : (!decide (x.d = z)) with
        | false =>
          rw [e4] at HF hn4
          clear e4
          go_wp2_with (first | (go_at_call 38; refine (Name_any _ _ (by first | exact z1 | exact z2)).mono ?_; rintro e w' ⟨rfl, rfl⟩) | (refine wl_met_load 24 (.tmp 16) rfl ⟨w.heap.size, 0, none⟩ rfl (x.a.map bv) _ rA.out Tryd.underlying24 rfl (by rw [List.length_map, HLA.out]; kernel_rfl) rfl ?_) | (refine wl_met_load 24 (.tmp 3) rfl ⟨g3, 0, none⟩ rfl (z.map bv) _ rZ.out Tryd.underlying24 rfl (by rw [HZ.out]; kernel_rfl) rfl ?_) | (refine wl_met_load 24 (.tmp 22) rfl ⟨w.heap.size, 32, none⟩ rfl (x.d.map bv) _ rD.out Tryd.underlying24 rfl (by rw [List.length_map, HLD.out]; kernel_rfl) rfl ?_) | (refine wl_met_load 24 (.tmp 28) rfl ⟨w.heap.size, 66, none⟩ rfl (x.c.map bv) _ rC.out Tryd.underlying24 rfl (by rw [List.length_map, HLC.out]; kernel_rfl) rfl ?_))
          go_ret
          exact ⟨ret_bool (by rw [HF.out]; rfl), hb.out⟩
        | true =>
          rw [e4] at HF hn4
          clear e4
          cases e5 : (!decide (x.c = z)) with
          | false =>
            rw [e5] at HF hn5
            clear e5
            go_wp2_with (first | (go_at_call 38; refine (Name_any _ _ (by first | exact z1 | exact z2)).mono ?_; rintro e w' ⟨rfl, rfl⟩) | (refine wl_met_load 24 (.tmp 16) rfl ⟨w.heap.size, 0, none⟩ rfl (x.a.map bv) _ rA.out Tryd.underlying24 rfl (by rw [List.length_map, HLA.out]; kernel_rfl) rfl ?_) | (refine wl_met_load 24 (.tmp 3) rfl ⟨g3, 0, none⟩ rfl (z.map bv) _ rZ.out Tryd.underlying24 rfl (by rw [HZ.out]; kernel_rfl) rfl ?_) | (refine wl_met_load 24 (.tmp 22) rfl ⟨w.heap.size, 32, none⟩ rfl (x.d.map bv) _ rD.out Tryd.underlying24 rfl (by rw [List.length_map, HLD.out]; kernel_rfl) rfl ?_) | (refine wl_met_load 24 (.tmp 28) rfl ⟨w.heap.size, 66, none⟩ rfl (x.c.map bv) _ rC.out Tryd.underlying24 rfl (by rw [List.length_map, HLC.out]; kernel_rfl) rfl ?_))
            go_ret
            exact ⟨ret_bool (by rw [HF.out]; rfl), hb.out⟩
          | true =>
            rw [e5] at HF hn5
            clear e5
            cases e6 : decide (0 ≤ x.t) with
            | false =>
              rw [e6] at HF
              go_wp2_with (first | (go_at_call 38; refine (Name_any _ _ (by first | exact z1 | exact z2)).mono ?_; rintro e w' ⟨rfl, rfl⟩) | (refine wl_met_load 24 (.tmp 16) rfl ⟨w.heap.size, 0, none⟩ rfl (x.a.map bv) _ rA.out Tryd.underlying24 rfl (by rw [List.length_map, HLA.out]; kernel_rfl) rfl ?_) | (refine wl_met_load 24 (.tmp 3) rfl ⟨g3, 0, none⟩ rfl (z.map bv) _ rZ.out Tryd.underlying24 rfl (by rw [HZ.out]; kernel_rfl) rfl ?_) | (refine wl_met_load 24 (.tmp 22) rfl ⟨w.heap.size, 32, none⟩ rfl (x.d.map bv) _ rD.out Tryd.underlying24 rfl (by rw [List.length_map, HLD.out]; kernel_rfl) rfl ?_) | (refine wl_met_load 24 (.tmp 28) rfl ⟨w.heap.size, 66, none⟩ rfl (x.c.map bv) _ rC.out Tryd.underlying24 rfl (by rw [List.length_map, HLC.out]; kernel_rfl) rfl ?_))
              go_ret
              exact ⟨ret_bool (by rw [HF.out]; rfl), hb.out⟩
            | true =>
              rw [e6] at HF
              cases e7 : decide (x.t ≤ 1099511627776) with
              | false =>
                rw [e7] at HF
                go_wp2_with (first | (go_at_call 38; refine (Name_any _ _ (by first | exact z1 | exact z2)).mono ?_; rintro e w' ⟨rfl, rfl⟩) | (refine wl_met_load 24 (.tmp 16) rfl ⟨w.heap.size, 0, none⟩ rfl (x.a.map bv) _ rA.out Tryd.underlying24 rfl (by rw [List.length_map, HLA.out]; kernel_rfl) rfl ?_) | (refine wl_met_load 24 (.tmp 3) rfl ⟨g3, 0, none⟩ rfl (z.map bv) _ rZ.out Tryd.underlying24 rfl (by rw [HZ.out]; kernel_rfl) rfl ?_) | (refine wl_met_load 24 (.tmp 22) rfl ⟨w.heap.size, 32, none⟩ rfl (x.d.map bv) _ rD.out Tryd.underlying24 rfl (by rw [List.length_map, HLD.out]; kernel_rfl) rfl ?_) | (refine wl_met_load 24 (.tmp 28) rfl ⟨w.heap.size, 66, none⟩ rfl (x.c.map bv) _ rC.out Tryd.underlying24 rfl (by rw [List.length_map, HLC.out]; kernel_rfl) rfl ?_))
                go_ret
                exact ⟨ret_bool (by rw [HF.out]; rfl), hb.out⟩
              | true =>
                rw [e7] at HF
                go_wp2_with (first | (go_at_call 38; refine (Name_any _ _ (by first | exact z1 | exact z2)).mono ?_; rintro e w' ⟨rfl, rfl⟩) | (refine wl_met_load 24 (.tmp 16) rfl ⟨w.heap.size, 0, none⟩ rfl (x.a.map bv) _ rA.out Tryd.underlying24 rfl (by rw [List.length_map, HLA.out]; kernel_rfl) rfl ?_) | (refine wl_met_load 24 (.tmp 3) rfl ⟨g3, 0, none⟩ rfl (z.map bv) _ rZ.out Tryd.underlying24 rfl (by rw [HZ.out]; kernel_rfl) rfl ?_) | (refine wl_met_load 24 (.tmp 22) rfl ⟨w.heap.size, 32, none⟩ rfl (x.d.map bv) _ rD.out Tryd.underlying24 rfl (by rw [List.length_map, HLD.out]; kernel_rfl) rfl ?_) | (refine wl_met_load 24 (.tmp 28) rfl ⟨w.heap.size, 66, none⟩ rfl (x.c.map bv) _ rC.out Tryd.underlying24 rfl (by rw [List.length_map, HLC.out]; kernel_rfl) rfl ?_))
                go_ret
                exact ⟨ret_bool (by rw [HF.out]; rfl), hb.out⟩
end Go.Proofs.YthlfafkakijjfaaDoor

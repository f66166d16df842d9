/- Releases are decoded. -/
import Derived.Test.YthlfafkakijjfaaDoorRelI
import Derived.Test.YthlfafkakijjfaaDoorRelV
set_option linter.unusedSimpArgs false
set_option linter.unusedVariables false
set_option maxRecDepth 100000
namespace Go.Adm
open Go Go.RowKit Go.AdP
theorem rlsF_ok {b : List UInt8} {x : Rls} (h : rlsF b = some x) : x.Ok := by
  unfold rlsF at h
  split at h
  · split at h
    · unfold rlsLn at h
      split at h
      · split at h
        · split at h
          · rename_i a d c n ha hd hc hn
            injection h with h
            rw [← h]
            exact ⟨parseD_32 ha, parseD_32 hd, parseD_32 hc⟩
          · cases h
        · cases h
      · cases h
    · cases h
  · cases h
end Go.Adm
namespace Go.Proofs.YthlfafkakijjfaaDoor
open Go Go.RowKit Go.Adm Go.AdP
/-- what Decode returns -/
noncomputable def rlsD (b : List UInt8) : Rls × Int := match rlsF b with
  | some x => if rlsB x = true then (x, 0) else (rlsN, 1)
  | none => (rlsN, rlsE b)
theorem rlsD_ok' (b : List UInt8) : (rlsD b).1.Ok := by
  unfold rlsD
  split
  · rename_i x h
    split
    · exact rlsF_ok h
    · exact rlsN_ok
  · exact rlsN_ok
theorem rlsD_bad {b : List UInt8} (h : rlsE b ≠ 0) : rlsD b = (rlsN, rlsE b) := by
  unfold rlsD
  cases hx : rlsF b with
  | none => rfl
  | some x =>
    exfalso
    apply h
    unfold rlsE
    by_cases h0 : (decR b).2 = 0
    · rw [if_pos h0, hx]; rfl
    · rw [rlsF_bad h0] at hx; cases hx
theorem rlsD_ok {b : List UInt8} {x : Rls} (h : rlsF b = some x) : rlsD b = if rlsB x = true then (x, 0) else (rlsN, 1) := by unfold rlsD; rw [h]
theorem zero_rls (w : World) : (zeroValue 26).run Tryd.prog w = .ok (.agg rlsZ.toArray) w := by kernel_rfl
theorem rlsZ_one : ∀ v ∈ rlsZ, v.oneCell' = true := rls_one rlsN
theorem rlsZ_len : rlsZ.length = 99 := rls_len _ rlsN_ok
set_option maxHeartbeats 12800000 in
theorem DecodeRel_any (w : World) (B : Nat) (A : Option Addr) (n c : Nat) (b : List UInt8) (hb : Rd w B 1 A n (b.map bv)) (hnc : n ≤ c) (hcm : c ≤ maxLen) (hB : B ≤ w.heap.size) :
    Calls Tryd.prog 5 #[.slice A n c] w fun e w' => e = .returned (.tuple #[.agg (rlsC (rlsD b).1).toArray, .int .i64 (rlsD b).2]) ∧ Below w.heap.size w w' ∧ (rlsD b).1.l.size ≤ 140737488355328 ∧ (rlsD b).1.r.size ≤ 140737488355328 := by
  have hR : All w [.low (.rd B 1 A n (b.map bv)), .kept w w.heap.size] := ⟨⟨hb, hB⟩, ⟨Below.refl _ _, Nat.le_refl _⟩, trivial⟩
  have hzr := zero_rls
  have HNC := Lib.hid hnc
  have HCM := Lib.hid hcm
  clear hb hnc hcm
  go_enter Tryd.func5, Tryd.ntmps5
  go_upto_region 2 with (fail)
  refine wp_gen ((hR.new (l := rlsZ) _ 26 rfl rfl).new (l := rlsZ) (g := w.heap.size + 1) _ 26 (by simp) rfl) ?_
  intro W1 hW1
  have hg1 : w.heap.size + 1 < W1.heap.size := Cells.lt (hW1.at_ 0 rfl)
  clear hR
  obtain ⟨g1, hgg1⟩ : ∃ g, g = W1.heap.size := ⟨_, rfl⟩
  have a0 := (hW1.new (l := [.pointer (some ⟨w.heap.size + 1, 0, none⟩)]) #[.pointer (some ⟨w.heap.size + 1, 0, none⟩)] 46 (g := g1) hgg1 rfl).new (l := [fnV 16]) #[fnV 16] 47 (g := g1 + 1) (by rw [hgg1]; simp) rfl
  have a1 := (a0.new (l := [.pointer (some ⟨w.heap.size + 1, 32, none⟩)]) #[.pointer (some ⟨w.heap.size + 1, 32, none⟩)] 46 (g := g1 + 2) (by rw [hgg1]; simp) rfl).new (l := [fnV 16]) #[fnV 16] 47 (g := g1 + 2 + 1) (by rw [hgg1]; simp) rfl
  have a2 := (a1.new (l := [.pointer (some ⟨w.heap.size + 1, 64, none⟩)]) #[.pointer (some ⟨w.heap.size + 1, 64, none⟩)] 49 (g := g1 + 4) (by rw [hgg1]; simp) rfl).new (l := [fnV 18]) #[fnV 18] 50 (g := g1 + 4 + 1) (by rw [hgg1]; simp) rfl
  have a3 := (a2.new (l := [.pointer (some ⟨w.heap.size + 1, 65, none⟩)]) #[.pointer (some ⟨w.heap.size + 1, 65, none⟩)] 49 (g := g1 + 6) (by rw [hgg1]; simp) rfl).new (l := [fnV 18]) #[fnV 18] 50 (g := g1 + 6 + 1) (by rw [hgg1]; simp) rfl
  have a4 := (a3.new (l := [.pointer (some ⟨w.heap.size + 1, 66, none⟩)]) #[.pointer (some ⟨w.heap.size + 1, 66, none⟩)] 46 (g := g1 + 8) (by rw [hgg1]; simp) rfl).new (l := [fnV 16]) #[fnV 16] 47 (g := g1 + 8 + 1) (by rw [hgg1]; simp) rfl
  have a5 := (a4.new (l := [.pointer (some ⟨w.heap.size + 1, 98, none⟩)]) #[.pointer (some ⟨w.heap.size + 1, 98, none⟩)] 52 (g := g1 + 10) (by rw [hgg1]; simp) rfl).new (l := [fnV 20]) #[fnV 20] 53 (g := g1 + 10 + 1) (by rw [hgg1]; simp) rfl
  have hn3 := a5.new (l := [fldV 33 g1, fldV 33 (g1 + 2), fldV 36 (g1 + 4), fldV 36 (g1 + 6), fldV 33 (g1 + 8), fldV 37 (g1 + 10)]) #[fldV 33 g1, fldV 33 (g1 + 2), fldV 36 (g1 + 4), fldV 36 (g1 + 6), fldV 33 (g1 + 8), fldV 37 (g1 + 10)] 44 (g := g1 + 12) (by rw [hgg1]; simp) rfl
  have hg1' : w.heap.size + 1 < g1 := by omega
  have i1 := fun (W : World) (p : Addr) => intoD_any W p 16
  have i2 := fun (W : World) (p : Addr) => intoI_any W p 20
  have i3 := fun (W : World) (p : Addr) => intoS_any W p 18
  simp only [fldV, fnV] at i1 i2 i3
  simp only [hgg1] at hn3
  clear a0 a1 a2 a3 a4 a5 hzr
  go_upto_region 3 with (first
    | (go_at_call 15; refine (i1 _ _).mono ?_; rintro e w' ⟨rfl, rfl⟩)
    | (go_at_call 19; refine (i2 _ _).mono ?_; rintro e w' ⟨rfl, rfl⟩)
    | (go_at_call 17; refine (i3 _ _).mono ?_; rintro e w' ⟨rfl, rfl⟩)
    | (go_at_call 14; refine (readRel _ (w.heap.size + 1) (W1.heap.size + 12) W1.heap.size (W1.heap.size + 2) (W1.heap.size + 4) (W1.heap.size + 6) (W1.heap.size + 8) (W1.heap.size + 10) B A n c b (hn3.at_ 15 rfl : _ ∧ _).1 HNC.out HCM.out (hn3.at_ 15 rfl : _ ∧ _).2 (hn3.at_ 13 rfl) (hn3.at_ 0 rfl) (hn3.at_ 12 rfl) (hn3.at_ 11 rfl) (hn3.at_ 10 rfl) (hn3.at_ 9 rfl) (hn3.at_ 8 rfl) (hn3.at_ 7 rfl) (hn3.at_ 6 rfl) (hn3.at_ 5 rfl) (hn3.at_ 4 rfl) (hn3.at_ 3 rfl) (hn3.at_ 2 rfl) (hn3.at_ 1 rfl) (by omega) (by omega) (by omega) (by omega) (by omega) (by omega) (by omega) (by omega) (by omega) (by omega) (by omega) (by omega) (by omega) ).mono ?_; rintro e w5 ⟨rfl, hgr, hok⟩))
  have hk5 : Below w.heap.size w w5 := ((hn3.at_ 16 rfl : _ ∧ _).1).trans (below_of_grown hgr (by omega) (hn3.size_kept 16 rfl))
  have hZ5 : Cells w5 w.heap.size 26 rlsZ := Cells.apart (hn3.at_ 14 rfl) hgr (by omega)
  have hI5 : All w5 [.cells w.heap.size 26 rlsZ, .kept w w.heap.size] := ⟨hZ5, ⟨hk5, hk5.size⟩, trivial⟩
  have hs5 : w.heap.size < w5.heap.size := Cells.lt hZ5
  have HZL := Lib.hid rlsZ_len
  clear hn3 hgr hk5 hZ5 hW1 hg1 hg1' hgg1 i1 i2 i3
  by_cases q0 : rlsE b = 0
  · obtain ⟨x, hx, hxl, z1, z2, hC5⟩ := hok q0
    rw [q0]
    have HDX := Lib.hid (rlsD_ok hx)
    have Z1 := Lib.hid z1
    have Z2 := Lib.hid z2
    have hI6 := hI5.cons (r := .cells (w.heap.size + 1) 26 (rlsC x)) hC5
    have HL := Lib.hid (rls_len x hxl)
    have HVA := Lib.hid (fun W => rlsValid_any W x hxl z1 z2)
    have HON := Lib.hid (rls_one x)
    clear hok hI5 q0 hx hxl hC5 z1 z2
    cases hv : rlsB x with
    | false =>
      rw [hv] at HVA
      have HR : Hid (rlsD b = (rlsN, 1)) := Lib.hid (by rw [HDX.out, hv]; rfl)
      clear hv HDX
      go_wp2_with (first
        | (refine wl_load_any rfl 26 (.tmp 4) rfl ⟨w.heap.size + 1, 0, none⟩ rfl (rlsC x) _ (cell_all (hI6.at_ 0 rfl)) Tryd.underlying26 rfl (by rw [HL.out]; kernel_rfl) ?_)
        | (go_at_call 21; refine (HVA.out _).mono ?_; rintro e w6 ⟨rfl, hb6⟩; have hI7 := hI6.call hb6)
        | (refine wl_build rfl 26 [] rfl _ _ #[(0, 32), (32, 32), (64, 1), (65, 1), (66, 32), (98, 1)] rlsZ.toArray zero_rls Tryd.underlying26 (fun w => by kernel_rfl) ?_ ?_; rfl)
        | (refine wl_store_at hI7 1 rfl 26 (.tmp 2) (.tmp 30) rfl w.heap.size _ _ rlsZ rfl rfl rfl rfl (by rw [HZL.out]; kernel_rfl) rlsZ_one (by simp [Apart, Res.apart]) ?_; intro w9 hI9 hs9))
      refine bodyPost_ret (v := .tuple #[.agg rlsZ.toArray, .int .i64 1]) ?_ rfl ⟨by rw [HR.out]; rfl, (hI9.at_ 2 rfl : _ ∧ _).1, by rw [HR.out]; show ByteArray.empty.size ≤ 140737488355328; decide, by rw [HR.out]; show ByteArray.empty.size ≤ 140737488355328; decide⟩
      exact results_row_tmp (p := 2) (q := 3) rfl _ _ w.heap.size 26 rlsZ.toArray (0, 0) _ rfl (hI9.at_ 1 rfl) Tryd.underlying26 rfl (by rw [List.size_toArray, HZL.out]; kernel_rfl)
    | true =>
      rw [hv] at HVA
      have HR : Hid (rlsD b = (x, 0)) := Lib.hid (by rw [HDX.out, hv]; rfl)
      clear hv HDX
      go_wp2_with (first
        | (refine wl_load_any rfl 26 (.tmp 4) rfl ⟨w.heap.size + 1, 0, none⟩ rfl (rlsC x) _ (cell_all (hI6.at_ 0 rfl)) Tryd.underlying26 rfl (by rw [HL.out]; kernel_rfl) ?_)
        | (go_at_call 21; refine (HVA.out _).mono ?_; rintro e w6 ⟨rfl, hb6⟩; have hI7 := hI6.call hb6)
        | (refine wl_load_any rfl 26 (.tmp 4) rfl ⟨w.heap.size + 1, 0, none⟩ rfl (rlsC x) _ (cell_all (hI7.at_ 0 rfl)) Tryd.underlying26 rfl (by rw [HL.out]; kernel_rfl) ?_)
        | (refine wl_store_at hI7 1 rfl 26 (.tmp 2) (.tmp 31) rfl w.heap.size _ _ (rlsC x) rfl rfl rfl (by rw [HL.out]; exact HZL.out.symm) (by rw [HL.out]; kernel_rfl) HON.out (by simp [Apart, Res.apart]) ?_; intro w9 hI9 hs9))
      refine bodyPost_ret (v := .tuple #[.agg (rlsC x).toArray, .int .i64 0]) ?_ rfl ⟨by rw [HR.out], (hI9.at_ 2 rfl : _ ∧ _).1, by rw [HR.out]; exact Z1.out, by rw [HR.out]; exact Z2.out⟩
      exact results_row_tmp (p := 2) (q := 3) rfl _ _ w.heap.size 26 (rlsC x).toArray (0, 0) _ rfl (hI9.at_ 1 rfl) Tryd.underlying26 rfl (by rw [List.size_toArray, HL.out]; kernel_rfl)
  · have HR := Lib.hid (rlsD_bad q0)
    obtain ⟨q, hq⟩ : ∃ q, q = rlsE b := ⟨_, rfl⟩
    rw [← hq] at HR q0 ⊢
    have d0 : (q != 0) = true := by simpa using q0
    clear hok q0 hq
    go_wp2_with (first
      | (refine wl_build rfl 26 [] rfl _ _ #[(0, 32), (32, 32), (64, 1), (65, 1), (66, 32), (98, 1)] rlsZ.toArray zero_rls Tryd.underlying26 (fun w => by kernel_rfl) ?_ ?_; rfl)
      | (refine wl_store_at hI5 0 rfl 26 (.tmp 2) (.tmp 24) rfl w.heap.size _ _ rlsZ rfl rfl rfl rfl (by rw [HZL.out]; kernel_rfl) rlsZ_one (by simp [Apart, Res.apart]) ?_; intro w9 hI9 hs9))
    refine bodyPost_ret (v := .tuple #[.agg rlsZ.toArray, .int .i64 q]) ?_ rfl ⟨by rw [HR.out]; rfl, (hI9.at_ 1 rfl : _ ∧ _).1, by rw [HR.out]; show ByteArray.empty.size ≤ 140737488355328; decide, by rw [HR.out]; show ByteArray.empty.size ≤ 140737488355328; decide⟩
    exact results_row_tmp (p := 2) (q := 3) rfl _ _ w.heap.size 26 rlsZ.toArray (0, 0) _ rfl (hI9.at_ 0 rfl) Tryd.underlying26 rfl (by rw [List.size_toArray, HZL.out]; kernel_rfl)
end Go.Proofs.YthlfafkakijjfaaDoor

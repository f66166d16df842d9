/- Approvals are decoded: the program. -/
import Derived.Test.YthlfafkakijjfaaDoorRel4
set_option linter.unusedSimpArgs false
set_option linter.unusedVariables false
set_option maxRecDepth 100000
namespace Go.Adm
open Go Go.RowKit Go.AdP
def appN : App := ⟨z32, 0⟩
theorem appN_C : appC appN = appZ := rfl
/-- what DecodeApproval returns -/
def appD (b : List UInt8) : App × Int := match appF b with
  | some x => if appB x = true then (x, 0) else (appN, 1)
  | none => (appN, appE b)
theorem appF_32 {b : List UInt8} {x : App} (h : appF b = some x) : x.d.length = 32 := by
  unfold appF at h
  split at h
  · split at h
    · unfold appLn at h
      split at h
      · split at h
        · split at h
          · rename_i v n hv hn
            injection h with h
            rw [← h]
            exact parseD_32 hv
          · cases h
        · cases h
      · cases h
    · cases h
  · cases h
theorem appD_32 (b : List UInt8) : (appD b).1.d.length = 32 := by
  unfold appD
  split
  · rename_i x h
    split
    · exact appF_32 h
    · rfl
  · rfl
theorem appE_zero {b : List UInt8} (h : appE b = 0) : ∃ x, appF b = some x := by
  unfold appE at h
  split at h
  · split at h
    · rename_i h2; exact Option.isSome_iff_exists.1 h2
    · cases h
  · rename_i h2; exact absurd h h2
theorem below_of_grown {w w' : World} {G B : Nat} (h : w.grownBy w' (some G)) (hB : B ≤ G) (hw : B ≤ w.heap.size) : Below B w w' :=
  ⟨h.os, h.tape, h.output, h.size, fun k hk => h.block k (by omega) (by intro e; injection e with e; omega)⟩
theorem appD_bad {b : List UInt8} (h : appE b ≠ 0) : appD b = (appN, appE b) := by
  unfold appD
  cases hx : appF b with
  | none => rfl
  | some x =>
    exfalso
    apply h
    unfold appE
    by_cases h0 : (decR b).2 = 0
    · rw [if_pos h0, hx]; rfl
    · rw [appF_bad h0] at hx; cases hx
theorem appD_ok {b : List UInt8} {x : App} (h : appF b = some x) : appD b = if appB x = true then (x, 0) else (appN, 1) := by unfold appD; rw [h]
end Go.Adm
namespace Go.Proofs.YthlfafkakijjfaaDoor
open Go Go.RowKit Go.Adm Go.AdP
theorem zero_app (w : World) : (zeroValue 31).run Tryd.prog w = .ok (.agg appZ.toArray) w := by kernel_rfl
theorem appZ_one : ∀ v ∈ appZ, v.oneCell' = true := appC_one appN
set_option maxHeartbeats 6400000 in
theorem DecodeApproval_any (w : World) (B : Nat) (A : Option Addr) (n c : Nat) (b : List UInt8) (hb : Rd w B 1 A n (b.map bv)) (hnc : n ≤ c) (hcm : c ≤ maxLen) (hB : B ≤ w.heap.size) :
    Calls Tryd.prog 6 #[.slice A n c] w fun e w' => e = .returned (.tuple #[.agg (appC (appD b).1).toArray, .int .i64 (appD b).2]) ∧ Below w.heap.size w w' := by
  have hR : All w [.low (.rd B 1 A n (b.map bv)), .kept w w.heap.size] := ⟨⟨hb, hB⟩, ⟨Below.refl _ _, Nat.le_refl _⟩, trivial⟩
  have hzr := zero_app
  have HNC := Lib.hid hnc
  have HCM := Lib.hid hcm
  clear hb hnc hcm
  go_enter Tryd.func6, Tryd.ntmps6
  go_upto_region 2 with (fail)
  refine wp_gen ((hR.new (l := appZ) _ 31 rfl rfl).new (l := appZ) (g := w.heap.size + 1) _ 31 (by simp) rfl) ?_
  intro W1 hW1
  have hg1 : w.heap.size + 1 < W1.heap.size := Cells.lt (hW1.at_ 0 rfl)
  clear hR
  obtain ⟨g1, hgg1⟩ : ∃ g, g = W1.heap.size := ⟨_, rfl⟩
  have hn1 := (hW1.new (l := [.pointer (some ⟨w.heap.size + 1, 0, none⟩)]) #[.pointer (some ⟨w.heap.size + 1, 0, none⟩)] 46 (g := g1) hgg1 rfl).new (l := [fnV 16]) #[fnV 16] 47 (g := g1 + 1) (by rw [hgg1]; simp) rfl
  have hn2 := (hn1.new (l := [.pointer (some ⟨w.heap.size + 1, 32, none⟩)]) #[.pointer (some ⟨w.heap.size + 1, 32, none⟩)] 52 (g := g1 + 2) (by rw [hgg1]; simp) rfl).new (l := [fnV 20]) #[fnV 20] 53 (g := g1 + 2 + 1) (by rw [hgg1]; simp) rfl
  have hn3 := hn2.new (l := [fldV 33 g1, fldV 37 (g1 + 2)]) #[fldV 33 g1, fldV 37 (g1 + 2)] 44 (g := g1 + 4) (by rw [hgg1]; simp) rfl
  have hg1' : w.heap.size + 1 < g1 := by omega
  have i1 := fun (W : World) (p : Addr) => intoD_any W p 16
  have i2 := fun (W : World) (p : Addr) => intoI_any W p 20
  simp only [fldV, fnV] at i1 i2
  simp only [hgg1] at hn3
  clear hn1 hn2 hzr
  go_upto_region 3 with (first
    | (go_at_call 15; refine (i1 _ _).mono ?_; rintro e w' ⟨rfl, rfl⟩)
    | (go_at_call 19; refine (i2 _ _).mono ?_; rintro e w' ⟨rfl, rfl⟩)
    | (go_at_call 14; refine (readApp _ (w.heap.size + 1) (W1.heap.size + 4) W1.heap.size (W1.heap.size + 2) B A n c b (hn3.at_ 7 rfl : _ ∧ _).1 HNC.out HCM.out (hn3.at_ 7 rfl : _ ∧ _).2 (hn3.at_ 5 rfl) (hn3.at_ 0 rfl) (hn3.at_ 4 rfl) (hn3.at_ 3 rfl) (hn3.at_ 2 rfl) (hn3.at_ 1 rfl) (by omega) (by omega) (by omega) (by omega) (by omega)).mono ?_; rintro e w5 ⟨rfl, hgr, hok⟩))
  have hk5 : Below w.heap.size w w5 := ((hn3.at_ 8 rfl : _ ∧ _).1).trans (below_of_grown hgr (by omega) (hn3.size_kept 8 rfl))
  have hZ5 : Cells w5 w.heap.size 31 appZ := Cells.apart (hn3.at_ 6 rfl) hgr (by omega)
  have hI5 : All w5 [.cells w.heap.size 31 appZ, .kept w w.heap.size] := ⟨hZ5, ⟨hk5, hk5.size⟩, trivial⟩
  have hs5 : w.heap.size < w5.heap.size := Cells.lt hZ5
  clear hn3 hgr hk5 hZ5 hW1 hg1 hg1' hgg1 i1 i2
  by_cases q0 : appE b = 0
  · obtain ⟨x, hx, hxl, hC5⟩ := hok q0
    rw [q0]
    have HDX := Lib.hid (appD_ok hx)
    have HXL := Lib.hid hxl
    have hI6 := hI5.cons (r := .cells (w.heap.size + 1) 31 (appC x)) hC5
    have HL := Lib.hid (appC_len x hxl)
    clear hok hI5 q0 hx hxl hC5
    cases hv : appB x with
    | false =>
      have HVA : Hid (∀ W, Calls Tryd.prog 11 #[.agg (appC x).toArray] W fun e w' => e = .returned (.bool false) ∧ Below W.heap.size W w') := Lib.hid (fun W => by have h := appValid_any W x HXL.out; rwa [hv] at h)
      have HR : Hid (appD b = (appN, 1)) := Lib.hid (by rw [HDX.out, hv]; rfl)
      clear hv HDX
      go_wp2_with (first
        | (refine wl_load_any rfl 31 (.tmp 4) rfl ⟨w.heap.size + 1, 0, none⟩ rfl (appC x) _ (cell_all (hI6.at_ 0 rfl)) Tryd.underlying31 rfl (by rw [HL.out]; kernel_rfl) ?_)
        | (go_at_call 11; refine (HVA.out _).mono ?_; rintro e w6 ⟨rfl, hb6⟩; have hI7 := hI6.call hb6)
        | (refine wl_build rfl 31 [] rfl _ _ #[(0, 32), (32, 1)] appZ.toArray zero_app Tryd.underlying31 (fun w => by kernel_rfl) ?_ ?_; rfl)
        | (refine wl_store_at hI7 1 rfl 31 (.tmp 2) (.tmp 22) rfl w.heap.size _ _ appZ rfl rfl rfl rfl (by kernel_rfl) appZ_one (by simp [Apart, Res.apart]) ?_; intro w9 hI9 hs9))
      refine bodyPost_ret (v := .tuple #[.agg appZ.toArray, .int .i64 1]) ?_ rfl ⟨by rw [HR.out]; rfl, (hI9.at_ 2 rfl : _ ∧ _).1⟩
      exact results_row_tmp (p := 2) (q := 3) rfl _ _ w.heap.size 31 appZ.toArray (0, 0) _ rfl (hI9.at_ 1 rfl) Tryd.underlying31 rfl (by kernel_rfl)
    | true =>
      have HVA : Hid (∀ W, Calls Tryd.prog 11 #[.agg (appC x).toArray] W fun e w' => e = .returned (.bool true) ∧ Below W.heap.size W w') := Lib.hid (fun W => by have h := appValid_any W x HXL.out; rwa [hv] at h)
      have HR : Hid (appD b = (x, 0)) := Lib.hid (by rw [HDX.out, hv]; rfl)
      have HON := Lib.hid (appC_one x)
      clear hv HDX
      go_wp2_with (first
        | (refine wl_load_any rfl 31 (.tmp 4) rfl ⟨w.heap.size + 1, 0, none⟩ rfl (appC x) _ (cell_all (hI6.at_ 0 rfl)) Tryd.underlying31 rfl (by rw [HL.out]; kernel_rfl) ?_)
        | (go_at_call 11; refine (HVA.out _).mono ?_; rintro e w6 ⟨rfl, hb6⟩; have hI7 := hI6.call hb6)
        | (refine wl_load_any rfl 31 (.tmp 4) rfl ⟨w.heap.size + 1, 0, none⟩ rfl (appC x) _ (cell_all (hI7.at_ 0 rfl)) Tryd.underlying31 rfl (by rw [HL.out]; kernel_rfl) ?_)
        | (refine wl_store_at hI7 1 rfl 31 (.tmp 2) (.tmp 23) rfl w.heap.size _ _ (appC x) rfl rfl rfl (by rw [HL.out]; rfl) (by rw [HL.out]; kernel_rfl) HON.out (by simp [Apart, Res.apart]) ?_; intro w9 hI9 hs9))
      refine bodyPost_ret (v := .tuple #[.agg (appC x).toArray, .int .i64 0]) ?_ rfl ⟨by rw [HR.out], (hI9.at_ 2 rfl : _ ∧ _).1⟩
      exact results_row_tmp (p := 2) (q := 3) rfl _ _ w.heap.size 31 (appC x).toArray (0, 0) _ rfl (hI9.at_ 1 rfl) Tryd.underlying31 rfl (by rw [List.size_toArray, HL.out]; kernel_rfl)
  · have HR := Lib.hid (appD_bad q0)
    obtain ⟨q, hq⟩ : ∃ q, q = appE b := ⟨_, rfl⟩
    rw [← hq] at HR q0 ⊢
    have d0 : (q != 0) = true := by simpa using q0
    clear hok q0 hq
    go_wp2_with (first
      | (refine wl_build rfl 31 [] rfl _ _ #[(0, 32), (32, 1)] appZ.toArray zero_app Tryd.underlying31 (fun w => by kernel_rfl) ?_ ?_; rfl)
      | (refine wl_store_at hI5 0 rfl 31 (.tmp 2) (.tmp 16) rfl w.heap.size _ _ appZ rfl rfl rfl rfl (by kernel_rfl) appZ_one (by simp [Apart, Res.apart]) ?_; intro w9 hI9 hs9))
    refine bodyPost_ret (v := .tuple #[.agg appZ.toArray, .int .i64 q]) ?_ rfl ⟨by rw [HR.out]; rfl, (hI9.at_ 1 rfl : _ ∧ _).1⟩
    exact results_row_tmp (p := 2) (q := 3) rfl _ _ w.heap.size 31 appZ.toArray (0, 0) _ rfl (hI9.at_ 0 rfl) Tryd.underlying31 rfl (by kernel_rfl)
end Go.Proofs.YthlfafkakijjfaaDoor

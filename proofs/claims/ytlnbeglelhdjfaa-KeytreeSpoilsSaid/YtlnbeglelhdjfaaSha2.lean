/- SHA-256: the schedule. -/
import Derived.Test.YtlnbeglelhdjfaaSha1
import Derived.Test.YtlnbeglelhdjfaaGen1
import Derived.Deep.RegionHeld3
import Derived.IntWalk
import Derived.Deep.QuietTactic
import Derived.BigQuiet
set_option linter.unusedSimpArgs false
set_option linter.unusedVariables false
namespace Go.Proofs.Ytlnbeglelhdjfaa
open Go Go.RowKit Go.Adm

/-- an array of 64 numbers, of which the first are known -/
def arr64 (l : List UInt32) : List Value := (l ++ List.replicate (64 - l.length) 0).map uv
theorem arr64_len {l : List UInt32} (h : l.length ≤ 64) : (arr64 l).length = 64 := by simp [arr64]; omega
theorem arr64_nil : arr64 [] = List.replicate 64 (.int .u32 0) := by simp [arr64, uv]
theorem arr64_get {l : List UInt32} {i : Nat} (h : i < l.length) (hi : i < (arr64 l).length) : (arr64 l)[i] = .int .u32 (l.getD i 0).toNat := by
  simp [arr64, List.getElem_append_left h, uv, h]
theorem arr64_set {l : List UInt32} (x : UInt32) (h : l.length < 64) : (arr64 l).set l.length (.int .u32 x.toNat) = arr64 (l ++ [x]) := by
  unfold arr64
  obtain ⟨n, hn⟩ : ∃ n, 64 - l.length = n + 1 := ⟨63 - l.length, by omega⟩
  have h2 : 64 - (l ++ [x]).length = n := by simp; omega
  rw [hn, h2, List.replicate_succ, List.map_append, List.map_cons, List.set_append_right _ _ (by simp)]
  simp [uv]

set_option maxRecDepth 100000 in
set_option maxHeartbeats 2000000 in
theorem schedule_any (w : World) (B : Nat) (A : Option Addr) (c : Nat) (b : List UInt8) (h : Rd w B 1 A 64 (b.map bv)) (hB : B ≤ w.heap.size) :
    Calls Try.prog 56 #[.slice A 64 c] w fun e w' => e = .returned (.agg ((sched b).map uv).toArray) ∧ Below w.heap.size w w' := by
  have hbl : b.length = 64 := by have := h.len; simpa using this
  obtain ⟨ad, rfl, had, hcell⟩ := h.at_ (by decide)
  have HC := Lib.hid hcell
  have HBL := Lib.hid hbl
  clear hcell h hbl
  go_enter Try.func56, Try.ntmps56
  go_wp2
  go_loopw [4, 10] (fun _ i wr => ∃ k : Nat, k ≤ 16 ∧ i = .int .i64 k ∧ Cells wr (w.heap.size + 1) 76 (arr64 ((first16 b).take k)) ∧ Cells wr w.heap.size 76 (arr64 []) ∧ wr.heap.size = w.heap.size + 2 ∧ Below w.heap.size w wr) (fun _ i _ => 16 - (intOf i).toNat)
  case atStart =>
    refine ⟨0, by omega, rfl, ?_, ?_, by simp, (((Below.refl _ _).alloc (Nat.le_refl _) _).alloc (by simp) _)⟩
    · rw [List.take_zero, arr64_nil]
      refine Cells.new' _ _ _ ?_ ?_
      · simp
      · rfl
    · rw [arr64_nil]
      refine Cells.alloc (cs := List.replicate 64 (.int .u32 0)) ?_ _
      refine Cells.new' _ _ _ ?_ ?_
      · rfl
      · rfl
  case round =>
    obtain ⟨k, hk, rfl, hW, hR, hsz, hbel⟩ := hrel
    have HW := Lib.hid hW
    have HR := Lib.hid hR
    have HS := Lib.hid hsz
    clear hW hR hsz
    by_cases hlt : k < 16
    · have g : ∀ j, j < 4 → wr.cell? (ad.add (4 * k + j)) = some (.int .u8 (b.getD (4 * k + j) 0).toNat) := fun j hj => by
        rw [hbel.cell (p := ad.add (4 * k + j)) (by rw [add_block]; omega)]
        refine HC.out _ _ ?_
        have hl := HBL.out
        rw [List.getElem?_map, List.getElem?_eq_getElem (by omega), List.getD, List.getElem?_eq_getElem (by omega)]
        rfl
      have g0 := g 0 (by omega)
      have g1 := g 1 (by omega)
      have g2 := g 2 (by omega)
      have g3 := g 3 (by omega)
      clear g
      rw [Nat.add_zero] at g0
      have e1 : ad.add (4 * k + 1) = ⟨ad.block, ad.off + (4 * k + 1), none⟩ := by unfold Addr.add; rw [if_neg (by omega)]
      have e2 : ad.add (4 * k + 2) = ⟨ad.block, ad.off + (4 * k + 1 + 1), none⟩ := by unfold Addr.add; rw [if_neg (by omega)]
      have e3 : ad.add (4 * k + 3) = ⟨ad.block, ad.off + (4 * k + 2 + 1), none⟩ := by unfold Addr.add; rw [if_neg (by omega)]
      rw [e1] at g1
      rw [e2] at g2
      rw [e3] at g3
      clear e1 e2 e3
      go_wp2
      have gs := HW.out.cell (i := k) (by rw [arr64_len]; omega; simp [first16_len]; omega)
      have gf := HW.out.frozen k
      have wa0 : IntKind.i64.wrap (4 * (k : Int)) = 4 * (k : Int) := IntWalk.i64_in _ (by omega)
      have wb0 : (0 : Int) ≤ 4 * (k : Int) := by omega
      have wc0 : 4 * (k : Int) < 64 := by omega
      have wd0 : (4 * (k : Int)).toNat = 4 * k := by omega
      have wa1 : IntKind.i64.wrap (4 * (k : Int) + 1) = 4 * (k : Int) + 1 := IntWalk.i64_in _ (by omega)
      have wb1 : (0 : Int) ≤ 4 * (k : Int) + 1 := by omega
      have wc1 : 4 * (k : Int) + 1 < 64 := by omega
      have wd1 : (4 * (k : Int) + 1).toNat = 4 * k + 1 := by omega
      have wa2 : IntKind.i64.wrap (4 * (k : Int) + 2) = 4 * (k : Int) + 2 := IntWalk.i64_in _ (by omega)
      have wb2 : (0 : Int) ≤ 4 * (k : Int) + 2 := by omega
      have wc2 : 4 * (k : Int) + 2 < 64 := by omega
      have wd2 : (4 * (k : Int) + 2).toNat = 4 * k + 2 := by omega
      have wa3 : IntKind.i64.wrap (4 * (k : Int) + 3) = 4 * (k : Int) + 3 := IntWalk.i64_in _ (by omega)
      have wb3 : (0 : Int) ≤ 4 * (k : Int) + 3 := by omega
      have wc3 : 4 * (k : Int) + 3 < 64 := by omega
      have wd3 : (4 * (k : Int) + 3).toNat = 4 * k + 3 := by omega
      have we : (0 : Int) ≤ (k : Int) := by omega
      have wf : (k : Int) < 64 := by omega
      go_region_held3 (fun w' => w'.cell? (ad.add (4 * k)) = some (.int .u8 (b.getD (4 * k) 0).toNat) ∧ w'.cell? ⟨ad.block, ad.off + (4 * k + 1), none⟩ = some (.int .u8 (b.getD (4 * k + 1) 0).toNat) ∧ w'.cell? ⟨ad.block, ad.off + (4 * k + 1 + 1), none⟩ = some (.int .u8 (b.getD (4 * k + 2) 0).toNat) ∧ w'.cell? ⟨ad.block, ad.off + (4 * k + 2 + 1), none⟩ = some (.int .u8 (b.getD (4 * k + 3) 0).toNat)) (first | exact ⟨g0, g1, g2, g3⟩ | exact ⟨cell_apart g0 (by rw [add_block]; simp; omega), cell_apart g1 (by simp; omega), cell_apart g2 (by simp; omega), cell_apart g3 (by simp; omega)⟩) (first | fail)
      clear wa0 wa1 wa2 wa3
      go_wp2
      rw [word_eq']
      have hsz2 : (wr.setCell ⟨w.heap.size + 1, k, none⟩ (.int .u32 (wordAt b k).toNat)).heap.size = w.heap.size + 2 := by rw [size_setCell]; exact HS.out
      have hlk : ((first16 b).take k).length = k := by rw [List.length_take, first16_len]; omega
      refine ⟨⟨k + 1, by omega, by go_num, ?_, ?_, hsz2, (hbel.setCell (by simp) _).drew⟩, by simp [intOf]; omega⟩
      · have := (HW.out.store k (.int .u32 (wordAt b k).toNat)).drew
        refine this.cast ?_
        rw [first16_succ b k hlt, ← arr64_set _ (by rw [hlk]; omega), hlk]
      · exact (HR.out.far (by simp) _).drew
    · have hW := HW.out
      rw [show (first16 b).take k = extN 0 (first16 b) from by rw [List.take_of_length_le (by rw [first16_len]; omega)]; rfl] at hW
      have HW2 := Lib.hid hW
      clear hW HW
      go_wp2
      obtain ⟨wo, rfl⟩ : ∃ wo : World, wo = wr := ⟨_, rfl⟩
      have HBO := Lib.hid hbel
      clear hbel
      go_loopw [5] (fun i wr => ∃ m : Nat, m ≤ 48 ∧ i = .int .i64 ((m : Int) + 16) ∧ Cells wr (w.heap.size + 1) 76 (arr64 (extN m (first16 b))) ∧ Cells wr w.heap.size 76 (arr64 []) ∧ wr.heap.size = w.heap.size + 2 ∧ Below w.heap.size w wr) (fun i _ => 64 - (intOf i).toNat)
      case atStart => exact ⟨0, by omega, rfl, HW2.out, HR.out, HS.out, HBO.out⟩
      case round =>
        obtain ⟨m, hm, rfl, hW, hR, hsz, hbel⟩ := hrel
        have HW := Lib.hid hW
        have HRR := Lib.hid hR
        have HSS := Lib.hid hsz
        clear hW hR hsz HR HS HW2 HBO
        have hWl : (extN m (first16 b)).length = m + 16 := by rw [extN_len, first16_len]; omega
        generalize hWd : extN m (first16 b) = W at *
        have HWD := Lib.hid hWd
        have HWL := Lib.hid hWl
        have gl : ∀ j, j < m + 16 → wr.cell? ⟨w.heap.size + 1, j, none⟩ = some (.int .u32 (W.getD j 0).toNat) := fun j hj => by
          rw [HW.out.cell (i := j) (by rw [arr64_len (by rw [hWl]; omega)]; omega), arr64_get (by rw [hWl]; exact hj)]
        clear hWd hWl
        by_cases hlt : m < 48
        · have l1 := gl (m + 1) (by omega)
          have l2 := gl (m + 14) (by omega)
          have l3 := gl m (by omega)
          have l4 := gl (m + 9) (by omega)
          clear gl
          have hext : extN (m + 1) (first16 b) = W ++ [add4 (W.getD m 0) (sg0 (W.getD (m + 1) 0)) (W.getD (m + 9) 0) (sg1 (W.getD (m + 14) 0))] := by
            show ext (extN m (first16 b)) = _
            rw [HWD.out]
            unfold ext
            rw [HWL.out, show m + 16 - 16 = m from by omega, show m + 16 - 15 = m + 1 from by omega, show m + 16 - 7 = m + 9 from by omega, show m + 16 - 2 = m + 14 from by omega]
          generalize W.getD (m + 1) 0 = x1 at *
          generalize W.getD (m + 14) 0 = x2 at *
          generalize W.getD m 0 = x3 at *
          generalize W.getD (m + 9) 0 = x4 at *
          have HEXT := Lib.hid hext
          clear hext
          have wa1 : IntKind.i64.wrap ((m : Int) + 16 - 15) = (m : Int) + 1 := by rw [IntWalk.i64_in _ (by omega)]; omega
          have wa2 : IntKind.i64.wrap ((m : Int) + 16 - 2) = (m : Int) + 14 := by rw [IntWalk.i64_in _ (by omega)]; omega
          have wb1 : (0 : Int) ≤ (m : Int) + 1 := by omega
          have wb2 : (0 : Int) ≤ (m : Int) + 14 := by omega
          have wc1 : (m : Int) + 1 < 64 := by omega
          have wc2 : (m : Int) + 14 < 64 := by omega
          have wd1 : ((m : Int) + 1).toNat = m + 1 := by omega
          have wd2 : ((m : Int) + 14).toNat = m + 14 := by omega
          have hq0 := sg0_eq x1
          have hq1 := sg1_eq x2
          go_wp2
          go_quiet (fail)
          clear wa1 wa2
          go_wp2_with fail
          refine (rot_lit x1 (-7) 7 rfl (by decide) (by decide) _).mono ?_
          rintro e w' ⟨rfl, rfl⟩
          go_wp2_with fail
          refine (rot_lit x1 (-18) 18 rfl (by decide) (by decide) _).mono ?_
          rintro e w' ⟨rfl, rfl⟩
          go_wp2_with fail
          refine (rot_lit x2 (-17) 17 rfl (by decide) (by decide) _).mono ?_
          rintro e w' ⟨rfl, rfl⟩
          go_wp2_with fail
          refine (rot_lit x2 (-19) 19 rfl (by decide) (by decide) _).mono ?_
          rintro e w' ⟨rfl, rfl⟩
          go_wp2
          have gs := HW.out.cellD (i := m + 16) (d := undef) (by rw [arr64_len (by rw [HWL.out]; omega)]; omega)
          have gf := HW.out.frozen (m + 16)
          have hq2 := sum3 x3 (sg0 x1) x4
          have wa3 : IntKind.i64.wrap ((m : Int) + 16 - 16) = (m : Int) := by rw [IntWalk.i64_in _ (by omega)]; omega
          have wa4 : IntKind.i64.wrap ((m : Int) + 16 - 7) = (m : Int) + 9 := by rw [IntWalk.i64_in _ (by omega)]; omega
          have wa6 : IntKind.i64.wrap (m : Int) = (m : Int) := IntWalk.i64_in _ (by omega)
          have wb3 : (0 : Int) ≤ (m : Int) := by omega
          have wb4 : (0 : Int) ≤ (m : Int) + 9 := by omega
          have wb5 : (0 : Int) ≤ (m : Int) + 16 := by omega
          have wc3 : (m : Int) < 64 := by omega
          have wc4 : (m : Int) + 9 < 64 := by omega
          have wc5 : (m : Int) + 16 < 64 := by omega
          have wd4 : ((m : Int) + 9).toNat = m + 9 := by omega
          have wd5 : ((m : Int) + 16).toNat = m + 16 := by omega
          go_region_held3 (fun w' => w'.cell? ⟨w.heap.size + 1, m, none⟩ = some (.int .u32 x3.toNat) ∧ w'.cell? ⟨w.heap.size + 1, m + 9, none⟩ = some (.int .u32 x4.toNat)) (first | exact ⟨l3, l4⟩ | exact ⟨cell_off l3 (by omega), cell_off l4 (by omega)⟩) (first | fail)
          clear wa3 wa4 wa6 hq2 hq0 hq1
          rw [w_add4]
          go_wp2
          have hsz2 : ((wr.drewN (nq + 1)).setCell ⟨w.heap.size + 1, m + 16, none⟩ (.int .u32 (add4 x3 (sg0 x1) x4 (sg1 x2)).toNat)).heap.size = w.heap.size + 2 := by rw [size_setCell]; exact HSS.out
          refine ⟨⟨m + 1, by omega, by go_num, ?_, ?_, hsz2, (below_drewN' hbel _).setCell (by simp) _⟩, by simp [intOf]; omega⟩
          · have := ((HW.out.drewN (nq + 1)).store (m + 16) (.int .u32 (add4 x3 (sg0 x1) x4 (sg1 x2)).toNat))
            refine this.cast ?_
            rw [HEXT.out, ← arr64_set _ (by rw [HWL.out]; omega), HWL.out]
          · exact (HRR.out.drewN (nq + 1)).far (by simp) _
        · have hm48 : 48 ≤ m := by omega
          have HS48 : Hid (W = sched b) := Lib.hid (by rw [← HWD.out, show m = 48 from by omega]; rfl)
          have HAL : (arr64 W).length = 64 := arr64_len (by rw [HWL.out]; omega)
          have HA := Lib.hid HAL
          clear HAL gl
          have hth : wr.there w.heap.size 0 (arr64 W).toArray.size := by
            have := HRR.out.there
            rwa [arr64_len (by simp), ← HA.out, ← List.size_toArray] at this
          have hin : (Try.prog.info? 76).map (·.size) = some (arr64 W).toArray.size := by rw [List.size_toArray, HA.out]; kernel_rfl
          have HTH := Lib.hid hth
          have HIN := Lib.hid hin
          have HONE := Lib.hid (all_oneCell_toArray (uv_one (W ++ List.replicate (64 - W.length) 0)))
          clear hth hin
          go_wp2_with (first | (refine wpList_load_mid rfl 76 _ rfl (w.heap.size + 1) 0 rfl (arr64 W) _ HW.out.range Try.underlying76 rfl (by rw [HA.out]; kernel_rfl) ?_) | (refine wpList_store_mid rfl 76 _ _ rfl w.heap.size 0 (arr64 W).toArray rfl rfl HTH.out HIN.out HONE.out ?_))
          have hfin := HRR.out.storeAll (vs := (arr64 W).toArray.toList) (by rw [← List.size_toArray, List.size_toArray]; show (arr64 W).length = _; rw [HA.out, arr64_len (by simp)])
          have hbel2 := below_setCells (vs := (arr64 W).toArray.toList) (o := 0) (Nat.le_refl w.heap.size) hbel
          have hval : (arr64 W).toArray = ((sched b).map uv).toArray := by rw [← HS48.out]; unfold arr64; rw [show 64 - W.length = 0 from by rw [HWL.out]; omega]; simp
          refine bodyPost_ret (v := .agg ((sched b).map uv).toArray) ?_ rfl ⟨rfl, hbel2⟩
          rw [← hval]
          exact results_cell_row rfl _ _ w.heap.size 76 (arr64 W).toArray (0, 0) _ rfl hfin Try.underlying76 rfl (HIN.out)
end Go.Proofs.Ytlnbeglelhdjfaa

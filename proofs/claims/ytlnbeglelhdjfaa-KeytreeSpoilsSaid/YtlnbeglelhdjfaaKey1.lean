/- digest.Half, and the reference's. -/
import Derived.Test.YtlnbeglelhdjfaaSha5
import Derived.Test.YtlnbeglelhdjfaaSha7
import Derived.Test.YtlnbeglelhdjfaaGen2
set_option linter.unusedSimpArgs false
set_option linter.unusedVariables false
namespace Go.Adm
def halfS (b : List UInt8) : List UInt8 := (shaS b).take 16
theorem halfS_len (b : List UInt8) : (halfS b).length = 16 := by simp [halfS, shaS_len]
end Go.Adm
namespace Go.Proofs.Ytlnbeglelhdjfaa
open Go Go.RowKit Go.Adm

set_option maxRecDepth 100000 in
set_option maxHeartbeats 1600000 in
theorem Half_any (w : World) (B : Nat) (A : Option Addr) (n c : Nat) (ps : List (List UInt8)) (h : Parts w B A n ps) (hB : B ≤ w.heap.size) (hn : n ≤ 140737488355328) (ht : ps.flatten.length ≤ 140737488355000) :
    Calls Try.prog 36 #[.slice A n c] w fun e w' => e = .returned (.agg ((halfS ps.flatten).map bv).toArray) ∧ Below w.heap.size w w' := by
  have hl := Lib.hid h.len
  have hR : All w [.low (.parts B A n ps), .kept w w.heap.size, .own (w.heap.size + 1) 5 1 none 0 0 []] := ⟨⟨h, hB⟩, ⟨Below.refl _ _, Nat.le_refl _⟩, Go.Adm.Own.nil _ _ _ _, trivial⟩
  clear h
  go_enter Try.func36, Try.ntmps36
  go_wp2
  go_loopw [3, 10] (fun v i wr => ∃ (k L : Nat) (A' : Option Addr) (c' : Nat), k ≤ n ∧ i = .int .i64 k ∧ Hid (L = (ps.take k).flatten.length) ∧ v = .slice A' L c' ∧
    All wr [.cells w.heap.size 23 (List.replicate 16 (.int .u8 0)), .low (.parts B A n ps), .kept w w.heap.size, .own (w.heap.size + 1) 5 1 A' L c' ((ps.take k).flatten.map bv)] ∧ w.heap.size + 1 ≤ wr.heap.size) (fun _ i _ => n - (intOf i).toNat)
  case atStart => exact ⟨0, 0, none, 0, by omega, rfl, Lib.hid rfl, rfl, hR.new _ _ rfl rfl, by simp⟩
  case round =>
    obtain ⟨k, L, A', c', hk, rfl, HL, rfl, hI, hs⟩ := hrel
    by_cases hlt : k < n
    · have hkl : k < ps.length := by rw [hl.out]; exact hlt
      obtain ⟨ad, A2, c2, rfl, hb, hc, hl2, hc2, hrd⟩ := Parts.at_ (hI.2.1.1 : Parts wr B _ n ps) hkl
      have hM := flat_take_succ ps k hkl
      have hM2 : Hid ((ps.take (k + 1)).flatten.length = L + ps[k].length) := Lib.hid (by rw [hM, List.length_append, ← HL.out])
      have hM3 : L + ps[k].length ≤ 140737488355000 := by have := hM2.out; have := flat_take_le ps (k + 1); omega
      have HM := Lib.hid hM
      clear hM
      generalize ps[k] = pk at *
      go_wp2_with (at_builtin; refine wl_app_at els_u8 hI 3 rfl (.tmp 14) _ rfl (w.heap.size + 1) _ _ _ _ rfl rfl B _ _ _ _ rfl hrd (bv_one _) (by omega) hs (by intro g hg _; simp [Apart, Res.apart, Low.parts]; omega) ?_; intro A3 c3 w3 hR3 hs3)
      refine ⟨⟨k + 1, L + pk.length, A3, c3, by omega, by go_num, Lib.hid hM2.out.symm, rfl, ?_, by omega⟩, by simp [intOf]; omega⟩
      rw [HM.out, List.map_append]
      exact hR3
    · have hkn : Hid ((ps.take k).flatten = ps.flatten) := Lib.hid (by rw [List.take_of_length_le (by rw [hl.out]; omega)])
      have hI2 : All wr [.cells w.heap.size 23 (List.replicate 16 (.int .u8 0)), .low (.parts B A n ps), .kept w w.heap.size, .own (w.heap.size + 1) 5 1 A' L c' (ps.flatten.map bv)] := by rw [← hkn.out]; exact hI
      have hLL : Hid (L = ps.flatten.length) := Lib.hid (by rw [HL.out, hkn.out])
      have hcap := Go.Adm.Own.cap (hI2.2.2.2.1 : Go.Adm.Own wr (w.heap.size + 1) 5 1 A' L c' (ps.flatten.map bv))
      have hLb : L ≤ 140737488355328 := by have := hLL.out; omega
      clear hI hkn HL
      generalize hpf : ps.flatten = pf at *
      have HPF := Lib.hid hpf
      clear hpf
      go_wp2_with fail
      refine (Sum_any wr wr.heap.size A' L c' pf (Go.Adm.Own.rd hI2.2.2.2.1) (Nat.le_refl _) hLb hcap.1 hcap.2).mono ?_
      rintro e w4 ⟨rfl, hb4⟩
      have hI4 := (hI2.call hb4).erase 3
      have hs4 := hb4.size
      clear hI2
      have h32 : ((shaS pf).map bv).length = 32 := by rw [List.length_map, shaS_len]
      have h16 : ((halfS pf).map bv).length = 16 := by rw [List.length_map, halfS_len]
      have H32 := Lib.hid h32
      have H16 := Lib.hid h16
      clear h32 h16
      go_wp2_with (refine wl_store_at (hI4.new _ _ rfl rfl) 0 rfl 27 (.tmp 6) _ rfl w4.heap.size _ _ ((shaS pf).map bv) rfl rfl rfl H32.out (by rw [H32.out]; kernel_rfl) (bv_one _) (by simp [Apart, Res.apart, Low.parts]; omega) ?_; intro w5 hI5 hs5)
      have hs5' : w5.heap.size = w4.heap.size + 1 := by rw [hs5]; simp
      clear hs5 hI4
      refine wp_region_still_tail 2 (by kernel_rfl) (by kernel_rfl) ?_
      simp only [List.take_succ_cons, List.take_zero, List.drop_succ_cons, List.drop_zero]
      repeat still_step
      refine wpStill_nil ?_
      change wpList _ _ _ _ _ (World.drew (World.alloc w5 _))
      have hI6 := (hI5.new (List.replicate 16 (.int .u8 0)).toArray 23 rfl rfl).drew
      have hg6 : w4.heap.size + 1 = w5.heap.size := hs5'.symm
      refine wl_copy_at hI6 0 rfl (.tmp 20) (.tmp 21) 64 64 rfl 5 Try.underlying64 (by kernel_rfl) w5.heap.size 0 16 16 _ _ ((shaS pf).map bv) rfl (by rw [← hg6]; rfl) (w4.heap.size + 1) (some ⟨w4.heap.size, 0, none⟩) 32 32 16 rfl (by have := Cells.rd hI6.2.1 (o := 0) (n := 32) (by rw [H32.out]; omega); rw [List.drop_zero, List.take_of_length_le (by rw [H32.out]; omega)] at this; exact this) (by decide) (by decide) (bv_one _) (by simp [Apart, Res.apart, Low.parts]; omega) ?_
      intro w7 hI7 hs7
      have e7 : (List.replicate 16 (Value.int .u8 0)).toArray.toList.take 0 ++ (((shaS pf).map bv).take 16 ++ (List.replicate 16 (Value.int .u8 0)).toArray.toList.drop (0 + 16)) = (halfS pf).map bv := by simp [halfS, List.map_take]
      rw [e7] at hI7
      dsimp only [List.set] at hI7
      rw [← hg6] at hI7
      clear hs7 e7 hg6 hI6 hI5 hs5'
      go_wp2_with (first | (refine wl_load_at rfl 23 (.tmp 7) rfl (w4.heap.size + 1) _ _ hI7.1 rfl _ Try.underlying23 rfl (by rw [H16.out]; kernel_rfl) ?_) | (refine wl_store_at hI7 2 rfl 23 _ _ rfl w.heap.size _ _ ((halfS pf).map bv) rfl rfl rfl H16.out (by rw [H16.out]; kernel_rfl) (bv_one _) (by simp [Apart, Res.apart, Low.parts]; omega) ?_; intro w9 hI9 hs9))
      refine bodyPost_ret (v := .agg ((halfS pf).map bv).toArray) ?_ rfl ⟨by rw [HPF.out], (hI9.at_ 4 rfl).1⟩
      exact results_cell_row rfl _ _ w.heap.size 23 ((halfS pf).map bv).toArray (0, 0) _ rfl (hI9.at_ 2 rfl) Try.underlying23 rfl (by rw [List.size_toArray, H16.out]; kernel_rfl)

def halfT (h : List UInt8) (k : Nat) : List UInt8 := h.take k ++ List.replicate (16 - k) 0
theorem halfT_zero (h : List UInt8) : (halfT h 0).map bv = List.replicate 16 (.int .u8 0) := by rfl
theorem halfT_set (b : List UInt8) (k : Nat) (hk : k < 16) : (halfT (halfS b) k).set k ((shaS b).getD k 0) = halfT (halfS b) (k + 1) := by
  have h1 := halfS_len b
  unfold halfT
  rw [List.set_append_right _ _ (by simp; omega), List.length_take, h1, show min k 16 = k from by omega, Nat.sub_self, show 16 - k = (16 - (k + 1)) + 1 from by omega, List.replicate_succ, List.set_cons_zero, List.take_succ_eq_append_getElem (by omega)]
  have h2 := shaS_len b
  simp [halfS, List.getElem_take, List.getD, h2, show k < 32 from by omega]
theorem halfT_all (b : List UInt8) (k : Nat) (hk : k = 16) : halfT (halfS b) k = halfS b := by
  subst hk
  have h1 := halfS_len b
  unfold halfT
  rw [List.take_of_length_le (by omega)]
  simp

set_option maxRecDepth 100000 in
set_option maxHeartbeats 1600000 in
theorem refHalf_any (w : World) (B : Nat) (A : Option Addr) (n c : Nat) (ps : List (List UInt8)) (h : Parts w B A n ps) (hB : B ≤ w.heap.size) (hn : n ≤ 140737488355328) (ht : ps.flatten.length ≤ 140737488355000) :
    Calls Try.prog 37 #[.slice A n c] w fun e w' => e = .returned (.agg ((halfS ps.flatten).map bv).toArray) ∧ Below w.heap.size w w' := by
  have hl := Lib.hid h.len
  have hR : All w [.low (.parts B A n ps), .kept w w.heap.size, .own (w.heap.size + 1) 5 1 none 0 0 []] := ⟨⟨h, hB⟩, ⟨Below.refl _ _, Nat.le_refl _⟩, Go.Adm.Own.nil _ _ _ _, trivial⟩
  clear h
  go_enter Try.func37, Try.ntmps37
  go_wp2
  go_loopw [3, 4] (fun v i wr => ∃ (k L : Nat) (A' : Option Addr) (c' : Nat), k ≤ n ∧ i = .int .i64 k ∧ Hid (L = (ps.take k).flatten.length) ∧ v = .slice A' L c' ∧
    All wr [.cells w.heap.size 23 (List.replicate 16 (.int .u8 0)), .low (.parts B A n ps), .kept w w.heap.size, .own (w.heap.size + 1) 5 1 A' L c' ((ps.take k).flatten.map bv)] ∧ w.heap.size + 1 ≤ wr.heap.size) (fun _ i _ => n - (intOf i).toNat)
  case atStart => exact ⟨0, 0, none, 0, by omega, rfl, Lib.hid rfl, rfl, hR.new _ _ rfl rfl, by simp⟩
  case round =>
    obtain ⟨k, L, A', c', hk, rfl, HL, rfl, hI, hs⟩ := hrel
    by_cases hlt : k < n
    · have hkl : k < ps.length := by rw [hl.out]; exact hlt
      obtain ⟨ad, A2, c2, rfl, hb, hc, hl2, hc2, hrd⟩ := Parts.at_ (hI.2.1.1 : Parts wr B _ n ps) hkl
      have hM := flat_take_succ ps k hkl
      have hM2 : Hid ((ps.take (k + 1)).flatten.length = L + ps[k].length) := Lib.hid (by rw [hM, List.length_append, ← HL.out])
      have hM3 : L + ps[k].length ≤ 140737488355000 := by have := hM2.out; have := flat_take_le ps (k + 1); omega
      have HM := Lib.hid hM
      clear hM
      generalize ps[k] = pk at *
      go_wp2_with (at_builtin; refine wl_app_at els_u8 hI 3 rfl (.tmp 14) _ rfl (w.heap.size + 1) _ _ _ _ rfl rfl B _ _ _ _ rfl hrd (bv_one _) (by omega) hs (by intro g hg _; simp [Apart, Res.apart, Low.parts]; omega) ?_; intro A3 c3 w3 hR3 hs3)
      refine ⟨⟨k + 1, L + pk.length, A3, c3, by omega, by go_num, Lib.hid hM2.out.symm, rfl, ?_, by omega⟩, by simp [intOf]; omega⟩
      rw [HM.out, List.map_append]
      exact hR3
    · have hkn : Hid ((ps.take k).flatten = ps.flatten) := Lib.hid (by rw [List.take_of_length_le (by rw [hl.out]; omega)])
      have hI2 : All wr [.cells w.heap.size 23 (List.replicate 16 (.int .u8 0)), .low (.parts B A n ps), .kept w w.heap.size, .own (w.heap.size + 1) 5 1 A' L c' (ps.flatten.map bv)] := by rw [← hkn.out]; exact hI
      have hLL : Hid (L = ps.flatten.length) := Lib.hid (by rw [HL.out, hkn.out])
      have hLb : L ≤ 140737488355000 := by have := hLL.out; omega
      clear hI hkn HL
      generalize hpf : ps.flatten = pf at *
      have HPF := Lib.hid hpf
      clear hpf
      go_wp2_with fail
      refine (refSum_any wr wr.heap.size A' L c' pf (Go.Adm.Own.rd hI2.2.2.2.1) (Nat.le_refl _) hLb).mono ?_
      rintro e w4 ⟨rfl, hb4⟩
      have hI4 := (hI2.call hb4).erase 3
      have hs4 := hb4.size
      clear hI2
      have h32 : ((shaS pf).map bv).length = 32 := by rw [List.length_map, shaS_len]
      have H32 := Lib.hid h32
      clear h32
      go_wp2_with (refine wl_store_at (hI4.new _ _ rfl rfl) 0 rfl 27 (.tmp 5) _ rfl w4.heap.size _ _ ((shaS pf).map bv) rfl rfl rfl H32.out (by rw [H32.out]; kernel_rfl) (bv_one _) (by simp [Apart, Res.apart, Low.parts]; omega) ?_; intro w5 hI5 hs5)
      have hs5' : w5.heap.size = w4.heap.size + 1 := by rw [hs5]; simp
      clear hs5 hI4
      have hI6 := hI5.new (List.replicate 16 (.int .u8 0)).toArray 23 hs5'.symm rfl
      clear hI5
      go_loopw [7] (fun i wv => ∃ k : Nat, k ≤ 16 ∧ i = .int .i64 k ∧ All wv [.cells (w4.heap.size + 1) 23 ((halfT (halfS pf) k).map bv), .cells w4.heap.size 27 ((shaS pf).map bv), .cells w.heap.size 23 (List.replicate 16 (.int .u8 0)), .low (.parts B A n ps), .kept w w.heap.size]) (fun i _ => 16 - (intOf i).toNat)
      case atStart => exact ⟨0, by omega, rfl, hI6⟩
      case round =>
        obtain ⟨j, hj, rfl, hI⟩ := hrel
        by_cases hlj : j < 16
        · have c1 : wr.cell? ⟨w4.heap.size, j, none⟩ = some (.int .u8 ((shaS pf).getD j 0).toNat) := by
            have := Cells.cell (hI.2.1 : Cells wr w4.heap.size _ _) (i := j) (by rw [H32.out]; omega)
            rw [this, List.getElem_map, List.getD, List.getElem?_eq_getElem (by rw [shaS_len]; omega)]
            rfl
          have f2 := Cells.frozen (hI.1 : Cells wr (w4.heap.size + 1) _ _) j
          have c2 := Cells.cellD (hI.1 : Cells wr (w4.heap.size + 1) _ _) (i := j) (d := undef) (by rw [List.length_map]; simp [halfT, halfS_len]; omega)
          go_wp2
          refine ⟨⟨j + 1, by omega, by go_num, ?_⟩, by simp [intOf]; omega⟩
          rw [← halfT_set _ _ hlj, List.map_set]
          exact hI.store 0 rfl j _ (by simp [Apart, Res.apart, Low.parts]; omega)
        · have e7 := halfT_all pf j (by omega)
          rw [e7] at hI
          have h16 : ((halfS pf).map bv).length = 16 := by rw [List.length_map, halfS_len]
          have H16 := Lib.hid h16
          clear h16 e7 hI6
          go_wp2_with (first | (refine wl_load_at rfl 23 (.tmp 6) rfl (w4.heap.size + 1) _ _ hI.1 rfl _ Try.underlying23 rfl (by rw [H16.out]; kernel_rfl) ?_) | (refine wl_store_at hI 2 rfl 23 _ _ rfl w.heap.size _ _ ((halfS pf).map bv) rfl rfl rfl H16.out (by rw [H16.out]; kernel_rfl) (bv_one _) (by simp [Apart, Res.apart, Low.parts]; omega) ?_; intro w9 hI9 hs9))
          refine bodyPost_ret (v := .agg ((halfS pf).map bv).toArray) ?_ rfl ⟨by rw [HPF.out], (hI9.at_ 4 rfl).1⟩
          exact results_cell_row rfl _ _ w.heap.size 23 ((halfS pf).map bv).toArray (0, 0) _ rfl (hI9.at_ 2 rfl) Try.underlying23 rfl (by rw [List.size_toArray, H16.out]; kernel_rfl)
end Go.Proofs.Ytlnbeglelhdjfaa

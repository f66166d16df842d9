/- The law KeytreeSigns. -/
import Derived.Test.YtlnbeglelhdjfaaKey31
set_option linter.unusedSimpArgs false
set_option linter.unusedVariables false
namespace Go.Proofs.Ytlnbeglelhdjfaa
open Go Go.RowKit Go.Adm

set_option maxRecDepth 100000 in
set_option maxHeartbeats 3200000 in
theorem walkSigns (w : World) (seed d : List UInt8) (h n : Int) (hs : seed.length = 16) (hd : d.length = 32) :
    Calls Try.prog 3 #[.agg (siCells seed h n).toArray, .agg (d.map bv).toArray] w fun e w' => e = .returned (.bool true) ∧ Below w.heap.size w w' := by
  have hR : All w [.kept w w.heap.size] := ⟨⟨Below.refl _ _, Nat.le_refl _⟩, trivial⟩
  have hsl := Lib.hid hs
  have hdl := Lib.hid hd
  clear hs hd
  go_enter Try.func3, Try.ntmps3
  go_upto_region 1 with (fail)
  refine wp_gen ((hR.new (l := siCells seed h n) _ 25 rfl rfl).new (l := d.map bv) _ 27 (g := w.heap.size + 1) (by simp) rfl) ?_
  intro W hW
  have k1 := si_at16 hsl.out (hW.at_ 1 rfl)
  have k2 := si_at17 hsl.out (hW.at_ 1 rfl)
  have k3 := Cells.frozen (hW.at_ 1 rfl) 16
  by_cases q0 : 2 < h
  · have d1 : decide (2 < h) = true := by simpa using q0
    by_cases q1 : h ≤ 6
    · have d2 : decide (h ≤ 6) = true := by simpa using q1
      by_cases q2 : 0 ≤ n
      · have d3 : decide (0 ≤ n) = true := by simpa using q2
        by_cases q3 : n < 64
        · have d4 : decide (n < 64) = true := by simpa using q3
          clear q0 q1 q2 q3
          go_upto_region 3 with (fail)
          refine wp_gen (rs := [.cells (w.heap.size + 1) 27 (d.map bv), .cells w.heap.size 25 (siCells seed 2 n), .kept w w.heap.size]) (by
            have h1 := hW.store 1 rfl 16 (.int .i64 2) (by simp [Apart, Res.apart])
            rw [si_height seed h n 2 hsl.out] at h1
            exact h1) ?_
          clear hW k1 k2 k3 d1 d2 d3 d4
          clear W
          intro W hW
          have cs := 0
          go_wp2_with (first | (refine wl_load_at rfl 25 (.tmp 2) rfl w.heap.size _ _ (hW.at_ 1 rfl) rfl _ Try.underlying25 rfl (by rw [si_len _ _ _ hsl.out]; kernel_rfl) ?_) | (refine wl_load_at rfl 27 (.tmp 3) rfl (w.heap.size + 1) _ _ (hW.at_ 0 rfl) rfl _ Try.underlying27 rfl (by rw [List.length_map, hdl.out]; kernel_rfl) ?_))
          refine (Sign_all _ seed d 2 n hsl.out hdl.out).mono ?_
          rintro e w1 ⟨A1, c1, P1, p1, rfl, hE1, hF1, hb1⟩
          have hR1 := hW.call hb1
          have hs1 := hb1.size
          have hok := Lib.hid (signR_ok seed d 2 n hsl.out)
          obtain ⟨r, hr⟩ : ∃ r, r = signR seed d 2 n := ⟨_, rfl⟩
          have HR := Lib.hid hr
          rw [← hr] at hok hE1 hF1 ⊢
          obtain ⟨rs, rl, rc, rp, re⟩ := r
          obtain ⟨⟨s', h', n', hsi, hs16, ⟨hh0, hh6⟩, hn0, hn64⟩, hc16, hp16, hnc, hnp⟩ := hok.out
          have HSI : Hid (rs = siCells s' h' n') := Lib.hid hsi
          have HSL : Hid (rs.length = 18) := Lib.hid (by rw [HSI.out, si_len _ _ _ hs16])
          have HS1 : Hid (∀ v ∈ rs, v.oneCell' = true) := Lib.hid (by rw [HSI.out]; exact si_one _ _ _)
          have heq : ∀ W, (binOp .eql 25 (.agg rs.toArray) (.agg rs.toArray)).run Try.prog W = .ok (.bool true) W := fun W => by rw [HSI.out]; exact eq_si W s' h' n' hs16 hh0 hh6 hn0 hn64
          have HC16 := Lib.hid hc16
          have HP16 := Lib.hid hp16
          have HNC : Hid (rc.length ≤ 68) := Lib.hid hnc
          have HNP : Hid (rp.length ≤ 6) := Lib.hid hnp
          clear hr hsi hs16 hh0 hh6 hn0 hn64 hc16 hp16 hnc hnp hok cs
          have hI1 : All w1 [.cells (w.heap.size + 1) 27 (d.map bv), .cells w.heap.size 25 (siCells seed 2 n), .low (.els w1.heap.size 16 A1 rc.length (hvs rc)), .low (.els w1.heap.size 16 P1 rp.length (hvs rp)), .kept w w.heap.size] := ⟨hR1.1, hR1.2.1, ⟨hE1, Nat.le_refl _⟩, ⟨hF1, Nat.le_refl _⟩, hR1.2.2.1, trivial⟩
          have hlt1 : w.heap.size + 1 < w1.heap.size := Cells.lt hI1.1
          clear hW hR1 hE1 hF1 hb1
          go_wp2_with (first | (refine wl_store_at ((hI1.new _ 25 rfl rfl).new _ 30 (g := w1.heap.size + 1) (by simp) rfl) 1 rfl 25 (.tmp 5) _ rfl w1.heap.size _ siz rs rfl rfl rfl (by rw [HSL.out]; rfl) (by rw [HSL.out]; kernel_rfl) HS1.out (by simp [Apart, Res.apart, Low.els] <;> omega) ?_; intro w2 hI2 hs2) | (refine wl_store_at hI2 0 rfl 30 (.tmp 6) _ rfl (w1.heap.size + 1) _ _ (sgCells rl A1 rc.length c1 P1 rp.length p1) rfl rfl rfl rfl (by kernel_rfl) (sg_one _ _ _ _ _ _ _) (by simp [Apart, Res.apart, Low.els] <;> omega) ?_; intro w3 hI3 hs3) | (refine wl_load_at rfl 25 (.tmp 2) rfl w.heap.size _ _ (hI3.at_ 3 rfl) rfl _ Try.underlying25 rfl (by rw [si_len _ _ _ hsl.out]; kernel_rfl) ?_) | (refine wl_load_at rfl 27 (.tmp 3) rfl (w.heap.size + 1) _ _ (hI3.at_ 2 rfl) rfl _ Try.underlying27 rfl (by rw [List.length_map, hdl.out]; kernel_rfl) ?_))
          refine (refSign_all _ seed d 2 n hsl.out hdl.out).mono ?_
          rw [← HR.out]
          rintro e w4 ⟨A2, c2, P2, p2, rfl, hE2, hF2, hb2⟩
          have hR4 := hI3.call hb2
          have hs4 := hb2.size
          have hlt4 : w1.heap.size + 1 < w3.heap.size := Cells.lt hI3.1
          have hI4 : All w4 [.cells (w1.heap.size + 1) 30 (sgCells rl A1 rc.length c1 P1 rp.length p1), .cells w1.heap.size 25 rs, .low (.els w1.heap.size 16 A1 rc.length (hvs rc)), .low (.els w1.heap.size 16 P1 rp.length (hvs rp)), .low (.els w4.heap.size 16 A2 rc.length (hvs rc)), .low (.els w4.heap.size 16 P2 rp.length (hvs rp)), .kept w w.heap.size] := ⟨hR4.1, hR4.2.1, hR4.2.2.2.2.1, hR4.2.2.2.2.2.1, ⟨hE2, Nat.le_refl _⟩, ⟨hF2, Nat.le_refl _⟩, hR4.2.2.2.2.2.2.1, trivial⟩
          clear hI1 hI2 hI3 hR4 hE2 hF2 hb2 hs2 hs3
          go_wp2_with (first | (refine wl_store_at ((hI4.new _ 25 rfl rfl).new _ 30 (g := w4.heap.size + 1) (by simp) rfl) 1 rfl 25 (.tmp 8) _ rfl w4.heap.size _ siz rs rfl rfl rfl (by rw [HSL.out]; rfl) (by rw [HSL.out]; kernel_rfl) HS1.out (by simp [Apart, Res.apart, Low.els] <;> omega) ?_; intro w5 hI5 hs5) | (refine wl_store_at hI5 0 rfl 30 (.tmp 9) _ rfl (w4.heap.size + 1) _ _ (sgCells rl A2 rc.length c2 P2 rp.length p2) rfl rfl rfl rfl (by kernel_rfl) (sg_one _ _ _ _ _ _ _) (by simp [Apart, Res.apart, Low.els] <;> omega) ?_; intro w6 hI6 hs6))
          refine (awake_any _).mono ?_
          rintro e w7 ⟨rfl, hb7⟩
          have hI7 := hI6.call hb7
          clear hI4 hI5 hI6 hb7 hs5 hs6
          have herr : (re == re) = true := by simp
          go_wp2_with (first | (refine wl_met rfl fun K hK => ?_; refine wp_load_mid 25 (.tmp 5) rfl w1.heap.size 0 rfl rs _ (Cells.range (hI7.at_ 3 rfl)) Try.underlying25 rfl (by rw [HSL.out]; kernel_rfl) ?_; refine hK _ _ ?_; clear hK K) | (refine wl_met rfl fun K hK => ?_; refine wp_load_mid 25 (.tmp 8) rfl w4.heap.size 0 rfl rs _ (Cells.range (hI7.at_ 1 rfl)) Try.underlying25 rfl (by rw [HSL.out]; kernel_rfl) ?_; refine hK _ _ ?_; clear hK K) | (refine wl_met rfl fun K hK => ?_; refine wp_load_mid 30 (.tmp 6) rfl (w1.heap.size + 1) 0 rfl (sgCells rl A1 rc.length c1 P1 rp.length p1) _ (Cells.range (hI7.at_ 2 rfl)) Try.underlying30 rfl (by kernel_rfl) ?_; refine hK _ _ ?_; clear hK K) | (refine wl_met rfl fun K hK => ?_; refine wp_load_mid 30 (.tmp 9) rfl (w4.heap.size + 1) 0 rfl (sgCells rl A2 rc.length c2 P2 rp.length p2) _ (Cells.range (hI7.at_ 0 rfl)) Try.underlying30 rfl (by kernel_rfl) ?_; refine hK _ _ ?_; clear hK K))
          refine (refSame_sig w7 w4.heap.size rl rl A1 A2 P1 P2 c1 c2 p1 p2 rc rc rp rp ((hI7.at_ 4 rfl).1.mono (by omega)) HC16.out (hI7.at_ 6 rfl).1 HC16.out ((hI7.at_ 5 rfl).1.mono (by omega)) HP16.out (hI7.at_ 7 rfl).1 HP16.out (by have := HNC.out; omega) (by have := HNP.out; omega) (hI7.at_ 6 rfl).2).mono ?_
          rintro e w8 ⟨rfl, hb8⟩
          have hI8 := hI7.call hb8
          have hdd : (decide (rl = rl) && (decide (rc = rc) && decide (rp = rp))) = true := by simp
          rw [hdd]
          clear hI7 hb8 hdd
          go_wp2_with fail
          go_ret
          exact ⟨rfl, (hI8.at_ 8 rfl).1⟩
        · have d4 : decide (n < 64) = false := by simpa using q3
          clear q0 q1 q2 q3
          go_upto_region 3 with (fail)
          clear k1 k2 k3 d1 d2 d3 d4
          have cs := 0
          go_wp2_with (first | (refine wl_load_at rfl 25 (.tmp 2) rfl w.heap.size _ _ (hW.at_ 1 rfl) rfl _ Try.underlying25 rfl (by rw [si_len _ _ _ hsl.out]; kernel_rfl) ?_) | (refine wl_load_at rfl 27 (.tmp 3) rfl (w.heap.size + 1) _ _ (hW.at_ 0 rfl) rfl _ Try.underlying27 rfl (by rw [List.length_map, hdl.out]; kernel_rfl) ?_))
          refine (Sign_all _ seed d h n hsl.out hdl.out).mono ?_
          rintro e w1 ⟨A1, c1, P1, p1, rfl, hE1, hF1, hb1⟩
          have hR1 := hW.call hb1
          have hs1 := hb1.size
          have hok := Lib.hid (signR_ok seed d h n hsl.out)
          obtain ⟨r, hr⟩ : ∃ r, r = signR seed d h n := ⟨_, rfl⟩
          have HR := Lib.hid hr
          rw [← hr] at hok hE1 hF1 ⊢
          obtain ⟨rs, rl, rc, rp, re⟩ := r
          obtain ⟨⟨s', h', n', hsi, hs16, ⟨hh0, hh6⟩, hn0, hn64⟩, hc16, hp16, hnc, hnp⟩ := hok.out
          have HSI : Hid (rs = siCells s' h' n') := Lib.hid hsi
          have HSL : Hid (rs.length = 18) := Lib.hid (by rw [HSI.out, si_len _ _ _ hs16])
          have HS1 : Hid (∀ v ∈ rs, v.oneCell' = true) := Lib.hid (by rw [HSI.out]; exact si_one _ _ _)
          have heq : ∀ W, (binOp .eql 25 (.agg rs.toArray) (.agg rs.toArray)).run Try.prog W = .ok (.bool true) W := fun W => by rw [HSI.out]; exact eq_si W s' h' n' hs16 hh0 hh6 hn0 hn64
          have HC16 := Lib.hid hc16
          have HP16 := Lib.hid hp16
          have HNC : Hid (rc.length ≤ 68) := Lib.hid hnc
          have HNP : Hid (rp.length ≤ 6) := Lib.hid hnp
          clear hr hsi hs16 hh0 hh6 hn0 hn64 hc16 hp16 hnc hnp hok cs
          have hI1 : All w1 [.cells (w.heap.size + 1) 27 (d.map bv), .cells w.heap.size 25 (siCells seed h n), .low (.els w1.heap.size 16 A1 rc.length (hvs rc)), .low (.els w1.heap.size 16 P1 rp.length (hvs rp)), .kept w w.heap.size] := ⟨hR1.1, hR1.2.1, ⟨hE1, Nat.le_refl _⟩, ⟨hF1, Nat.le_refl _⟩, hR1.2.2.1, trivial⟩
          have hlt1 : w.heap.size + 1 < w1.heap.size := Cells.lt hI1.1
          clear hW hR1 hE1 hF1 hb1
          go_wp2_with (first | (refine wl_store_at ((hI1.new _ 25 rfl rfl).new _ 30 (g := w1.heap.size + 1) (by simp) rfl) 1 rfl 25 (.tmp 5) _ rfl w1.heap.size _ siz rs rfl rfl rfl (by rw [HSL.out]; rfl) (by rw [HSL.out]; kernel_rfl) HS1.out (by simp [Apart, Res.apart, Low.els] <;> omega) ?_; intro w2 hI2 hs2) | (refine wl_store_at hI2 0 rfl 30 (.tmp 6) _ rfl (w1.heap.size + 1) _ _ (sgCells rl A1 rc.length c1 P1 rp.length p1) rfl rfl rfl rfl (by kernel_rfl) (sg_one _ _ _ _ _ _ _) (by simp [Apart, Res.apart, Low.els] <;> omega) ?_; intro w3 hI3 hs3) | (refine wl_load_at rfl 25 (.tmp 2) rfl w.heap.size _ _ (hI3.at_ 3 rfl) rfl _ Try.underlying25 rfl (by rw [si_len _ _ _ hsl.out]; kernel_rfl) ?_) | (refine wl_load_at rfl 27 (.tmp 3) rfl (w.heap.size + 1) _ _ (hI3.at_ 2 rfl) rfl _ Try.underlying27 rfl (by rw [List.length_map, hdl.out]; kernel_rfl) ?_))
          refine (refSign_all _ seed d h n hsl.out hdl.out).mono ?_
          rw [← HR.out]
          rintro e w4 ⟨A2, c2, P2, p2, rfl, hE2, hF2, hb2⟩
          have hR4 := hI3.call hb2
          have hs4 := hb2.size
          have hlt4 : w1.heap.size + 1 < w3.heap.size := Cells.lt hI3.1
          have hI4 : All w4 [.cells (w1.heap.size + 1) 30 (sgCells rl A1 rc.length c1 P1 rp.length p1), .cells w1.heap.size 25 rs, .low (.els w1.heap.size 16 A1 rc.length (hvs rc)), .low (.els w1.heap.size 16 P1 rp.length (hvs rp)), .low (.els w4.heap.size 16 A2 rc.length (hvs rc)), .low (.els w4.heap.size 16 P2 rp.length (hvs rp)), .kept w w.heap.size] := ⟨hR4.1, hR4.2.1, hR4.2.2.2.2.1, hR4.2.2.2.2.2.1, ⟨hE2, Nat.le_refl _⟩, ⟨hF2, Nat.le_refl _⟩, hR4.2.2.2.2.2.2.1, trivial⟩
          clear hI1 hI2 hI3 hR4 hE2 hF2 hb2 hs2 hs3
          go_wp2_with (first | (refine wl_store_at ((hI4.new _ 25 rfl rfl).new _ 30 (g := w4.heap.size + 1) (by simp) rfl) 1 rfl 25 (.tmp 8) _ rfl w4.heap.size _ siz rs rfl rfl rfl (by rw [HSL.out]; rfl) (by rw [HSL.out]; kernel_rfl) HS1.out (by simp [Apart, Res.apart, Low.els] <;> omega) ?_; intro w5 hI5 hs5) | (refine wl_store_at hI5 0 rfl 30 (.tmp 9) _ rfl (w4.heap.size + 1) _ _ (sgCells rl A2 rc.length c2 P2 rp.length p2) rfl rfl rfl rfl (by kernel_rfl) (sg_one _ _ _ _ _ _ _) (by simp [Apart, Res.apart, Low.els] <;> omega) ?_; intro w6 hI6 hs6))
          refine (awake_any _).mono ?_
          rintro e w7 ⟨rfl, hb7⟩
          have hI7 := hI6.call hb7
          clear hI4 hI5 hI6 hb7 hs5 hs6
          have herr : (re == re) = true := by simp
          go_wp2_with (first | (refine wl_met rfl fun K hK => ?_; refine wp_load_mid 25 (.tmp 5) rfl w1.heap.size 0 rfl rs _ (Cells.range (hI7.at_ 3 rfl)) Try.underlying25 rfl (by rw [HSL.out]; kernel_rfl) ?_; refine hK _ _ ?_; clear hK K) | (refine wl_met rfl fun K hK => ?_; refine wp_load_mid 25 (.tmp 8) rfl w4.heap.size 0 rfl rs _ (Cells.range (hI7.at_ 1 rfl)) Try.underlying25 rfl (by rw [HSL.out]; kernel_rfl) ?_; refine hK _ _ ?_; clear hK K) | (refine wl_met rfl fun K hK => ?_; refine wp_load_mid 30 (.tmp 6) rfl (w1.heap.size + 1) 0 rfl (sgCells rl A1 rc.length c1 P1 rp.length p1) _ (Cells.range (hI7.at_ 2 rfl)) Try.underlying30 rfl (by kernel_rfl) ?_; refine hK _ _ ?_; clear hK K) | (refine wl_met rfl fun K hK => ?_; refine wp_load_mid 30 (.tmp 9) rfl (w4.heap.size + 1) 0 rfl (sgCells rl A2 rc.length c2 P2 rp.length p2) _ (Cells.range (hI7.at_ 0 rfl)) Try.underlying30 rfl (by kernel_rfl) ?_; refine hK _ _ ?_; clear hK K))
          refine (refSame_sig w7 w4.heap.size rl rl A1 A2 P1 P2 c1 c2 p1 p2 rc rc rp rp ((hI7.at_ 4 rfl).1.mono (by omega)) HC16.out (hI7.at_ 6 rfl).1 HC16.out ((hI7.at_ 5 rfl).1.mono (by omega)) HP16.out (hI7.at_ 7 rfl).1 HP16.out (by have := HNC.out; omega) (by have := HNP.out; omega) (hI7.at_ 6 rfl).2).mono ?_
          rintro e w8 ⟨rfl, hb8⟩
          have hI8 := hI7.call hb8
          have hdd : (decide (rl = rl) && (decide (rc = rc) && decide (rp = rp))) = true := by simp
          rw [hdd]
          clear hI7 hb8 hdd
          go_wp2_with fail
          go_ret
          exact ⟨rfl, (hI8.at_ 8 rfl).1⟩
      · have d3 : decide (0 ≤ n) = false := by simpa using q2
        clear q0 q1 q2
        go_upto_region 3 with (fail)
        clear k1 k2 k3 d1 d2 d3
        have cs := 0
        go_wp2_with (first | (refine wl_load_at rfl 25 (.tmp 2) rfl w.heap.size _ _ (hW.at_ 1 rfl) rfl _ Try.underlying25 rfl (by rw [si_len _ _ _ hsl.out]; kernel_rfl) ?_) | (refine wl_load_at rfl 27 (.tmp 3) rfl (w.heap.size + 1) _ _ (hW.at_ 0 rfl) rfl _ Try.underlying27 rfl (by rw [List.length_map, hdl.out]; kernel_rfl) ?_))
        refine (Sign_all _ seed d h n hsl.out hdl.out).mono ?_
        rintro e w1 ⟨A1, c1, P1, p1, rfl, hE1, hF1, hb1⟩
        have hR1 := hW.call hb1
        have hs1 := hb1.size
        have hok := Lib.hid (signR_ok seed d h n hsl.out)
        obtain ⟨r, hr⟩ : ∃ r, r = signR seed d h n := ⟨_, rfl⟩
        have HR := Lib.hid hr
        rw [← hr] at hok hE1 hF1 ⊢
        obtain ⟨rs, rl, rc, rp, re⟩ := r
        obtain ⟨⟨s', h', n', hsi, hs16, ⟨hh0, hh6⟩, hn0, hn64⟩, hc16, hp16, hnc, hnp⟩ := hok.out
        have HSI : Hid (rs = siCells s' h' n') := Lib.hid hsi
        have HSL : Hid (rs.length = 18) := Lib.hid (by rw [HSI.out, si_len _ _ _ hs16])
        have HS1 : Hid (∀ v ∈ rs, v.oneCell' = true) := Lib.hid (by rw [HSI.out]; exact si_one _ _ _)
        have heq : ∀ W, (binOp .eql 25 (.agg rs.toArray) (.agg rs.toArray)).run Try.prog W = .ok (.bool true) W := fun W => by rw [HSI.out]; exact eq_si W s' h' n' hs16 hh0 hh6 hn0 hn64
        have HC16 := Lib.hid hc16
        have HP16 := Lib.hid hp16
        have HNC : Hid (rc.length ≤ 68) := Lib.hid hnc
        have HNP : Hid (rp.length ≤ 6) := Lib.hid hnp
        clear hr hsi hs16 hh0 hh6 hn0 hn64 hc16 hp16 hnc hnp hok cs
        have hI1 : All w1 [.cells (w.heap.size + 1) 27 (d.map bv), .cells w.heap.size 25 (siCells seed h n), .low (.els w1.heap.size 16 A1 rc.length (hvs rc)), .low (.els w1.heap.size 16 P1 rp.length (hvs rp)), .kept w w.heap.size] := ⟨hR1.1, hR1.2.1, ⟨hE1, Nat.le_refl _⟩, ⟨hF1, Nat.le_refl _⟩, hR1.2.2.1, trivial⟩
        have hlt1 : w.heap.size + 1 < w1.heap.size := Cells.lt hI1.1
        clear hW hR1 hE1 hF1 hb1
        go_wp2_with (first | (refine wl_store_at ((hI1.new _ 25 rfl rfl).new _ 30 (g := w1.heap.size + 1) (by simp) rfl) 1 rfl 25 (.tmp 5) _ rfl w1.heap.size _ siz rs rfl rfl rfl (by rw [HSL.out]; rfl) (by rw [HSL.out]; kernel_rfl) HS1.out (by simp [Apart, Res.apart, Low.els] <;> omega) ?_; intro w2 hI2 hs2) | (refine wl_store_at hI2 0 rfl 30 (.tmp 6) _ rfl (w1.heap.size + 1) _ _ (sgCells rl A1 rc.length c1 P1 rp.length p1) rfl rfl rfl rfl (by kernel_rfl) (sg_one _ _ _ _ _ _ _) (by simp [Apart, Res.apart, Low.els] <;> omega) ?_; intro w3 hI3 hs3) | (refine wl_load_at rfl 25 (.tmp 2) rfl w.heap.size _ _ (hI3.at_ 3 rfl) rfl _ Try.underlying25 rfl (by rw [si_len _ _ _ hsl.out]; kernel_rfl) ?_) | (refine wl_load_at rfl 27 (.tmp 3) rfl (w.heap.size + 1) _ _ (hI3.at_ 2 rfl) rfl _ Try.underlying27 rfl (by rw [List.length_map, hdl.out]; kernel_rfl) ?_))
        refine (refSign_all _ seed d h n hsl.out hdl.out).mono ?_
        rw [← HR.out]
        rintro e w4 ⟨A2, c2, P2, p2, rfl, hE2, hF2, hb2⟩
        have hR4 := hI3.call hb2
        have hs4 := hb2.size
        have hlt4 : w1.heap.size + 1 < w3.heap.size := Cells.lt hI3.1
        have hI4 : All w4 [.cells (w1.heap.size + 1) 30 (sgCells rl A1 rc.length c1 P1 rp.length p1), .cells w1.heap.size 25 rs, .low (.els w1.heap.size 16 A1 rc.length (hvs rc)), .low (.els w1.heap.size 16 P1 rp.length (hvs rp)), .low (.els w4.heap.size 16 A2 rc.length (hvs rc)), .low (.els w4.heap.size 16 P2 rp.length (hvs rp)), .kept w w.heap.size] := ⟨hR4.1, hR4.2.1, hR4.2.2.2.2.1, hR4.2.2.2.2.2.1, ⟨hE2, Nat.le_refl _⟩, ⟨hF2, Nat.le_refl _⟩, hR4.2.2.2.2.2.2.1, trivial⟩
        clear hI1 hI2 hI3 hR4 hE2 hF2 hb2 hs2 hs3
        go_wp2_with (first | (refine wl_store_at ((hI4.new _ 25 rfl rfl).new _ 30 (g := w4.heap.size + 1) (by simp) rfl) 1 rfl 25 (.tmp 8) _ rfl w4.heap.size _ siz rs rfl rfl rfl (by rw [HSL.out]; rfl) (by rw [HSL.out]; kernel_rfl) HS1.out (by simp [Apart, Res.apart, Low.els] <;> omega) ?_; intro w5 hI5 hs5) | (refine wl_store_at hI5 0 rfl 30 (.tmp 9) _ rfl (w4.heap.size + 1) _ _ (sgCells rl A2 rc.length c2 P2 rp.length p2) rfl rfl rfl rfl (by kernel_rfl) (sg_one _ _ _ _ _ _ _) (by simp [Apart, Res.apart, Low.els] <;> omega) ?_; intro w6 hI6 hs6))
        refine (awake_any _).mono ?_
        rintro e w7 ⟨rfl, hb7⟩
        have hI7 := hI6.call hb7
        clear hI4 hI5 hI6 hb7 hs5 hs6
        have herr : (re == re) = true := by simp
        go_wp2_with (first | (refine wl_met rfl fun K hK => ?_; refine wp_load_mid 25 (.tmp 5) rfl w1.heap.size 0 rfl rs _ (Cells.range (hI7.at_ 3 rfl)) Try.underlying25 rfl (by rw [HSL.out]; kernel_rfl) ?_; refine hK _ _ ?_; clear hK K) | (refine wl_met rfl fun K hK => ?_; refine wp_load_mid 25 (.tmp 8) rfl w4.heap.size 0 rfl rs _ (Cells.range (hI7.at_ 1 rfl)) Try.underlying25 rfl (by rw [HSL.out]; kernel_rfl) ?_; refine hK _ _ ?_; clear hK K) | (refine wl_met rfl fun K hK => ?_; refine wp_load_mid 30 (.tmp 6) rfl (w1.heap.size + 1) 0 rfl (sgCells rl A1 rc.length c1 P1 rp.length p1) _ (Cells.range (hI7.at_ 2 rfl)) Try.underlying30 rfl (by kernel_rfl) ?_; refine hK _ _ ?_; clear hK K) | (refine wl_met rfl fun K hK => ?_; refine wp_load_mid 30 (.tmp 9) rfl (w4.heap.size + 1) 0 rfl (sgCells rl A2 rc.length c2 P2 rp.length p2) _ (Cells.range (hI7.at_ 0 rfl)) Try.underlying30 rfl (by kernel_rfl) ?_; refine hK _ _ ?_; clear hK K))
        refine (refSame_sig w7 w4.heap.size rl rl A1 A2 P1 P2 c1 c2 p1 p2 rc rc rp rp ((hI7.at_ 4 rfl).1.mono (by omega)) HC16.out (hI7.at_ 6 rfl).1 HC16.out ((hI7.at_ 5 rfl).1.mono (by omega)) HP16.out (hI7.at_ 7 rfl).1 HP16.out (by have := HNC.out; omega) (by have := HNP.out; omega) (hI7.at_ 6 rfl).2).mono ?_
        rintro e w8 ⟨rfl, hb8⟩
        have hI8 := hI7.call hb8
        have hdd : (decide (rl = rl) && (decide (rc = rc) && decide (rp = rp))) = true := by simp
        rw [hdd]
        clear hI7 hb8 hdd
        go_wp2_with fail
        go_ret
        exact ⟨rfl, (hI8.at_ 8 rfl).1⟩
    · have d2 : decide (h ≤ 6) = false := by simpa using q1
      clear q0 q1
      go_upto_region 3 with (fail)
      clear k1 k2 k3 d1 d2
      have cs := 0
      go_wp2_with (first | (refine wl_load_at rfl 25 (.tmp 2) rfl w.heap.size _ _ (hW.at_ 1 rfl) rfl _ Try.underlying25 rfl (by rw [si_len _ _ _ hsl.out]; kernel_rfl) ?_) | (refine wl_load_at rfl 27 (.tmp 3) rfl (w.heap.size + 1) _ _ (hW.at_ 0 rfl) rfl _ Try.underlying27 rfl (by rw [List.length_map, hdl.out]; kernel_rfl) ?_))
      refine (Sign_all _ seed d h n hsl.out hdl.out).mono ?_
      rintro e w1 ⟨A1, c1, P1, p1, rfl, hE1, hF1, hb1⟩
      have hR1 := hW.call hb1
      have hs1 := hb1.size
      have hok := Lib.hid (signR_ok seed d h n hsl.out)
      obtain ⟨r, hr⟩ : ∃ r, r = signR seed d h n := ⟨_, rfl⟩
      have HR := Lib.hid hr
      rw [← hr] at hok hE1 hF1 ⊢
      obtain ⟨rs, rl, rc, rp, re⟩ := r
      obtain ⟨⟨s', h', n', hsi, hs16, ⟨hh0, hh6⟩, hn0, hn64⟩, hc16, hp16, hnc, hnp⟩ := hok.out
      have HSI : Hid (rs = siCells s' h' n') := Lib.hid hsi
      have HSL : Hid (rs.length = 18) := Lib.hid (by rw [HSI.out, si_len _ _ _ hs16])
      have HS1 : Hid (∀ v ∈ rs, v.oneCell' = true) := Lib.hid (by rw [HSI.out]; exact si_one _ _ _)
      have heq : ∀ W, (binOp .eql 25 (.agg rs.toArray) (.agg rs.toArray)).run Try.prog W = .ok (.bool true) W := fun W => by rw [HSI.out]; exact eq_si W s' h' n' hs16 hh0 hh6 hn0 hn64
      have HC16 := Lib.hid hc16
      have HP16 := Lib.hid hp16
      have HNC : Hid (rc.length ≤ 68) := Lib.hid hnc
      have HNP : Hid (rp.length ≤ 6) := Lib.hid hnp
      clear hr hsi hs16 hh0 hh6 hn0 hn64 hc16 hp16 hnc hnp hok cs
      have hI1 : All w1 [.cells (w.heap.size + 1) 27 (d.map bv), .cells w.heap.size 25 (siCells seed h n), .low (.els w1.heap.size 16 A1 rc.length (hvs rc)), .low (.els w1.heap.size 16 P1 rp.length (hvs rp)), .kept w w.heap.size] := ⟨hR1.1, hR1.2.1, ⟨hE1, Nat.le_refl _⟩, ⟨hF1, Nat.le_refl _⟩, hR1.2.2.1, trivial⟩
      have hlt1 : w.heap.size + 1 < w1.heap.size := Cells.lt hI1.1
      clear hW hR1 hE1 hF1 hb1
      go_wp2_with (first | (refine wl_store_at ((hI1.new _ 25 rfl rfl).new _ 30 (g := w1.heap.size + 1) (by simp) rfl) 1 rfl 25 (.tmp 5) _ rfl w1.heap.size _ siz rs rfl rfl rfl (by rw [HSL.out]; rfl) (by rw [HSL.out]; kernel_rfl) HS1.out (by simp [Apart, Res.apart, Low.els] <;> omega) ?_; intro w2 hI2 hs2) | (refine wl_store_at hI2 0 rfl 30 (.tmp 6) _ rfl (w1.heap.size + 1) _ _ (sgCells rl A1 rc.length c1 P1 rp.length p1) rfl rfl rfl rfl (by kernel_rfl) (sg_one _ _ _ _ _ _ _) (by simp [Apart, Res.apart, Low.els] <;> omega) ?_; intro w3 hI3 hs3) | (refine wl_load_at rfl 25 (.tmp 2) rfl w.heap.size _ _ (hI3.at_ 3 rfl) rfl _ Try.underlying25 rfl (by rw [si_len _ _ _ hsl.out]; kernel_rfl) ?_) | (refine wl_load_at rfl 27 (.tmp 3) rfl (w.heap.size + 1) _ _ (hI3.at_ 2 rfl) rfl _ Try.underlying27 rfl (by rw [List.length_map, hdl.out]; kernel_rfl) ?_))
      refine (refSign_all _ seed d h n hsl.out hdl.out).mono ?_
      rw [← HR.out]
      rintro e w4 ⟨A2, c2, P2, p2, rfl, hE2, hF2, hb2⟩
      have hR4 := hI3.call hb2
      have hs4 := hb2.size
      have hlt4 : w1.heap.size + 1 < w3.heap.size := Cells.lt hI3.1
      have hI4 : All w4 [.cells (w1.heap.size + 1) 30 (sgCells rl A1 rc.length c1 P1 rp.length p1), .cells w1.heap.size 25 rs, .low (.els w1.heap.size 16 A1 rc.length (hvs rc)), .low (.els w1.heap.size 16 P1 rp.length (hvs rp)), .low (.els w4.heap.size 16 A2 rc.length (hvs rc)), .low (.els w4.heap.size 16 P2 rp.length (hvs rp)), .kept w w.heap.size] := ⟨hR4.1, hR4.2.1, hR4.2.2.2.2.1, hR4.2.2.2.2.2.1, ⟨hE2, Nat.le_refl _⟩, ⟨hF2, Nat.le_refl _⟩, hR4.2.2.2.2.2.2.1, trivial⟩
      clear hI1 hI2 hI3 hR4 hE2 hF2 hb2 hs2 hs3
      go_wp2_with (first | (refine wl_store_at ((hI4.new _ 25 rfl rfl).new _ 30 (g := w4.heap.size + 1) (by simp) rfl) 1 rfl 25 (.tmp 8) _ rfl w4.heap.size _ siz rs rfl rfl rfl (by rw [HSL.out]; rfl) (by rw [HSL.out]; kernel_rfl) HS1.out (by simp [Apart, Res.apart, Low.els] <;> omega) ?_; intro w5 hI5 hs5) | (refine wl_store_at hI5 0 rfl 30 (.tmp 9) _ rfl (w4.heap.size + 1) _ _ (sgCells rl A2 rc.length c2 P2 rp.length p2) rfl rfl rfl rfl (by kernel_rfl) (sg_one _ _ _ _ _ _ _) (by simp [Apart, Res.apart, Low.els] <;> omega) ?_; intro w6 hI6 hs6))
      refine (awake_any _).mono ?_
      rintro e w7 ⟨rfl, hb7⟩
      have hI7 := hI6.call hb7
      clear hI4 hI5 hI6 hb7 hs5 hs6
      have herr : (re == re) = true := by simp
      go_wp2_with (first | (refine wl_met rfl fun K hK => ?_; refine wp_load_mid 25 (.tmp 5) rfl w1.heap.size 0 rfl rs _ (Cells.range (hI7.at_ 3 rfl)) Try.underlying25 rfl (by rw [HSL.out]; kernel_rfl) ?_; refine hK _ _ ?_; clear hK K) | (refine wl_met rfl fun K hK => ?_; refine wp_load_mid 25 (.tmp 8) rfl w4.heap.size 0 rfl rs _ (Cells.range (hI7.at_ 1 rfl)) Try.underlying25 rfl (by rw [HSL.out]; kernel_rfl) ?_; refine hK _ _ ?_; clear hK K) | (refine wl_met rfl fun K hK => ?_; refine wp_load_mid 30 (.tmp 6) rfl (w1.heap.size + 1) 0 rfl (sgCells rl A1 rc.length c1 P1 rp.length p1) _ (Cells.range (hI7.at_ 2 rfl)) Try.underlying30 rfl (by kernel_rfl) ?_; refine hK _ _ ?_; clear hK K) | (refine wl_met rfl fun K hK => ?_; refine wp_load_mid 30 (.tmp 9) rfl (w4.heap.size + 1) 0 rfl (sgCells rl A2 rc.length c2 P2 rp.length p2) _ (Cells.range (hI7.at_ 0 rfl)) Try.underlying30 rfl (by kernel_rfl) ?_; refine hK _ _ ?_; clear hK K))
      refine (refSame_sig w7 w4.heap.size rl rl A1 A2 P1 P2 c1 c2 p1 p2 rc rc rp rp ((hI7.at_ 4 rfl).1.mono (by omega)) HC16.out (hI7.at_ 6 rfl).1 HC16.out ((hI7.at_ 5 rfl).1.mono (by omega)) HP16.out (hI7.at_ 7 rfl).1 HP16.out (by have := HNC.out; omega) (by have := HNP.out; omega) (hI7.at_ 6 rfl).2).mono ?_
      rintro e w8 ⟨rfl, hb8⟩
      have hI8 := hI7.call hb8
      have hdd : (decide (rl = rl) && (decide (rc = rc) && decide (rp = rp))) = true := by simp
      rw [hdd]
      clear hI7 hb8 hdd
      go_wp2_with fail
      go_ret
      exact ⟨rfl, (hI8.at_ 8 rfl).1⟩
  · have d1 : decide (2 < h) = false := by simpa using q0
    clear q0
    go_upto_region 3 with (fail)
    clear k1 k2 k3 d1
    have cs := 0
    go_wp2_with (first | (refine wl_load_at rfl 25 (.tmp 2) rfl w.heap.size _ _ (hW.at_ 1 rfl) rfl _ Try.underlying25 rfl (by rw [si_len _ _ _ hsl.out]; kernel_rfl) ?_) | (refine wl_load_at rfl 27 (.tmp 3) rfl (w.heap.size + 1) _ _ (hW.at_ 0 rfl) rfl _ Try.underlying27 rfl (by rw [List.length_map, hdl.out]; kernel_rfl) ?_))
    refine (Sign_all _ seed d h n hsl.out hdl.out).mono ?_
    rintro e w1 ⟨A1, c1, P1, p1, rfl, hE1, hF1, hb1⟩
    have hR1 := hW.call hb1
    have hs1 := hb1.size
    have hok := Lib.hid (signR_ok seed d h n hsl.out)
    obtain ⟨r, hr⟩ : ∃ r, r = signR seed d h n := ⟨_, rfl⟩
    have HR := Lib.hid hr
    rw [← hr] at hok hE1 hF1 ⊢
    obtain ⟨rs, rl, rc, rp, re⟩ := r
    obtain ⟨⟨s', h', n', hsi, hs16, ⟨hh0, hh6⟩, hn0, hn64⟩, hc16, hp16, hnc, hnp⟩ := hok.out
    have HSI : Hid (rs = siCells s' h' n') := Lib.hid hsi
    have HSL : Hid (rs.length = 18) := Lib.hid (by rw [HSI.out, si_len _ _ _ hs16])
    have HS1 : Hid (∀ v ∈ rs, v.oneCell' = true) := Lib.hid (by rw [HSI.out]; exact si_one _ _ _)
    have heq : ∀ W, (binOp .eql 25 (.agg rs.toArray) (.agg rs.toArray)).run Try.prog W = .ok (.bool true) W := fun W => by rw [HSI.out]; exact eq_si W s' h' n' hs16 hh0 hh6 hn0 hn64
    have HC16 := Lib.hid hc16
    have HP16 := Lib.hid hp16
    have HNC : Hid (rc.length ≤ 68) := Lib.hid hnc
    have HNP : Hid (rp.length ≤ 6) := Lib.hid hnp
    clear hr hsi hs16 hh0 hh6 hn0 hn64 hc16 hp16 hnc hnp hok cs
    have hI1 : All w1 [.cells (w.heap.size + 1) 27 (d.map bv), .cells w.heap.size 25 (siCells seed h n), .low (.els w1.heap.size 16 A1 rc.length (hvs rc)), .low (.els w1.heap.size 16 P1 rp.length (hvs rp)), .kept w w.heap.size] := ⟨hR1.1, hR1.2.1, ⟨hE1, Nat.le_refl _⟩, ⟨hF1, Nat.le_refl _⟩, hR1.2.2.1, trivial⟩
    have hlt1 : w.heap.size + 1 < w1.heap.size := Cells.lt hI1.1
    clear hW hR1 hE1 hF1 hb1
    go_wp2_with (first | (refine wl_store_at ((hI1.new _ 25 rfl rfl).new _ 30 (g := w1.heap.size + 1) (by simp) rfl) 1 rfl 25 (.tmp 5) _ rfl w1.heap.size _ siz rs rfl rfl rfl (by rw [HSL.out]; rfl) (by rw [HSL.out]; kernel_rfl) HS1.out (by simp [Apart, Res.apart, Low.els] <;> omega) ?_; intro w2 hI2 hs2) | (refine wl_store_at hI2 0 rfl 30 (.tmp 6) _ rfl (w1.heap.size + 1) _ _ (sgCells rl A1 rc.length c1 P1 rp.length p1) rfl rfl rfl rfl (by kernel_rfl) (sg_one _ _ _ _ _ _ _) (by simp [Apart, Res.apart, Low.els] <;> omega) ?_; intro w3 hI3 hs3) | (refine wl_load_at rfl 25 (.tmp 2) rfl w.heap.size _ _ (hI3.at_ 3 rfl) rfl _ Try.underlying25 rfl (by rw [si_len _ _ _ hsl.out]; kernel_rfl) ?_) | (refine wl_load_at rfl 27 (.tmp 3) rfl (w.heap.size + 1) _ _ (hI3.at_ 2 rfl) rfl _ Try.underlying27 rfl (by rw [List.length_map, hdl.out]; kernel_rfl) ?_))
    refine (refSign_all _ seed d h n hsl.out hdl.out).mono ?_
    rw [← HR.out]
    rintro e w4 ⟨A2, c2, P2, p2, rfl, hE2, hF2, hb2⟩
    have hR4 := hI3.call hb2
    have hs4 := hb2.size
    have hlt4 : w1.heap.size + 1 < w3.heap.size := Cells.lt hI3.1
    have hI4 : All w4 [.cells (w1.heap.size + 1) 30 (sgCells rl A1 rc.length c1 P1 rp.length p1), .cells w1.heap.size 25 rs, .low (.els w1.heap.size 16 A1 rc.length (hvs rc)), .low (.els w1.heap.size 16 P1 rp.length (hvs rp)), .low (.els w4.heap.size 16 A2 rc.length (hvs rc)), .low (.els w4.heap.size 16 P2 rp.length (hvs rp)), .kept w w.heap.size] := ⟨hR4.1, hR4.2.1, hR4.2.2.2.2.1, hR4.2.2.2.2.2.1, ⟨hE2, Nat.le_refl _⟩, ⟨hF2, Nat.le_refl _⟩, hR4.2.2.2.2.2.2.1, trivial⟩
    clear hI1 hI2 hI3 hR4 hE2 hF2 hb2 hs2 hs3
    go_wp2_with (first | (refine wl_store_at ((hI4.new _ 25 rfl rfl).new _ 30 (g := w4.heap.size + 1) (by simp) rfl) 1 rfl 25 (.tmp 8) _ rfl w4.heap.size _ siz rs rfl rfl rfl (by rw [HSL.out]; rfl) (by rw [HSL.out]; kernel_rfl) HS1.out (by simp [Apart, Res.apart, Low.els] <;> omega) ?_; intro w5 hI5 hs5) | (refine wl_store_at hI5 0 rfl 30 (.tmp 9) _ rfl (w4.heap.size + 1) _ _ (sgCells rl A2 rc.length c2 P2 rp.length p2) rfl rfl rfl rfl (by kernel_rfl) (sg_one _ _ _ _ _ _ _) (by simp [Apart, Res.apart, Low.els] <;> omega) ?_; intro w6 hI6 hs6))
    refine (awake_any _).mono ?_
    rintro e w7 ⟨rfl, hb7⟩
    have hI7 := hI6.call hb7
    clear hI4 hI5 hI6 hb7 hs5 hs6
    have herr : (re == re) = true := by simp
    go_wp2_with (first | (refine wl_met rfl fun K hK => ?_; refine wp_load_mid 25 (.tmp 5) rfl w1.heap.size 0 rfl rs _ (Cells.range (hI7.at_ 3 rfl)) Try.underlying25 rfl (by rw [HSL.out]; kernel_rfl) ?_; refine hK _ _ ?_; clear hK K) | (refine wl_met rfl fun K hK => ?_; refine wp_load_mid 25 (.tmp 8) rfl w4.heap.size 0 rfl rs _ (Cells.range (hI7.at_ 1 rfl)) Try.underlying25 rfl (by rw [HSL.out]; kernel_rfl) ?_; refine hK _ _ ?_; clear hK K) | (refine wl_met rfl fun K hK => ?_; refine wp_load_mid 30 (.tmp 6) rfl (w1.heap.size + 1) 0 rfl (sgCells rl A1 rc.length c1 P1 rp.length p1) _ (Cells.range (hI7.at_ 2 rfl)) Try.underlying30 rfl (by kernel_rfl) ?_; refine hK _ _ ?_; clear hK K) | (refine wl_met rfl fun K hK => ?_; refine wp_load_mid 30 (.tmp 9) rfl (w4.heap.size + 1) 0 rfl (sgCells rl A2 rc.length c2 P2 rp.length p2) _ (Cells.range (hI7.at_ 0 rfl)) Try.underlying30 rfl (by kernel_rfl) ?_; refine hK _ _ ?_; clear hK K))
    refine (refSame_sig w7 w4.heap.size rl rl A1 A2 P1 P2 c1 c2 p1 p2 rc rc rp rp ((hI7.at_ 4 rfl).1.mono (by omega)) HC16.out (hI7.at_ 6 rfl).1 HC16.out ((hI7.at_ 5 rfl).1.mono (by omega)) HP16.out (hI7.at_ 7 rfl).1 HP16.out (by have := HNC.out; omega) (by have := HNP.out; omega) (hI7.at_ 6 rfl).2).mono ?_
    rintro e w8 ⟨rfl, hb8⟩
    have hI8 := hI7.call hb8
    have hdd : (decide (rl = rl) && (decide (rc = rc) && decide (rp = rp))) = true := by simp
    rw [hdd]
    clear hI7 hb8 hdd
    go_wp2_with fail
    go_ret
    exact ⟨rfl, (hI8.at_ 8 rfl).1⟩

end Go.Proofs.Ytlnbeglelhdjfaa

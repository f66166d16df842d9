/- Public keys. -/
import Derived.Test.YtlnbeglelhdjfaaKey12
set_option linter.unusedSimpArgs false
set_option linter.unusedVariables false
namespace Go.Adm
open Go Go.RowKit
def hOk (n : Int) : Bool := decide (0 ≤ n) && decide (n ≤ 6)
theorem hOk_iff (n : Int) : hOk n = true ↔ 0 ≤ n ∧ n ≤ 6 := by simp [hOk]
def rootS (seed : List UInt8) (h : Nat) : List UInt8 := (lvl 0 (leavesS seed h) h).getD 0 []
theorem root_len1 (seed : List UInt8) (h k : Nat) (hk : k ≤ h) : (lvl 0 (leavesS seed h) k).length = 2 ^ (h - k) := lvl_len 0 _ h (leavesS_len seed h) k hk
theorem root_at (seed : List UInt8) (h : Nat) (hl : 0 < (lvl 0 (leavesS seed h) h).length) : (lvl 0 (leavesS seed h) h)[0] = rootS seed h := by simp [rootS, List.getD, hl]
theorem rootS_len (seed : List UInt8) (h : Nat) : (rootS seed h).length = 16 := by
  have h1 := root_len1 seed h h (Nat.le_refl _)
  rw [Nat.sub_self] at h1
  rw [← root_at seed h (by omega)]
  exact lvl_each 0 _ (leavesS_each seed h) h _ (List.getElem_mem _)
theorem pk_one (h : Int) (r : List UInt8) : ∀ v ∈ pkCells h r, v.oneCell' = true := by
  intro v hv
  rcases List.mem_cons.1 hv with rfl | hv
  · rfl
  · exact bv_one r v hv
theorem pk_len (h : Int) (r : List UInt8) (hr : r.length = 16) : (pkCells h r).length = 17 := by simp [pkCells, hr]
theorem fill_pk (h : Int) (r : List UInt8) (hr : r.length = 16) : Instr.fill (#[(0, 1), (1, 16)][·]?) (Value.int .i64 0 :: List.replicate 16 (Value.int .u8 0)).toArray [(0, .int .i64 h), (1, .agg (r.map bv).toArray)] = some (pkCells h r).toArray := by
  refine (fill_step (off := 0) (size := 1) (es := [.int .i64 h]) (pre := []) (old := [.int .i64 0]) (post := List.replicate 16 (Value.int .u8 0)) rfl rfl rfl rfl rfl rfl).trans ?_
  refine (fill_step (off := 1) (size := 16) (es := r.map bv) (pre := [.int .i64 h]) (old := List.replicate 16 (Value.int .u8 0)) (post := []) rfl (by simp) rfl (by simp) rfl (by simp [hr])).trans ?_
  simp [Instr.fill, pkCells]
end Go.Adm
namespace Go.Proofs.Ytlnbeglelhdjfaa
open Go Go.RowKit Go.Adm

theorem height_any (w : World) (n : Int) : Calls Try.prog 25 #[.int .i64 n] w fun e w' => e = .returned (.bool (hOk n)) ∧ w = w' := by
  by_cases h1 : 0 ≤ n
  · by_cases h2 : n ≤ 6
    · have d1 : decide (0 ≤ n) = true := by simpa using h1
      have d2 : decide (n ≤ 6) = true := by simpa using h2
      have hx : Hid (hOk n = true) := Lib.hid ((hOk_iff n).2 ⟨h1, h2⟩)
      go_enter Try.func25, Try.ntmps25
      go_wp2
      go_ret
      exact ⟨by rw [hx.out]; rfl, rfl⟩
    · have d1 : decide (0 ≤ n) = true := by simpa using h1
      have d2 : decide (n ≤ 6) = false := by simpa using h2
      have hx : Hid (hOk n = false) := Lib.hid (by cases hq : hOk n with | false => rfl | true => exact absurd ((hOk_iff n).1 hq).2 h2)
      go_enter Try.func25, Try.ntmps25
      go_wp2
      go_ret
      exact ⟨by rw [hx.out]; rfl, rfl⟩
  · have d1 : decide (0 ≤ n) = false := by simpa using h1
    have hx : Hid (hOk n = false) := Lib.hid (by cases hq : hOk n with | false => rfl | true => exact absurd ((hOk_iff n).1 hq).1 h1)
    go_enter Try.func25, Try.ntmps25
    go_wp2
    go_ret
    exact ⟨by rw [hx.out]; rfl, rfl⟩
theorem zero_pk (W : World) : (zeroValue 40).run Try.prog W = .ok (.agg (Value.int .i64 0 :: List.replicate 16 (Value.int .u8 0)).toArray) W := by kernel_rfl
set_option maxRecDepth 100000 in
set_option maxHeartbeats 3200000 in
theorem New_any (w : World) (seed : List UInt8) (h : Nat) (hs : seed.length = 16) (hh : h ≤ 6) :
    Calls Try.prog 13 #[.agg (seed.map bv).toArray, .int .i64 h] w fun e w' => e = .returned (.tuple #[.agg (pkCells h (rootS seed h)).toArray, .int .i64 0]) ∧ Below w.heap.size w w' := by
  have hR : All w [.kept w w.heap.size] := ⟨⟨Below.refl _ _, Nat.le_refl _⟩, trivial⟩
  have hsl := Lib.hid hs
  have hx : Hid (hOk h = true) := Lib.hid ((hOk_iff _).2 ⟨by omega, by omega⟩)
  clear hs
  go_enter Try.func13, Try.ntmps13
  go_upto_region 1 with (fail)
  refine wp_gen ((hR.new (l := seed.map bv) _ 23 rfl rfl).new (l := (Value.int .i64 0 :: List.replicate 16 (Value.int .u8 0))) _ 40 (g := w.heap.size + 1) (by simp) rfl) ?_
  intro W hW
  go_wp2_with fail
  refine (height_any W h).mono ?_
  rintro e w' ⟨rfl, rfl⟩
  rw [hx.out]
  go_wp2_with (refine wl_load_at rfl 23 (.tmp 2) rfl w.heap.size _ _ (hW.at_ 1 rfl) rfl _ Try.underlying23 rfl (by rw [List.length_map, hsl.out]; kernel_rfl) ?_)
  refine (tree_any W seed h hsl.out hh).mono ?_
  rintro e w4 ⟨A4, c4, vs, rfl, hrd, hlv, hb4⟩
  have hI4 := hW.call hb4
  have hlvl : h < (lvls 0 (leavesS seed h) h).length := by simp [lvls]
  obtain ⟨u, hu, A5, c5, rfl, hE⟩ := hlv.at_ hlvl
  have hle : (lvls 0 (leavesS seed h) h)[h] = lvl 0 (leavesS seed h) h := by simp [lvls]
  have hl1 : (lvl 0 (leavesS seed h) h).length = 1 := by have := root_len1 seed h h (Nat.le_refl _); simpa using this
  rw [hle] at hE hu
  rw [hl1] at hE hu
  obtain ⟨ad, u2, rfl, _, hu2, hc⟩ := Rd.cell hrd (k := h) (by omega)
  rw [hu] at hu2
  obtain rfl := Option.some.inj hu2
  obtain ⟨ad5, rfl, _, hc5⟩ := Els.half (k := 0) hE (by rw [hl1]; omega)
  rw [root_at seed h (by rw [hl1]; omega)] at hc5
  rw [Nat.zero_mul, Go.Adm.add_zero] at hc5
  have HC5 := Lib.hid hc5
  have hr16 := Lib.hid (rootS_len seed h)
  have hhi : (0 : Int) ≤ (h : Int) := by omega
  have hhi2 : (h : Int) < (h : Int) + 1 := by omega
  have HFP := Lib.hid (fill_pk h (rootS seed h) hr16.out)
  clear hu hrd hlv hE hle hl1 hlvl hW hb4 hc5
  generalize hr : rootS seed h = r at *
  have HR := Lib.hid hr
  clear hr
  go_wp2_with (first | (refine wl_load_any rfl 23 (.tmp 17) rfl ad5 rfl (r.map bv) _ HC5.out Try.underlying23 rfl (by rw [List.length_map, hr16.out]; kernel_rfl) ?_) | (refine wl_build rfl 40 [(0, .tmp 10), (1, .tmp 18)] rfl _ _ #[(0, 1), (1, 16)] (pkCells h r).toArray zero_pk Try.underlying40 (fun w => by kernel_rfl) HFP.out ?_) | (refine wl_store_at hI4 0 rfl 40 (.tmp 4) _ rfl (w.heap.size + 1) _ _ (pkCells h r) rfl rfl rfl (by rw [pk_len _ _ hr16.out]; rfl) (by rw [pk_len _ _ hr16.out]; kernel_rfl) (pk_one _ _) (by simp [Apart, Res.apart, Low.parts, Low.els, Low.rd] <;> omega) ?_; intro w9 hI9 hs9))
  refine bodyPost_ret (v := .tuple #[.agg (pkCells h r).toArray, .int .i64 0]) ?_ rfl ⟨by rw [HR.out], (hI9.at_ 2 rfl).1⟩
  exact results_row_tmp (p := 4) (q := 5) rfl _ _ (w.heap.size + 1) 40 (pkCells h r).toArray (0, 0) _ rfl (hI9.at_ 0 rfl) Try.underlying40 rfl (by rw [List.size_toArray, pk_len _ _ hr16.out]; kernel_rfl)

set_option maxRecDepth 100000 in
set_option maxHeartbeats 3200000 in
theorem New_no (w : World) (seed : List UInt8) (h : Int) (hs : seed.length = 16) (hh : hOk h = false) :
    Calls Try.prog 13 #[.agg (seed.map bv).toArray, .int .i64 h] w fun e w' => e = .returned (.tuple #[.agg (Value.int .i64 0 :: List.replicate 16 (Value.int .u8 0)).toArray, .int .i64 1]) ∧ Below w.heap.size w w' := by
  have hR : All w [.kept w w.heap.size] := ⟨⟨Below.refl _ _, Nat.le_refl _⟩, trivial⟩
  have hx := Lib.hid hh
  clear hh
  go_enter Try.func13, Try.ntmps13
  go_upto_region 1 with (fail)
  refine wp_gen ((hR.new (l := seed.map bv) _ 23 rfl rfl).new (l := (Value.int .i64 0 :: List.replicate 16 (Value.int .u8 0))) _ 40 (g := w.heap.size + 1) (by simp) rfl) ?_
  intro W hW
  go_wp2_with fail
  refine (height_any W h).mono ?_
  rintro e w' ⟨rfl, rfl⟩
  rw [hx.out]
  go_wp2_with (first | (refine wl_build rfl 40 [] rfl _ _ #[(0, 1), (1, 16)] (Value.int .i64 0 :: List.replicate 16 (Value.int .u8 0)).toArray zero_pk Try.underlying40 (fun w => by kernel_rfl) rfl ?_) | (refine wl_store_at hW 0 rfl 40 (.tmp 4) _ rfl (w.heap.size + 1) _ _ (Value.int .i64 0 :: List.replicate 16 (Value.int .u8 0)) rfl rfl rfl rfl (by kernel_rfl) (by decide) (by simp [Apart, Res.apart, Low.parts, Low.els, Low.rd] <;> omega) ?_; intro w9 hI9 hs9))
  refine bodyPost_ret (v := .tuple #[.agg ((Value.int .i64 0 :: List.replicate 16 (Value.int .u8 0))).toArray, .int .i64 1]) ?_ rfl ⟨rfl, (hI9.at_ 2 rfl).1⟩
  exact results_row_tmp (p := 4) (q := 5) rfl _ _ (w.heap.size + 1) 40 ((Value.int .i64 0 :: List.replicate 16 (Value.int .u8 0))).toArray (0, 0) _ rfl (hI9.at_ 0 rfl) Try.underlying40 rfl (by rw [List.size_toArray, show ((Value.int .i64 0 :: List.replicate 16 (Value.int .u8 0)) : List Value).length = 17 from rfl]; kernel_rfl)

set_option maxRecDepth 100000 in
set_option maxHeartbeats 3200000 in
theorem refNew_any (w : World) (seed : List UInt8) (h : Nat) (hs : seed.length = 16) (hh : h ≤ 6) :
    Calls Try.prog 18 #[.agg (seed.map bv).toArray, .int .i64 h] w fun e w' => e = .returned (.tuple #[.agg (pkCells h (rootS seed h)).toArray, .int .i64 0]) ∧ Below w.heap.size w w' := by
  have hR : All w [.kept w w.heap.size] := ⟨⟨Below.refl _ _, Nat.le_refl _⟩, trivial⟩
  have hsl := Lib.hid hs
  have d1 : decide ((h : Int) < 0) = false := by simp
  have d2 : decide ((6 : Int) < (h : Int)) = false := by simp; omega
  clear hs
  go_enter Try.func18, Try.ntmps18
  go_upto_region 1 with (fail)
  refine wp_gen ((hR.new (l := seed.map bv) _ 23 rfl rfl).new (l := (Value.int .i64 0 :: List.replicate 16 (Value.int .u8 0))) _ 40 (g := w.heap.size + 1) (by simp) rfl) ?_
  intro W hW
  go_wp2_with (refine wl_load_at rfl 23 (.tmp 2) rfl w.heap.size _ _ (hW.at_ 1 rfl) rfl _ Try.underlying23 rfl (by rw [List.length_map, hsl.out]; kernel_rfl) ?_)
  refine (leaves_any W seed h hsl.out hh).mono ?_
  rintro e w4 ⟨A4, c4, rfl, hown4, hb4⟩
  have hI4 : All w4 [.cells (w.heap.size + 1) 40 (Value.int .i64 0 :: List.replicate 16 (Value.int .u8 0)), .cells w.heap.size 23 (seed.map bv), .low (.els w4.heap.size 16 A4 (2 ^ h) (hvs (lvl 0 (leavesS seed h) 0))), .kept w w.heap.size] := ⟨(hW.call hb4).1, (hW.call hb4).2.1, ⟨Els.of hown4 (hvs_each (leavesS_each seed h)) (by rw [hvs_len]; exact leavesS_len seed h), Nat.le_refl _⟩, (hW.call hb4).2.2⟩
  have hp64 := pow_le64 h hh
  clear hW hown4 hb4 d1 d2
  generalize hN : 2 ^ h = N at *
  have HN := Lib.hid hN
  clear hN
  go_wp2
  go_loopw [6, 7] (fun v i wr => ∃ (k n B : Nat) (A' : Option Addr) (c' : Nat), k ≤ h ∧ i = .int .i64 k ∧ Hid (n = 2 ^ (h - k)) ∧ n ≤ 64 ∧ v = .slice A' n c' ∧ All wr [.cells (w.heap.size + 1) 40 (Value.int .i64 0 :: List.replicate 16 (Value.int .u8 0)), .cells w.heap.size 23 (seed.map bv), .low (.els B 16 A' n (hvs (lvl 0 (leavesS seed h) k))), .kept w w.heap.size]) (fun _ i _ => h - (intOf i).toNat)
  case atStart => exact ⟨0, N, w4.heap.size, A4, c4, by omega, rfl, Lib.hid (by rw [Nat.sub_zero]; exact HN.out.symm), by omega, rfl, hI4⟩
  case round =>
    obtain ⟨k, n, B, A', c', hk, rfl, HM, hn, rfl, hI⟩ := hrel
    by_cases hlt : k < h
    · have hlen := Lib.hid (root_len1 seed h k (by omega))
      go_wp2_with fail
      refine (up_any wr B A' n c' k (lvl 0 (leavesS seed h) k) hI.2.2.1.1 (lvl_each 0 _ (leavesS_each seed h) k) hI.2.2.1.2 (by omega)).mono ?_
      rintro e w5 ⟨A5, c5, rfl, hown5, hb5⟩
      have hI5 := hI.call hb5
      have hl2 : Hid ((lvl 0 (leavesS seed h) k).length / 2 = 2 ^ (h - (k + 1))) := Lib.hid (by rw [hlen.out, show h - k = (h - (k + 1)) + 1 from by omega, Nat.pow_succ]; omega)
      have hl3 : (lvl 0 (leavesS seed h) k).length / 2 ≤ 64 := by have := hlen.out; have := HM.out; omega
      have hlv : Hid (upS (k : Int) (lvl 0 (leavesS seed h) k) = lvl 0 (leavesS seed h) (k + 1)) := Lib.hid (by rw [lvl]; simp)
      have hE5 : Els w5 w5.heap.size 16 A5 ((lvl 0 (leavesS seed h) k).length / 2) (hvs (lvl 0 (leavesS seed h) (k + 1))) := by
        rw [← hlv.out]
        exact Els.of hown5 (hvs_each (upS_each _ _)) (by rw [hvs_len, upS_len])
      clear hI hown5 hb5
      generalize (lvl 0 (leavesS seed h) k).length / 2 = n5 at *
      go_wp2
      refine ⟨⟨k + 1, n5, w5.heap.size, A5, c5, by omega, by go_num, Lib.hid hl2.out, hl3, rfl, hI5.1, hI5.2.1, ⟨hE5, Nat.le_refl _⟩, hI5.2.2.2⟩, by simp [intOf]; omega⟩
    · have hkh : k = h := by omega
      have hn1 : n = 1 := by have := HM.out; rw [hkh, Nat.sub_self] at this; exact this
      rw [hkh, hn1] at hI
      have hl1 : (lvl 0 (leavesS seed h) h).length = 1 := by have := root_len1 seed h h (Nat.le_refl _); simpa using this
      obtain ⟨ad5, rfl, _, hc5⟩ := Els.half (k := 0) (hI.2.2.1.1 : Els wr B 16 _ 1 (hvs (lvl 0 (leavesS seed h) h))) (by rw [hl1]; omega)
      rw [root_at seed h (by rw [hl1]; omega), Nat.zero_mul, Go.Adm.add_zero] at hc5
      have HC5 := Lib.hid hc5
      have hr16 := Lib.hid (rootS_len seed h)
      have HFP := Lib.hid (fill_pk h (rootS seed h) hr16.out)
      have hI6 : All wr [.cells (w.heap.size + 1) 40 (Value.int .i64 0 :: List.replicate 16 (Value.int .u8 0)), .cells w.heap.size 23 (seed.map bv), .kept w w.heap.size] := ⟨hI.1, hI.2.1, hI.2.2.2⟩
      have HKH := Lib.hid hkh
      subst hn1
      clear hc5 hl1 hI hkh
      generalize hr : rootS seed h = r at *
      have HR := Lib.hid hr
      clear hr
      go_wp2_with (first | (refine wl_load_any rfl 23 (.tmp 28) rfl ad5 rfl (r.map bv) _ HC5.out Try.underlying23 rfl (by rw [List.length_map, hr16.out]; kernel_rfl) ?_) | (refine wl_build rfl 40 [(0, .tmp 26), (1, .tmp 29)] rfl _ _ #[(0, 1), (1, 16)] (pkCells h r).toArray zero_pk Try.underlying40 (fun w => by kernel_rfl) HFP.out ?_) | (refine wl_store_at hI6 0 rfl 40 (.tmp 4) _ rfl (w.heap.size + 1) _ _ (pkCells h r) rfl rfl rfl (by rw [pk_len _ _ hr16.out]; rfl) (by rw [pk_len _ _ hr16.out]; kernel_rfl) (pk_one _ _) (by simp [Apart, Res.apart, Low.parts, Low.els, Low.rd] <;> omega) ?_; intro w9 hI9 hs9))
      refine bodyPost_ret (v := .tuple #[.agg (pkCells h r).toArray, .int .i64 0]) ?_ rfl ⟨by rw [HR.out], (hI9.at_ 2 rfl).1⟩
      exact results_row_tmp (p := 4) (q := 5) rfl _ _ (w.heap.size + 1) 40 (pkCells h r).toArray (0, 0) _ rfl (hI9.at_ 0 rfl) Try.underlying40 rfl (by rw [List.size_toArray, pk_len _ _ hr16.out]; kernel_rfl)

set_option maxRecDepth 100000 in
set_option maxHeartbeats 3200000 in
theorem refNew_no (w : World) (seed : List UInt8) (h : Int) (hs : seed.length = 16) (hh : hOk h = false) :
    Calls Try.prog 18 #[.agg (seed.map bv).toArray, .int .i64 h] w fun e w' => e = .returned (.tuple #[.agg (Value.int .i64 0 :: List.replicate 16 (Value.int .u8 0)).toArray, .int .i64 1]) ∧ Below w.heap.size w w' := by
  have hR : All w [.kept w w.heap.size] := ⟨⟨Below.refl _ _, Nat.le_refl _⟩, trivial⟩
  have hcc : (decide (h < 0) = true) ∨ (decide (h < 0) = false ∧ decide (6 < h) = true) := by
    by_cases h1 : h < 0
    · left; simpa using h1
    · right
      refine ⟨by simpa using h1, ?_⟩
      by_cases h2 : 6 < h
      · simpa using h2
      · have := (hOk_iff h).2 ⟨by omega, by omega⟩
        rw [this] at hh; cases hh
  clear hh
  go_enter Try.func18, Try.ntmps18
  go_upto_region 1 with (fail)
  refine wp_gen ((hR.new (l := seed.map bv) _ 23 rfl rfl).new (l := (Value.int .i64 0 :: List.replicate 16 (Value.int .u8 0))) _ 40 (g := w.heap.size + 1) (by simp) rfl) ?_
  intro W hW
  rcases hcc with hd | ⟨hd, hd2⟩
  all_goals
    go_wp2_with (first | (refine wl_build rfl 40 [] rfl _ _ #[(0, 1), (1, 16)] (Value.int .i64 0 :: List.replicate 16 (Value.int .u8 0)).toArray zero_pk Try.underlying40 (fun w => by kernel_rfl) rfl ?_) | (refine wl_store_at hW 0 rfl 40 (.tmp 4) _ rfl (w.heap.size + 1) _ _ (Value.int .i64 0 :: List.replicate 16 (Value.int .u8 0)) rfl rfl rfl rfl (by kernel_rfl) (by decide) (by simp [Apart, Res.apart, Low.parts, Low.els, Low.rd] <;> omega) ?_; intro w9 hI9 hs9))
    refine bodyPost_ret (v := .tuple #[.agg ((Value.int .i64 0 :: List.replicate 16 (Value.int .u8 0))).toArray, .int .i64 1]) ?_ rfl ⟨rfl, (hI9.at_ 2 rfl).1⟩
    exact results_row_tmp (p := 4) (q := 5) rfl _ _ (w.heap.size + 1) 40 ((Value.int .i64 0 :: List.replicate 16 (Value.int .u8 0))).toArray (0, 0) _ rfl (hI9.at_ 0 rfl) Try.underlying40 rfl (by rw [List.size_toArray, show ((Value.int .i64 0 :: List.replicate 16 (Value.int .u8 0)) : List Value).length = 17 from rfl]; kernel_rfl)

end Go.Proofs.Ytlnbeglelhdjfaa

/- The public key that a one-time signature belongs to. -/
import Derived.Test.YtlnbeglelhdjfaaKey7
set_option linter.unusedSimpArgs false
set_option linter.unusedVariables false
namespace Go.Proofs.Ytlnbeglelhdjfaa
open Go Go.RowKit Go.Adm

set_option maxRecDepth 100000 in
set_option maxHeartbeats 3200000 in
theorem Recover_any (w : World) (B : Nat) (A : Option Addr) (c : Nat) (leaf : Int) (d : List UInt8) (sig : List (List UInt8)) (h : Els w B 16 A 68 (hvs sig)) (h16 : ∀ x ∈ sig, x.length = 16) (hd : d.length = 32) (hB : B ≤ w.heap.size) :
    Calls Try.prog 32 #[.int .i64 leaf, .agg (d.map bv).toArray, .slice A 68 c] w fun e w' => e = .returned (.tuple #[.agg ((recS leaf d sig).map bv).toArray, .bool true]) ∧ Below w.heap.size w w' := by
  have hsg : sig.length = 68 := by have := h.len; rwa [hvs_len] at this
  have hR : All w [.low (.els B 16 A 68 (hvs sig)), .kept w w.heap.size] := ⟨⟨h, hB⟩, ⟨Below.refl _ _, Nat.le_refl _⟩, trivial⟩
  have HS := Lib.hid hsg
  have H16 := Lib.hid h16
  have hdl := Lib.hid hd
  clear h hsg h16 hd
  go_enter Try.func32, Try.ntmps32
  go_upto_region 1 with (fail)
  refine wp_gen ((hR.new (l := d.map bv) _ 27 rfl rfl).new (l := List.replicate 16 (Value.int .u8 0)) _ 23 (g := w.heap.size + 1) (by simp) rfl) ?_
  intro W hW
  have hltW : w.heap.size + 1 < W.heap.size := Cells.lt (hW.at_ 0 rfl)
  go_wp2_with (refine wl_load_at rfl 27 (.tmp 4) rfl w.heap.size _ _ (hW.at_ 1 rfl) rfl _ Try.underlying27 rfl (by rw [List.length_map, hdl.out]; kernel_rfl) ?_)
  refine (Digits_any W d hdl.out).mono ?_
  rintro e w4 ⟨A4, c4, rfl, hc4, hm4, hrd4, hb4⟩
  obtain ⟨B4, hB4⟩ : ∃ B, B = w4.heap.size := ⟨_, rfl⟩
  have hI4 : All w4 [.own B4 23 16 none 0 0 (hvs ((list68 (recF leaf d sig)).take 0)).flatten, .cells (w.heap.size + 1) 23 (List.replicate 16 (.int .u8 0)), .cells w.heap.size 27 (d.map bv), .low (.rd B4 1 A4 68 ((digitsS d).map fv)), .low (.els B 16 A 68 (hvs sig)), .kept w w.heap.size] := ⟨Go.Adm.Own.nil _ _ _ _, (hW.call hb4).1, (hW.call hb4).2.1, ⟨by rw [hB4]; exact hrd4, Nat.le_of_eq hB4⟩, (hW.call hb4).2.2.1, (hW.call hb4).2.2.2.1, trivial⟩
  have hs4 := hb4.size
  have hBw : B4 ≤ w4.heap.size := Nat.le_of_eq hB4
  have hBg : w.heap.size + 2 ≤ B4 := by omega
  clear hW hrd4 hb4 hB4 hm4 hc4
  go_wp2
  go_loopw [8, 18] (fun v i wr => ∃ (k : Nat) (A' : Option Addr) (c' : Nat), k ≤ 68 ∧ i = .int .i64 k ∧ v = .slice A' k c' ∧ All wr [.own B4 23 16 A' k c' (hvs ((list68 (recF leaf d sig)).take k)).flatten, .cells (w.heap.size + 1) 23 (List.replicate 16 (.int .u8 0)), .cells w.heap.size 27 (d.map bv), .low (.rd B4 1 A4 68 ((digitsS d).map fv)), .low (.els B 16 A 68 (hvs sig)), .kept w w.heap.size] ∧ B4 ≤ wr.heap.size) (fun _ i _ => 68 - (intOf i).toNat)
  case atStart => exact ⟨0, none, 0, by omega, rfl, rfl, hI4, by omega⟩
  case round =>
    obtain ⟨k, A', c', hk, rfl, rfl, hI, hsz⟩ := hrel
    by_cases hlt : k < 68
    · have hM := Lib.hid (list68_succ (recF leaf d sig) k hlt)
      obtain ⟨ad, u, rfl, _, hu, hc⟩ := Rd.cell (hI.2.2.2.1.1 : Rd wr B4 1 _ 68 _) hlt
      rw [dgt_at d hdl.out k hlt] at hu
      obtain rfl := Option.some.inj hu
      have hc2 : wr.cell? (ad.add k) = some (.int .i64 (((dgt d k).val : Nat) : Int)) := hc
      have hx := (dgt d k).isLt
      have hks : k < sig.length := by rw [HS.out]; exact hlt
      obtain ⟨aq, rfl, _, hcs⟩ := Els.half (hI.2.2.2.2.1.1 : Els wr B 16 _ 68 (hvs sig)) hks
      have HC := Lib.hid hcs
      have hx16 : Hid (sig[k].length = 16) := Lib.hid (H16.out _ (List.getElem_mem hks))
      have hre : Hid (recF leaf d sig k = climbS sig[k] leaf k (((dgt d k).val : Nat) : Int) 3) := Lib.hid (by simp [recF, List.getD, hks])
      have h16b : Hid ((recF leaf d sig k).length = 16) := Lib.hid (by rw [hre.out]; exact climbS_len _ _ _ _ _ hx16.out)
      clear hc hu hcs
      go_wp2_with (refine wl_load_any rfl 23 (.tmp 26) rfl (aq.add (k * 16)) rfl (sig[k].map bv) _ HC.out Try.underlying23 rfl (by rw [List.length_map, hx16.out]; kernel_rfl) ?_)
      refine (Climb_any wr sig[k] leaf k (((dgt d k).val : Nat) : Int) 3 hx16.out).mono ?_
      rintro e w6 ⟨rfl, hb6⟩
      have hI6 := hI.call hb6
      have hs6 := hb6.size
      clear hI hb6 hc2
      rw [← hre.out]
      generalize recF leaf d sig k = x at *
      go_wp2_with (first | (refine wl_lit1 els_half rfl _ rfl (x.map bv) rfl (by rw [List.length_map, h16b.out]) (by decide) ?_) | (at_builtin; refine wl_app_at els_half (hI6.alloc _) 0 rfl (.tmp 23) (.tmp 32) rfl B4 _ _ _ _ rfl rfl (w6.heap.size + 1) _ 1 1 (x.map bv) rfl (Rd.lit w6 (x.map bv).toArray _ 1 (by rw [List.size_toArray, List.length_map, h16b.out])) (bv_one _) (by omega) (by simp; omega) (by intro g hg _; simp [Apart, Res.apart, Low.rd, Low.els] <;> omega) ?_; intro A7 c7 w7 hI7 hs7))
      refine ⟨⟨k + 1, A7, c7, by omega, by go_num, rfl, ?_, by first | omega | (simp at hs7; omega)⟩, by simp [intOf]; omega⟩
      rw [hM.out, ← hvs_snoc]
      exact hI7
    · obtain rfl : k = 68 := by omega
      rw [List.take_of_length_le (by rw [list68_len]; omega)] at hI
      have he16 : ∀ x ∈ list68 (recF leaf d sig), x.length = 16 := list68_each _ (fun i hi => by
        have hks : i < sig.length := by rw [HS.out]; exact hi
        rw [show recF leaf d sig i = climbS sig[i] leaf i (((dgt d i).val : Nat) : Int) 3 from by simp [recF, List.getD, hks]]
        exact climbS_len _ _ _ _ _ (H16.out _ (List.getElem_mem hks)))
      have hE : Els wr wr.heap.size 16 A' 68 (hvs (list68 (recF leaf d sig))) := Els.of (hI.1 : Go.Adm.Own wr _ 23 16 A' 68 c' _) (hvs_each he16) (by rw [hvs_len, list68_len])
      have h16 := Lib.hid (recS_len leaf d sig)
      go_wp2_with fail
      refine (Combine_any wr wr.heap.size A' 68 c' leaf _ hE he16 (Nat.le_refl _) (by decide)).mono ?_
      rintro e w5 ⟨rfl, hb⟩
      have hI5 := ((hI.erase 0).erase 2).call hb
      rw [show combineS leaf (list68 (recF leaf d sig)) = recS leaf d sig from rfl]
      generalize hr : recS leaf d sig = r at *
      have HR := Lib.hid hr
      clear hr hb hI hE he16
      go_wp2_with (refine wl_store_at hI5 0 rfl 23 (.tmp 6) _ rfl (w.heap.size + 1) _ _ (r.map bv) rfl rfl rfl (by rw [List.length_map, h16.out]; rfl) (by rw [List.length_map, h16.out]; kernel_rfl) (bv_one _) (by simp [Apart, Res.apart, Low.parts, Low.els, Low.rd] <;> omega) ?_; intro w9 hI9 hs9)
      refine bodyPost_ret (v := .tuple #[.agg (r.map bv).toArray, .bool true]) ?_ rfl ⟨by rw [HR.out], (hI9.at_ 3 rfl).1⟩
      exact results_row_tmp (p := 6) (q := 7) rfl _ _ (w.heap.size + 1) 23 (r.map bv).toArray (0, 0) _ rfl (hI9.at_ 0 rfl) Try.underlying23 rfl (by rw [List.size_toArray, List.length_map, h16.out]; kernel_rfl)

set_option maxRecDepth 100000 in
set_option maxHeartbeats 3200000 in
theorem refRecover_any (w : World) (B : Nat) (A : Option Addr) (c : Nat) (leaf : Int) (d : List UInt8) (sig : List (List UInt8)) (h : Els w B 16 A 68 (hvs sig)) (h16 : ∀ x ∈ sig, x.length = 16) (hd : d.length = 32) (hB : B ≤ w.heap.size) :
    Calls Try.prog 33 #[.int .i64 leaf, .agg (d.map bv).toArray, .slice A 68 c] w fun e w' => e = .returned (.tuple #[.agg ((recS leaf d sig).map bv).toArray, .bool true]) ∧ Below w.heap.size w w' := by
  have hsg : sig.length = 68 := by have := h.len; rwa [hvs_len] at this
  have hR : All w [.low (.els B 16 A 68 (hvs sig)), .kept w w.heap.size] := ⟨⟨h, hB⟩, ⟨Below.refl _ _, Nat.le_refl _⟩, trivial⟩
  have HS := Lib.hid hsg
  have H16 := Lib.hid h16
  have hdl := Lib.hid hd
  clear h hsg h16 hd
  go_enter Try.func33, Try.ntmps33
  go_upto_region 1 with (fail)
  refine wp_gen ((hR.new (l := d.map bv) _ 27 rfl rfl).new (l := List.replicate 16 (Value.int .u8 0)) _ 23 (g := w.heap.size + 1) (by simp) rfl) ?_
  intro W hW
  have hltW : w.heap.size + 1 < W.heap.size := Cells.lt (hW.at_ 0 rfl)
  go_wp2_with (refine wl_load_at rfl 27 (.tmp 4) rfl w.heap.size _ _ (hW.at_ 1 rfl) rfl _ Try.underlying27 rfl (by rw [List.length_map, hdl.out]; kernel_rfl) ?_)
  refine (refDigits_any W d hdl.out).mono ?_
  rintro e w4 ⟨A4, c4, rfl, hc4, hm4, hrd4, hb4⟩
  obtain ⟨B4, hB4⟩ : ∃ B, B = w4.heap.size := ⟨_, rfl⟩
  have hI4 : All w4 [.own B4 23 16 none 0 0 (hvs ((list68 (recF leaf d sig)).take 0)).flatten, .cells (w.heap.size + 1) 23 (List.replicate 16 (.int .u8 0)), .cells w.heap.size 27 (d.map bv), .low (.rd B4 1 A4 68 ((digitsS d).map fv)), .low (.els B 16 A 68 (hvs sig)), .kept w w.heap.size] := ⟨Go.Adm.Own.nil _ _ _ _, (hW.call hb4).1, (hW.call hb4).2.1, ⟨by rw [hB4]; exact hrd4, Nat.le_of_eq hB4⟩, (hW.call hb4).2.2.1, (hW.call hb4).2.2.2.1, trivial⟩
  have hs4 := hb4.size
  have hBw : B4 ≤ w4.heap.size := Nat.le_of_eq hB4
  have hBg : w.heap.size + 2 ≤ B4 := by omega
  clear hW hrd4 hb4 hB4 hm4 hc4
  go_wp2
  go_loopw [9, 10] (fun v i wr => ∃ (k : Nat) (A' : Option Addr) (c' : Nat), k ≤ 68 ∧ i = .int .i64 k ∧ v = .slice A' k c' ∧ All wr [.own B4 23 16 A' k c' (hvs ((list68 (recF leaf d sig)).take k)).flatten, .cells (w.heap.size + 1) 23 (List.replicate 16 (.int .u8 0)), .cells w.heap.size 27 (d.map bv), .low (.rd B4 1 A4 68 ((digitsS d).map fv)), .low (.els B 16 A 68 (hvs sig)), .kept w w.heap.size] ∧ B4 ≤ wr.heap.size) (fun _ i _ => 68 - (intOf i).toNat)
  case atStart => exact ⟨0, none, 0, by omega, rfl, rfl, hI4, by omega⟩
  case round =>
    obtain ⟨k, A', c', hk, rfl, rfl, hI, hsz⟩ := hrel
    by_cases hlt : k < 68
    · have hM := Lib.hid (list68_succ (recF leaf d sig) k hlt)
      obtain ⟨ad, u, rfl, _, hu, hc⟩ := Rd.cell (hI.2.2.2.1.1 : Rd wr B4 1 _ 68 _) hlt
      rw [dgt_at d hdl.out k hlt] at hu
      obtain rfl := Option.some.inj hu
      have hc2 : wr.cell? (ad.add k) = some (.int .i64 (((dgt d k).val : Nat) : Int)) := hc
      have hx := (dgt d k).isLt
      have hks : k < sig.length := by rw [HS.out]; exact hlt
      obtain ⟨aq, rfl, _, hcs⟩ := Els.half (hI.2.2.2.2.1.1 : Els wr B 16 _ 68 (hvs sig)) hks
      have HC := Lib.hid hcs
      have hx16 : Hid (sig[k].length = 16) := Lib.hid (H16.out _ (List.getElem_mem hks))
      have hre : Hid (recF leaf d sig k = climbS sig[k] leaf k (((dgt d k).val : Nat) : Int) 3) := Lib.hid (by simp [recF, List.getD, hks])
      have h16b : Hid ((recF leaf d sig k).length = 16) := Lib.hid (by rw [hre.out]; exact climbS_len _ _ _ _ _ hx16.out)
      clear hc hu hcs
      have HC3 : Hid (∀ W, All W [.own B4 23 16 A' k c' (hvs ((list68 (recF leaf d sig)).take k)).flatten, .cells (w.heap.size + 1) 23 (List.replicate 16 (.int .u8 0)), .cells w.heap.size 27 (d.map bv), .low (.rd B4 1 (some ad) 68 ((digitsS d).map fv)), .low (.els B 16 (some aq) 68 (hvs sig)), .kept w w.heap.size] → W.cell? (ad.add k) = some (.int .i64 (((dgt d k).val : Nat) : Int))) := Lib.hid (fun W hW => by
        obtain ⟨ad2, u, he, _, hu2, hc⟩ := Rd.cell (hW.2.2.2.1.1 : Rd W B4 1 _ 68 _) hlt
        injection he with he; subst he
        rw [dgt_at d hdl.out k hlt] at hu2
        obtain rfl := Option.some.inj hu2
        exact hc)
      have HC2 : Hid (∀ W, All W [.own B4 23 16 A' k c' (hvs ((list68 (recF leaf d sig)).take k)).flatten, .cells (w.heap.size + 1) 23 (List.replicate 16 (.int .u8 0)), .cells w.heap.size 27 (d.map bv), .low (.rd B4 1 (some ad) 68 ((digitsS d).map fv)), .low (.els B 16 (some aq) 68 (hvs sig)), .kept w w.heap.size] → ∀ j u, (sig[k].map bv)[j]? = some u → W.cell? ((aq.add (k * 16)).add j) = some u) := Lib.hid (fun W hW => by
        obtain ⟨aq2, he, _, hcs⟩ := Els.half (hW.2.2.2.2.1.1 : Els W B 16 _ 68 (hvs sig)) hks
        injection he with he; subst he
        exact hcs)
      have hki : (0 : Int) ≤ (k : Int) := by omega
      have hki2 : (k : Int) < 68 := by omega
      go_wp2
      refine wp_region_hops 13 [21, 22, 23, 24, 25, 26, 27, 28, 29, 30, 31, 32, 33] _
        [.eq (.slice A' k c'), .eq (.slice (some aq) 68 c), .eq (.int .i64 k), .eq (.pointer (some (aq.add (k * 16)))), .eq (.agg (sig[k].map bv).toArray), .eq (.int .i64 leaf), .eq (.int .i64 k), .eq (.slice (some ad) 68 c4), .eq (.int .i64 k), .eq (.pointer (some (ad.add k))), .eq (.int .i64 (((dgt d k).val : Nat) : Int)), .eq (.agg ((recF leaf d sig k).map bv).toArray), .rd 16 1 ((recF leaf d sig k).map bv)]
        (by kernel_rfl) (by kernel_rfl) hI rfl ?hops ?fin
      case hops =>
        refine ⟨?_, ?_, ?_, ?_, ?_, ?_, ?_, ?_, ?_, ?_, ?_, ?_, ?_, trivial⟩
        · intro a W hW hb hd K hK
          have b9 := hb 9 rfl
          go_simp
          exact hK _ _ (World.grownBy.refl _ _) rfl
        · intro a W hW hb hd K hK
          have b2 := hb 2 rfl
          go_simp
          exact hK _ _ (World.grownBy.refl _ _) rfl
        · intro a W hW hb hd K hK
          have b10 := hb 10 rfl
          go_simp
          exact hK _ _ (World.grownBy.refl _ _) rfl
        · intro a W hW hb hd K hK
          have b22 : a.tmps[22]?.getD undef = _ := hd ⟨1, .data⟩ (by simp) rfl
          have b23 : a.tmps[23]?.getD undef = _ := hd ⟨2, .data⟩ (by simp) rfl
          go_simp
          exact hK _ _ (World.grownBy.refl _ _) rfl
        · intro a W hW hb hd K hK
          have b24 : a.tmps[24]?.getD undef = _ := hd ⟨3, .data⟩ (by simp) rfl
          refine wp_load_any 23 (.tmp 24) rfl (aq.add (k * 16)) (by simp [Act.eval, b24]) (sig[k].map bv) _ (HC2.out W hW) Try.underlying23 rfl (by rw [List.length_map, hx16.out]; kernel_rfl) ?_
          exact hK _ _ (World.grownBy.refl _ _) rfl
        · intro a W hW hb hd K hK
          have b0 := hb 0 rfl
          go_simp
          exact hK _ _ (World.grownBy.refl _ _) rfl
        · intro a W hW hb hd K hK
          have b10 := hb 10 rfl
          go_simp
          exact hK _ _ (World.grownBy.refl _ _) rfl
        · intro a W hW hb hd K hK
          have b8 := hb 8 rfl
          go_simp
          exact hK _ _ (World.grownBy.refl _ _) rfl
        · intro a W hW hb hd K hK
          have b10 := hb 10 rfl
          go_simp
          exact hK _ _ (World.grownBy.refl _ _) rfl
        · intro a W hW hb hd K hK
          have b28 : a.tmps[28]?.getD undef = _ := hd ⟨7, .data⟩ (by simp) rfl
          have b29 : a.tmps[29]?.getD undef = _ := hd ⟨8, .data⟩ (by simp) rfl
          go_simp
          exact hK _ _ (World.grownBy.refl _ _) rfl
        · intro a W hW hb hd K hK
          have b30 : a.tmps[30]?.getD undef = _ := hd ⟨9, .data⟩ (by simp) rfl
          have hc3 : W.cell? (ad.add k) = some (.int .i64 (((dgt d k).val : Nat) : Int)) := HC3.out W hW
          go_simp
          exact hK _ _ (World.grownBy.refl _ _) rfl
        · intro a W hW hb hd K hK
          have b25 : a.tmps[25]?.getD undef = _ := hd ⟨4, .data⟩ (by simp) rfl
          have b26 : a.tmps[26]?.getD undef = _ := hd ⟨5, .data⟩ (by simp) rfl
          have b27 : a.tmps[27]?.getD undef = _ := hd ⟨6, .data⟩ (by simp) rfl
          have b31 : a.tmps[31]?.getD undef = _ := hd ⟨10, .data⟩ (by simp) rfl
          go_simp
          refine (refClimb_any W sig[k] leaf k (((dgt d k).val : Nat) : Int) 3 hx16.out).mono ?_
          rintro e w' ⟨rfl, hb'⟩
          rw [← hre.out]
          exact hK _ _ (grown_of_below hb') rfl
        · intro a W hW hb hd K hK
          have b32 : a.tmps[32]?.getD undef = _ := hd ⟨11, .data⟩ (by simp) rfl
          refine wp_lit1 els_half (.tmp 32) rfl ((recF leaf d sig k).map bv) (by simp [Act.eval, b32]) (by rw [List.length_map, h16b.out]) (by decide) ?_
          exact hK _ _ (grown_alloc _ _) ⟨_, _, rfl, (Rd.lit W ((recF leaf d sig k).map bv).toArray _ 1 (by rw [List.size_toArray, List.length_map, h16b.out])).mono (by simp)⟩
      case fin =>
        intro vs W hW hv
        have e0 : vs 0 = _ := hv 0 (by decide)
        obtain ⟨A6, c6, e12, hr6⟩ : ∃ A c, vs 12 = .slice A 1 c ∧ Rd W W.heap.size 16 A 1 ((recF leaf d sig k).map bv) := hv 12 (by decide)
        have hsW : B4 ≤ W.heap.size := (hW.2.2.2.1.2 : B4 ≤ W.heap.size)
        clear hv hI HC2 HC3 hc2
        simp only [putAll, List.drop_succ_cons, List.drop_zero, e0, e12, Act.put, List.setIfInBounds_toArray, List.set_cons_succ, List.set_cons_zero]
        clear e0 e12
        generalize recF leaf d sig k = x at *
        refine wl_app_at els_half hW 0 rfl (.tmp 21) (.tmp 33) rfl B4 _ _ _ _ rfl rfl W.heap.size _ 1 _ (x.map bv) rfl hr6 (bv_one _) (by omega) hsW (by intro g hg _; simp [Apart, Res.apart, Low.rd, Low.els] <;> omega) ?_
        intro A7 c7 w7 hI7 hs7
        go_wp2
        refine ⟨⟨k + 1, A7, c7, by omega, by go_num, rfl, ?_, by first | omega | (simp at hs7; omega)⟩, by simp [intOf]; omega⟩
        rw [hM.out, ← hvs_snoc]
        exact hI7
    · obtain rfl : k = 68 := by omega
      rw [List.take_of_length_le (by rw [list68_len]; omega)] at hI
      have he16 : ∀ x ∈ list68 (recF leaf d sig), x.length = 16 := list68_each _ (fun i hi => by
        have hks : i < sig.length := by rw [HS.out]; exact hi
        rw [show recF leaf d sig i = climbS sig[i] leaf i (((dgt d i).val : Nat) : Int) 3 from by simp [recF, List.getD, hks]]
        exact climbS_len _ _ _ _ _ (H16.out _ (List.getElem_mem hks)))
      have hE : Els wr wr.heap.size 16 A' 68 (hvs (list68 (recF leaf d sig))) := Els.of (hI.1 : Go.Adm.Own wr _ 23 16 A' 68 c' _) (hvs_each he16) (by rw [hvs_len, list68_len])
      have h16 := Lib.hid (recS_len leaf d sig)
      go_wp2_with fail
      refine (refCombine_any wr wr.heap.size A' 68 c' leaf _ hE he16 (Nat.le_refl _) (by decide)).mono ?_
      rintro e w5 ⟨rfl, hb⟩
      have hI5 := ((hI.erase 0).erase 2).call hb
      rw [show combineS leaf (list68 (recF leaf d sig)) = recS leaf d sig from rfl]
      generalize hr : recS leaf d sig = r at *
      have HR := Lib.hid hr
      clear hr hb hI hE he16
      go_wp2_with (refine wl_store_at hI5 0 rfl 23 (.tmp 6) _ rfl (w.heap.size + 1) _ _ (r.map bv) rfl rfl rfl (by rw [List.length_map, h16.out]; rfl) (by rw [List.length_map, h16.out]; kernel_rfl) (bv_one _) (by simp [Apart, Res.apart, Low.parts, Low.els, Low.rd] <;> omega) ?_; intro w9 hI9 hs9)
      refine bodyPost_ret (v := .tuple #[.agg (r.map bv).toArray, .bool true]) ?_ rfl ⟨by rw [HR.out], (hI9.at_ 3 rfl).1⟩
      exact results_row_tmp (p := 6) (q := 7) rfl _ _ (w.heap.size + 1) 23 (r.map bv).toArray (0, 0) _ rfl (hI9.at_ 0 rfl) Try.underlying23 rfl (by rw [List.size_toArray, List.length_map, h16.out]; kernel_rfl)

end Go.Proofs.Ytlnbeglelhdjfaa

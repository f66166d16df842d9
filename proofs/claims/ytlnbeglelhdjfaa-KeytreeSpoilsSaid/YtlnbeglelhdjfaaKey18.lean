/- refVerify. -/
import Derived.Test.YtlnbeglelhdjfaaKey17
import Derived.StillTailTactics
set_option linter.unusedSimpArgs false
set_option linter.unusedVariables false
namespace Go.Proofs.Ytlnbeglelhdjfaa
open Go Go.RowKit Go.Adm

set_option maxRecDepth 100000 in
set_option maxHeartbeats 3200000 in
theorem refVerify_any (w : World) (B : Nat) (h leaf : Int) (root d : List UInt8) (chain path : List (List UInt8)) (Ac : Option Addr) (cc : Nat) (Ap : Option Addr) (cp : Nat) (hr : root.length = 16) (hd : d.length = 32)
    (hc : Els w B 16 Ac chain.length (hvs chain)) (hc16 : ∀ x ∈ chain, x.length = 16) (hp : Els w B 16 Ap path.length (hvs path)) (hp16 : ∀ x ∈ path, x.length = 16) (hB : B ≤ w.heap.size) :
    Calls Try.prog 17 #[.agg (pkCells h root).toArray, .agg (d.map bv).toArray, .agg (sgCells leaf Ac chain.length cc Ap path.length cp).toArray] w fun e w' => e = .returned (.bool (verifyB h leaf root d chain path)) ∧ Below w.heap.size w w' := by
  have hR : All w [.low (.els B 16 Ac chain.length (hvs chain)), .low (.els B 16 Ap path.length (hvs path)), .kept w w.heap.size] := ⟨⟨hc, hB⟩, ⟨hp, hB⟩, ⟨Below.refl _ _, Nat.le_refl _⟩, trivial⟩
  have hrl := Lib.hid hr
  have hdl := Lib.hid hd
  have HC16 := Lib.hid hc16
  have HP16 := Lib.hid hp16
  clear hr hd hc hc16 hp hp16
  go_enter Try.func17, Try.ntmps17
  go_upto_region 1 with (fail)
  refine wp_gen (((hR.new (pkCells h root).toArray 40 rfl rfl).new (d.map bv).toArray 27 (g := w.heap.size + 1) (by simp) rfl).new (sgCells leaf Ac chain.length cc Ap path.length cp).toArray 30 (g := w.heap.size + 1 + 1) (by simp) rfl) ?_
  intro W hW
  go_wp2_with (first | (refine wl_load_at rfl 40 (.tmp 3) rfl w.heap.size _ _ (hW.at_ 2 rfl) rfl _ Try.underlying40 rfl (by rw [pk_len _ _ hrl.out]; kernel_rfl) ?_) | (refine wl_load_at rfl 30 (.tmp 5) rfl (w.heap.size + 1 + 1) _ _ (hW.at_ 0 rfl) rfl _ Try.underlying30 rfl (by kernel_rfl) ?_))
  refine (refShaped_any W root hrl.out leaf Ac chain.length cc Ap path.length cp h).mono ?_
  rintro e V ⟨rfl, hb⟩
  have hV := hW.call hb
  clear hW hb
  cases hs : shapedB h leaf chain.length path.length with
  | false =>
    have hv : Hid (verifyB h leaf root d chain path = false) := Lib.hid (by simp [verifyB, hs])
    clear hs
    go_wp2
    go_ret
    exact ⟨by rw [hv.out]; rfl, (hV.at_ 5 rfl).1⟩
  | true =>
    have hv : Hid (verifyB h leaf root d chain path = decide (pathN (recS leaf d chain) leaf.toNat path path.length = root)) := Lib.hid (by simp [verifyB, hs])
    obtain ⟨⟨h0, h6⟩, hl0, hl1, hc68, hph⟩ := (shapedB_iff h leaf chain.length path.length).1 hs
    obtain ⟨kh, rfl⟩ := Int.eq_ofNat_of_zero_le h0
    obtain ⟨kl, rfl⟩ := Int.eq_ofNat_of_zero_le hl0
    rw [Int.toNat_natCast] at hl1
    have hkl : kl < 2 ^ kh := by omega
    have hp64 := (pow_le64 kh (by omega)).2
    have hpl : path.length ≤ 6 := by omega
    have hkl64 : kl < 64 := by omega
    rw [Int.toNat_natCast] at hv
    have HC68 := Lib.hid hc68
    have cc1 : V.cell? ⟨w.heap.size + 1 + 1, 0, none⟩ = some (.int .i64 kl) := Cells.cell (hV.at_ 0 rfl) (i := 0) (by simp [sgCells])
    have cc3 : V.cell? ⟨w.heap.size + 1 + 1, 1, none⟩ = some (.slice Ac chain.length cc) := Cells.cell (hV.at_ 0 rfl) (i := 1) (by simp [sgCells])
    clear hs h0 h6 hl0 hl1 hph hkl hp64 hc68
    go_wp2_with (refine wl_load_at rfl 27 (.tmp 4) rfl (w.heap.size + 1) _ _ (hV.at_ 1 rfl) rfl _ Try.underlying27 rfl (by rw [List.length_map, hdl.out]; kernel_rfl) ?_)
    have hE := (hV.at_ 3 rfl).1
    have hE' : Els V B 16 Ac 68 (hvs chain) := by rw [← HC68.out]; exact hE
    rw [HC68.out]
    refine (refRecover_any V B Ac cc kl d chain hE' HC16.out hdl.out (by have := (hV.at_ 3 rfl).2; exact this)).mono ?_
    rintro e V2 ⟨rfl, hb2⟩
    have hV2 := hV.call hb2
    have h16 := Lib.hid (recS_len kl d chain)
    have hlw := Cells.lt (hV2.at_ 0 rfl)
    clear hV hE hE' cc1 cc3 hb2
    generalize hx0 : recS (kl : Int) d chain = x0 at *
    have HX0 := Lib.hid hx0
    clear hx0
    go_wp2_with (refine wl_store_at (hV2.new _ _ rfl rfl) 0 rfl 23 (.tmp 7) _ rfl V2.heap.size _ _ (x0.map bv) rfl rfl rfl (by rw [List.length_map, h16.out]; rfl) (by rw [List.length_map, h16.out]; kernel_rfl) (bv_one _) (by simp [Apart, Res.apart, Low.els] <;> omega) ?_; intro w5 hI5 hs5; have cc5 : w5.cell? ⟨w.heap.size + 1 + 1, 0, none⟩ = some (.int .i64 kl) := Cells.cell (hI5.at_ 1 rfl) (i := 0) (by simp [sgCells]); have cc6 : w5.cell? ⟨w.heap.size + 1 + 1, 2, none⟩ = some (.slice Ap path.length cp) := Cells.cell (hI5.at_ 1 rfl) (i := 2) (by simp [sgCells]))
    clear hV2 hs5 cc5 cc6
    go_loopw [9, 10] (fun i j wr => ∃ k iv : Nat, k ≤ path.length ∧ j = .int .i64 k ∧ i = .int .i64 iv ∧ Hid (iv = kl / 2 ^ k) ∧ iv < 64 ∧ All wr [.cells V2.heap.size 23 ((pathN x0 kl path k).map bv), .cells (w.heap.size + 1 + 1) 30 (sgCells kl Ac chain.length cc Ap path.length cp), .cells (w.heap.size + 1) 27 (d.map bv), .cells w.heap.size 40 (pkCells kh root), .low (.els B 16 Ac chain.length (hvs chain)), .low (.els B 16 Ap path.length (hvs path)), .kept w w.heap.size]) (fun _ j _ => path.length - (intOf j).toNat)
    case atStart => exact ⟨0, kl, by omega, rfl, rfl, Lib.hid (by simp), hkl64, hI5⟩
    case round =>
      obtain ⟨k, iv, hk, rfl, rfl, HI, hiv, hI⟩ := hrel
      have hz16 := Lib.hid (pathN_len x0 kl path h16.out k)
      by_cases hlt : k < path.length
      · obtain ⟨ad, rfl, _, hcs⟩ := Els.half (hI.2.2.2.2.2.1.1 : Els wr B 16 _ path.length (hvs path)) hlt
        have HCS := Lib.hid hcs
        have hy16 : Hid (path[k].length = 16) := Lib.hid (HP16.out _ (List.getElem_mem hlt))
        have hnx : Hid (pathN x0 kl path (k + 1) = pathF k iv (pathN x0 kl path k) path[k]) := Lib.hid (by rw [pathN, ← HI.out]; simp [List.getD, hlt])
        have hdv : Hid (iv / 2 = kl / 2 ^ (k + 1)) := Lib.hid (by rw [HI.out, Nat.pow_succ, Nat.div_div_eq_div_mul])
        have hlw2 := Cells.lt (hI.at_ 0 rfl)
        clear hcs
        generalize pathN x0 kl path k = z at *
        generalize path[k] = y at *
        have hq : ((iv : Int) / 2) = ((iv / 2 : Nat) : Int) := by omega
        by_cases hpar : iv % 2 = 0
        · have dp : ((iv : Int) % 2 == 0) = true := by simp; omega
          have hpf : Hid (pathF k iv z y = joinS (k : Nat) ((iv : Int) / 2) z y) := Lib.hid (by unfold pathF; rw [if_pos hpar, hq])
          clear hpar hq
          have cp0 : wr.cell? ⟨w.heap.size + 1 + 1, 2, none⟩ = some (.slice (some ad) path.length cp) := Cells.cell (hI.at_ 1 rfl) (i := 2) (by simp [sgCells])
          have wk0 : (0 : Int) ≤ (k : Int) := by omega
          have wk1 : (k : Int) < (path.length : Int) := by omega
          have wk2 : ((k : Int)).toNat = k := by omega
          have wq : IntKind.i64.wrap ((iv : Int) / 2) = (iv : Int) / 2 := IntWalk.i64_in _ (by omega)
          go_wp2
          have hD := hI.drew
          refine wp_region_still_tail 9 (by kernel_rfl) (by kernel_rfl) ?_
          simp only [List.take_succ_cons, List.take_zero, List.drop_succ_cons, List.drop_zero]
          repeat first | (refine still_load_all rfl 23 _ rfl V2.heap.size 0 rfl (z.map bv) _ (hD.at_ 0 rfl).range Try.underlying23 rfl (by rw [List.length_map, hz16.out]; kernel_rfl) ?_) | (refine still_load_any rfl 23 _ rfl (ad.add (k * 16)) rfl (y.map bv) _ HCS.out Try.underlying23 rfl (by rw [List.length_map, hy16.out]; kernel_rfl) ?_) | still_step
          refine wpStill_nil ?_
          change wpList _ _ _ _ _ wr.drew
          have hlw3 := Cells.lt (hD.at_ 0 rfl)
          clear hI cp0 HCS
          generalize wr.drew = w6 at *
          go_wp2_with fail
          refine (refJoin_any w6 z y k ((iv : Int) / 2) hz16.out hy16.out).mono ?_
          rintro e w7 ⟨rfl, hb7⟩
          have hI7 := hD.call hb7
          have hj16 := Lib.hid (joinS_len (k : Nat) ((iv : Int) / 2) z y)
          rw [← hpf.out] at hj16 ⊢
          clear hD hb7
          generalize pathF k iv z y = q at *
          go_wp2_with (refine wl_store_at hI7 0 rfl 23 (.tmp 7) _ rfl V2.heap.size _ _ (q.map bv) rfl rfl rfl (by rw [List.length_map, hj16.out, List.length_map, hz16.out]) (by rw [List.length_map, hj16.out]; kernel_rfl) (bv_one _) (by simp [Apart, Res.apart, Low.els] <;> omega) ?_; intro w9 hI9 hs9)
          exact ⟨⟨k + 1, iv / 2, by omega, by go_num, congrArg (Value.int .i64) (by omega), hdv, by omega, by rw [hnx.out]; exact hI9⟩, by simp [intOf]; omega⟩
        · have dp : ((iv : Int) % 2 == 0) = false := by simp; omega
          have hpf : Hid (pathF k iv z y = joinS (k : Nat) ((iv : Int) / 2) y z) := Lib.hid (by unfold pathF; rw [if_neg hpar, hq])
          clear hpar hq
          have cp0 : wr.cell? ⟨w.heap.size + 1 + 1, 2, none⟩ = some (.slice (some ad) path.length cp) := Cells.cell (hI.at_ 1 rfl) (i := 2) (by simp [sgCells])
          have wk0 : (0 : Int) ≤ (k : Int) := by omega
          have wk1 : (k : Int) < (path.length : Int) := by omega
          have wk2 : ((k : Int)).toNat = k := by omega
          have wq : IntKind.i64.wrap ((iv : Int) / 2) = (iv : Int) / 2 := IntWalk.i64_in _ (by omega)
          go_wp2
          have hD := hI.drew
          refine wp_region_still_tail 9 (by kernel_rfl) (by kernel_rfl) ?_
          simp only [List.take_succ_cons, List.take_zero, List.drop_succ_cons, List.drop_zero]
          repeat first | (refine still_load_all rfl 23 _ rfl V2.heap.size 0 rfl (z.map bv) _ (hD.at_ 0 rfl).range Try.underlying23 rfl (by rw [List.length_map, hz16.out]; kernel_rfl) ?_) | (refine still_load_any rfl 23 _ rfl (ad.add (k * 16)) rfl (y.map bv) _ HCS.out Try.underlying23 rfl (by rw [List.length_map, hy16.out]; kernel_rfl) ?_) | still_step
          refine wpStill_nil ?_
          change wpList _ _ _ _ _ wr.drew
          have hlw3 := Cells.lt (hD.at_ 0 rfl)
          clear hI cp0 HCS
          generalize wr.drew = w6 at *
          go_wp2_with fail
          refine (refJoin_any w6 y z k ((iv : Int) / 2) hy16.out hz16.out).mono ?_
          rintro e w7 ⟨rfl, hb7⟩
          have hI7 := hD.call hb7
          have hj16 := Lib.hid (joinS_len (k : Nat) ((iv : Int) / 2) y z)
          rw [← hpf.out] at hj16 ⊢
          clear hD hb7
          generalize pathF k iv z y = q at *
          go_wp2_with (refine wl_store_at hI7 0 rfl 23 (.tmp 7) _ rfl V2.heap.size _ _ (q.map bv) rfl rfl rfl (by rw [List.length_map, hj16.out, List.length_map, hz16.out]) (by rw [List.length_map, hj16.out]; kernel_rfl) (bv_one _) (by simp [Apart, Res.apart, Low.els] <;> omega) ?_; intro w9 hI9 hs9)
          exact ⟨⟨k + 1, iv / 2, by omega, by go_num, congrArg (Value.int .i64) (by omega), hdv, by omega, by rw [hnx.out]; exact hI9⟩, by simp [intOf]; omega⟩
      · have hkp : Hid (pathN x0 kl path k = pathN x0 kl path path.length) := Lib.hid (by rw [show k = path.length from by omega])
        have hrt : ∀ j u, (root.map bv)[j]? = some u → wr.cell? ((⟨w.heap.size, 1, none⟩ : Addr).add j) = some u := fun j u hu => by
          have := (Cells.rd (hI.at_ 3 rfl : Cells wr w.heap.size _ (pkCells kh root)) (o := 1) (n := 16) (by simp [pkCells, hrl.out])).at_ (by omega)
          obtain ⟨ad, e, _, hc⟩ := this
          injection e with e
          subst e
          refine hc j u ?_
          rw [show ((pkCells (kh : Int) root).drop 1).take 16 = root.map bv from by show (root.map bv).take 16 = _; rw [List.take_of_length_le (by rw [List.length_map, hrl.out]; omega)]]
          exact hu
        have HRT := Lib.hid hrt
        have hvv : Hid (verifyB (kh : Int) (kl : Int) root d chain path = decide (pathN x0 kl path k = root)) := Lib.hid (by rw [hv.out, hkp.out])
        have cp0 : wr.cell? ⟨w.heap.size + 1 + 1, 2, none⟩ = some (.slice Ap path.length cp) := Cells.cell (hI.at_ 1 rfl) (i := 2) (by simp [sgCells])
        have heq := fun W => eq_half W (pathN x0 kl path k) root hz16.out hrl.out
        clear hrt hkp
        generalize pathN x0 kl path k = z at *
        go_wp2_with (first | (refine wl_load_at rfl 23 (.tmp 7) rfl V2.heap.size _ _ (hI.at_ 0 rfl) rfl _ Try.underlying23 rfl (by rw [List.length_map, hz16.out]; kernel_rfl) ?_) | (refine wl_load_any rfl 23 (.tmp 59) rfl ⟨w.heap.size, 1, none⟩ rfl (root.map bv) _ HRT.out Try.underlying23 rfl (by rw [List.length_map, hrl.out]; kernel_rfl) ?_))
        go_ret
        exact ⟨by rw [hvv.out]; rfl, (hI.at_ 6 rfl).1⟩

end Go.Proofs.Ytlnbeglelhdjfaa

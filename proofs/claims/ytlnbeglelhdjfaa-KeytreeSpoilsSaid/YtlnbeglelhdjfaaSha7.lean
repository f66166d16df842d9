/- SHA-256: the reference's Sum. -/
import Derived.Test.YtlnbeglelhdjfaaSha5
import Derived.Test.YtlnbeglelhdjfaaSha6
import Derived.Test.YtlnbeglelhdjfaaGen4
import Derived.Test.YtlnbeglelhdjfaaGen2
set_option linter.unusedSimpArgs false
set_option linter.unusedVariables false
namespace Go.Proofs.Ytlnbeglelhdjfaa
open Go Go.RowKit Go.Adm

attribute [local irreducible] KS
theorem els_u8 : ElemOf Try.prog 64 5 (.int .u8 0) 1 1 := ElemOf.mk' Try.underlying64 (by kernel_rfl) rfl (by decide) (by decide)

set_option maxRecDepth 100000 in
set_option maxHeartbeats 1600000 in
theorem refSum_any (w : World) (B : Nat) (A : Option Addr) (n c : Nat) (b : List UInt8) (h : Rd w B 1 A n (b.map bv)) (hB : B ≤ w.heap.size) (hn : n ≤ 140737488355000) :
    Calls Try.prog 35 #[.slice A n c] w fun e w' => e = .returned (.agg ((shaS b).map bv).toArray) ∧ Below w.heap.size w w' := by
  have hbl : b.length = n := by have := h.len; simpa using this
  have HBL := Lib.hid hbl
  have H := Lib.hid h
  clear h hbl
  go_enter Try.func35, Try.ntmps35
  have OL : ∀ o, Go.Adm.Own ((w.alloc o).alloc (.cells #[] 5)) (w.heap.size + 1) 5 1 (some ⟨w.heap.size + 1, 0, none⟩) 0 0 [] := fun o => by
    have h1 := Go.Adm.Own.lit (base := w.heap.size + 1) (e := 5) (size := 1) (w.alloc o) #[] 0 (by simp) (by decide) rfl
    have h2 : (w.alloc o).heap.size = w.heap.size + 1 := by simp
    rw [h2] at h1
    exact h1
  have HOL := Lib.hid OL
  clear OL
  go_wp2_with (at_builtin; first | (refine wl_app _ els_u8 rfl (.tmp 10) _ rfl (w.heap.size + 1) _ _ _ [] rfl (HOL.out _) B A n c (b.map bv) rfl ((H.out.alloc hB _).alloc (by simp; omega) _) (bv_one _) (by omega) (by simp) ?_; intro A1 c1 w1 hown1a hbel1 _; have hown1 := hown1a.cast (Nat.zero_add n) (List.nil_append _); clear hown1a; have hs1 := hbel1.size; simp only [World.alloc, Array.size_push] at hs1) | (refine wl_app _ els_u8 rfl (.tmp 12) _ rfl (w.heap.size + 1) _ _ _ _ rfl (hown1.alloc _) (w1.heap.size + 1) _ 1 1 [bv 128] rfl (Rd.lit w1 _ _ 1 rfl) (bv_one [128]) (by omega) (by simp; omega) ?_; intro A2 c2 w2 hown2 hbel2 _))
  obtain ⟨w0, hR0, hB0, hs0, hB2⟩ : ∃ w0, Cells w0 w.heap.size 27 (List.replicate 32 (.int .u8 0)) ∧ Below w.heap.size w w0 ∧ w0.heap.size = w.heap.size + 1 ∧ Below (w.heap.size + 1) w0 w2 :=
    ⟨_, Cells.new' w _ _ rfl rfl, (Below.refl _ _).alloc (Nat.le_refl _) _, by simp, ((((Below.refl _ _).alloc (by simp) _).trans hbel1).alloc (by omega) _).trans hbel2⟩
  have R0 := Lib.hid hR0
  have R1 := Lib.hid hB0
  have R2 := Lib.hid hs0
  have R3 := Lib.hid hB2
  have R4 := Lib.hid hown2
  clear hR0 hB0 hs0 hB2 hown2 hbel1 hbel2 hown1 hs1 HOL
  go_loopw [3] (fun v wr => ∃ (z L : Nat) (A' : Option Addr) (c' : Nat), z ≤ zpad n ∧ L = n + 1 + z ∧ v = .slice A' L c' ∧ Go.Adm.Own wr (w.heap.size + 1) 5 1 A' L c' ((b ++ 128 :: List.replicate z 0).map bv) ∧ Below (w.heap.size + 1) w0 wr) (fun v _ => n + 1 + zpad n - lenOf v)
  case atStart => exact ⟨0, _, A2, c2, by omega, rfl, rfl, by have := R4.out; rw [List.map_append]; exact this, R3.out⟩
  case round =>
    obtain ⟨z, L, A', c', hz, hL, rfl, hO, hBl⟩ := hrel
    have HO := Lib.hid hO
    have HBl := Lib.hid hBl
    have HL := Lib.hid hL
    have hsz : w.heap.size + 1 ≤ wr.heap.size := by have := hBl.size; have := R2.out; omega
    have hLb : L ≤ 140737488355200 := by unfold zpad at hz; omega
    clear hO hBl hL R4 R3
    by_cases hq : L % 64 = 56
    · have hzz : z = zpad n := by have := HL.out; unfold zpad at hz ⊢; omega
      have HZ := Lib.hid hzz
      have hqb : (((L : Int) % 64) != 56) = false := by simp; omega
      clear hzz hq
      obtain ⟨wo, hwo⟩ : ∃ x, x = wr := ⟨_, rfl⟩
      subst hwo
      go_wp2
      go_loopw [3, 5] (fun v i wr => ∃ (k : Nat) (iv : Int) (L : Nat) (A' : Option Addr) (c' : Nat), k ≤ 8 ∧ Hid (iv = (k : Int) - 1) ∧ i = .int .i64 iv ∧ Hid (L = n + 1 + z + (8 - k)) ∧ L ≤ 140737488355300 ∧ v = .slice A' L c' ∧ Go.Adm.Own wr (w.heap.size + 1) 5 1 A' L c' ((b ++ 128 :: (List.replicate z 0 ++ (lenBytes n).take (8 - k))).map bv) ∧ Below (w.heap.size + 1) w0 wr) (fun _ i _ => (intOf i + 1).toNat)
      case atStart => exact ⟨8, 7, L, A', c', by omega, Lib.hid rfl, rfl, Lib.hid (by have := HL.out; omega), by omega, rfl, by have := HO.out; rw [Nat.sub_self, List.take_zero, List.append_nil]; exact this, HBl.out⟩
      case round =>
        obtain ⟨k, iv, L, A', c', hk, HK, rfl, HL2, hLb2, rfl, hO, hBl⟩ := hrel
        have HO2 := Lib.hid hO
        have HBl2 := Lib.hid hBl
        have hsz : w.heap.size + 1 ≤ wr.heap.size := by have := hBl.size; have := R2.out; omega
        clear hO hBl
        cases k with
        | succ m =>
          obtain rfl : iv = (m : Int) := by have := HK.out; omega
          go_wp2_with (at_builtin; refine wl_app _ els_u8 rfl (.tmp 30) _ rfl (w.heap.size + 1) _ _ _ _ rfl (HO2.out.alloc _) (wr.heap.size + 1) _ 1 1 [.int .u8 ((n : Int) * 8 / 2 ^ (8 * m) % 256)] rfl (Rd.lit wr _ _ 1 rfl) (by intro u hu; simp only [List.mem_singleton] at hu; subst hu; rfl) (by omega) (by simp; omega) ?_; intro A3 c3 w3 hown3 hbel3 _)
          rw [lenByte_mod] at hown3
          go_roundw
          case measure => simp [intOf]
          refine ⟨m, (m : Int) - 1, L + 1, A3, c3, by omega, Lib.hid rfl, rfl, Lib.hid (by have := HL2.out; omega), by have := HL2.out; have := HZ.out; unfold zpad at this; omega, rfl, ?_, HBl2.out.trans (((Below.refl _ _).alloc hsz _).trans hbel3)⟩
          have h1 := pad_len b z (7 - m) n (by omega)
          rw [show 7 - (7 - m) = m from by omega, show 7 - m + 1 = 8 - m from by omega] at h1
          rw [← h1, List.map_append, show 7 - m = 8 - (m + 1) from by omega]
          exact hown3
        | zero =>
          have hd : decide ((0 : Int) ≤ iv) = false := by have := HK.out; simp; omega
          have hPS : Hid (Go.Adm.Own wr (w.heap.size + 1) 5 1 A' L c' ((padS b).map bv)) := Lib.hid (by have := HO2.out; rw [List.take_of_length_le (by rw [lenBytes_len]; omega), HZ.out] at this; unfold padS; rw [HBL.out]; exact this)
          have hPL : Hid (L = 64 * (n / 64 + tailEnd (n % 64) / 64)) := Lib.hid (by have h1 := padS_len b; rw [HBL.out] at h1; rw [← h1]; have h2 := hPS.out.1; rw [List.length_map] at h2; omega)
          have hcap := hPS.out.cap
          have hcap1 := hcap.1
          have hinf : (Try.prog.info? 75).map (·.size) = some (initS.list.map uv).length := by kernel_rfl
          have HINF := Lib.hid hinf
          clear hinf hcap HO HBl HO2 HK
          obtain ⟨wp, hwp⟩ : ∃ x, x = wr := ⟨_, rfl⟩
          subst hwp
          go_wp2_with (refine wl_store_all rfl 75 (.tmp 6) _ rfl wp.heap.size _ _ (initS.list.map uv) rfl (congrArg Value.agg init_vals) (Cells.new' _ _ _ rfl rfl) rfl HINF.out (uv_one _) ?_; intro w4 hc4 hg4 hs4)
          have hb4 : Below wp.heap.size wp w4 := ((Below.refl _ _).alloc (Nat.le_refl _) _).grown hg4 (by simp) (fun k hk => by injection hk with hk; omega)
          have q1 : Hid (Rd w4 wp.heap.size 1 A' L ((padS b).map bv)) := Lib.hid (hPS.out.rd.below hb4 (Nat.le_refl _))
          have q2 := Lib.hid hc4
          have q3 : Hid (Cells w4 w.heap.size 27 (List.replicate 32 (.int .u8 0))) := Lib.hid ((R0.out.below HBl2.out (by omega)).below hb4 (by omega))
          have q4 : Hid (Below w.heap.size w w4) := Lib.hid ((R1.out.trans (HBl2.out.mono (by omega))).trans (hb4.mono (by omega)))
          have q5 : wp.heap.size < w4.heap.size := hc4.lt
          clear hb4 hc4 hg4 hs4 hPS
          go_loopw [7] (fun i wv => ∃ k a : Nat, a ≤ L ∧ i = .int .i64 a ∧ Hid (a = 64 * k) ∧ Rd wv wp.heap.size 1 A' L ((padS b).map bv) ∧ Cells wv wp.heap.size 75 ((absN initS (padS b) k).list.map uv) ∧ Cells wv w.heap.size 27 (List.replicate 32 (.int .u8 0)) ∧ Below w.heap.size w wv ∧ wp.heap.size < wv.heap.size) (fun i _ => L - (intOf i).toNat)
          case atStart => exact ⟨0, 0, by omega, rfl, Lib.hid rfl, q1.out, q2.out, q3.out, q4.out, q5⟩
          case round =>
            obtain ⟨k, a, hk, rfl, HA, h1, h2, h3, h4, h5⟩ := hrel
            have O1 := Lib.hid h1
            have O2 := Lib.hid h2
            have O3 := Lib.hid h3
            have O4 := Lib.hid h4
            clear h1 h2 h3 h4 q1 q2 q3 q4
            by_cases hlt : a < L
            · have ha64 : a + 64 ≤ L := by have := HA.out; have := hPL.out; omega
              have hrd : Rd wr wp.heap.size 1 (A'.map (·.add a)) 64 ((blk (padS b) k).map bv) := by
                have h1 := (O1.out.cut (k := a) (cap := c') (by omega) hcap1).take (k := 64) (by omega)
                rw [Nat.mul_one, Nat.mul_one, ← List.map_drop, ← List.map_take, if_neg (by omega)] at h1
                rw [blk, ← HA.out]
                exact h1
              have HRD := Lib.hid hrd
              have hin8 : (Try.prog.info? 75).map (·.size) = some ((absN initS (padS b) k).list.map uv).length := by kernel_rfl
              have HIN8 := Lib.hid hin8
              clear hrd hin8
              go_wp2
              have wa : IntKind.i64.wrap ((a : Int) + 64) = (a : Int) + 64 := IntWalk.i64_in _ (by omega)
              have wb : (0 : Int) ≤ (a : Int) + 64 := by omega
              have wc : (a : Int) + 64 ≤ (c' : Int) := by omega
              have wd : ((a : Int) + 64).toNat = a + 64 := by omega
              refine wp_region_still_tail 6 (by kernel_rfl) (by kernel_rfl) ?_
              simp only [List.take_succ_cons, List.take_zero, List.drop_succ_cons, List.drop_zero]
              refine still_load_all rfl 75 _ rfl wp.heap.size 0 rfl ((absN initS (padS b) k).list.map uv) _ (O2.out.drew).range Try.underlying75 rfl HIN8.out ?_
              repeat still_step
              refine wpStill_nil ?_
              change wpList _ _ _ _ _ wr.drew
              clear wa wb wc wd
              have r1 := Lib.hid O1.out.drew
              have r2 := Lib.hid O2.out.drew
              have r3 := Lib.hid O3.out.drew
              have r4 : Hid (Below w.heap.size w wr.drew) := Lib.hid (below_drewN' O4.out 1)
              have r5 : Hid (Rd wr.drew wp.heap.size 1 (A'.map (·.add a)) 64 ((blk (padS b) k).map bv)) := Lib.hid HRD.out.drew
              have r6 : wp.heap.size < wr.drew.heap.size := h5
              generalize wr.drew = wd at *
              go_wp2_with fail
              refine (block_any wd wp.heap.size _ _ (blk (padS b) k) (absN initS (padS b) k) r5.out (by omega)).mono ?_
              rintro e w5 ⟨rfl, hb5⟩
              have s1 := Lib.hid (r1.out.below hb5 (by omega))
              have s2 := Lib.hid (r2.out.below hb5 r6)
              have s3 := Lib.hid (r3.out.below hb5 (by omega))
              have s4 := Lib.hid (r4.out.trans (hb5.mono (by omega)))
              have s5 := hb5.size
              clear hb5
              have hsn : absN initS (padS b) (k + 1) = absorbS KS (absN initS (padS b) k) (blk (padS b) k) := by rw [absN]
              generalize absorbS KS (absN initS (padS b) k) (blk (padS b) k) = sn at *
              generalize absN initS (padS b) k = so at *
              have HSN := Lib.hid hsn
              clear hsn
              go_wp2_with (refine wl_store_all rfl 75 (.tmp 6) _ rfl wp.heap.size _ _ (sn.list.map uv) rfl rfl s2.out (by rw [List.length_map, List.length_map, S8.list_len, S8.list_len]) (by rw [List.length_map, S8.list_len]; kernel_rfl) (uv_one _) ?_; intro w6 hc6 hg6 hs6)
              go_roundw
              case measure => simp [intOf]; omega
              exact ⟨k + 1, a + 64, ha64, by go_num, Lib.hid (by have := HA.out; omega), s1.out.keep (fun p hp => hg6.cell_far p (by omega) (by simp; omega)), by rw [HSN.out]; exact hc6, s3.out.grown hg6 (by simp; omega), s4.out.grown hg6 (by omega) (fun k hk => by injection hk with hk; omega), by omega⟩
            · have hkL : k = n / 64 + tailEnd (n % 64) / 64 := by have := HA.out; have := hPL.out; omega
              have U1 : Hid (Cells wr wp.heap.size 75 ((stateS b).list.map uv)) := Lib.hid (by have h1 := O2.out; have h2 := stateS_pad b; rw [HBL.out] at h2; rw [hkL, h2] at h1; exact h1)
              clear hkL O2 O1
              go_wp2
              obtain ⟨wq, hwq⟩ : ∃ x, x = wr := ⟨_, rfl⟩
              subst hwq
              go_loopw [9] (fun i wv => ∃ k : Nat, k ≤ 32 ∧ i = .int .i64 k ∧ Cells wv wq.heap.size 27 ((digT (stateS b) k).map bv) ∧ Below wq.heap.size wq wv) (fun i _ => 32 - (intOf i).toNat)
              case atStart => exact ⟨0, by omega, rfl, Cells.new' _ _ _ rfl (by rw [digT_zero]; rfl), (Below.refl _ _).alloc (Nat.le_refl _) _⟩
              case round =>
                obtain ⟨j, hj, rfl, hC2, hG2⟩ := hrel
                have S0 := Lib.hid hC2
                have SG := Lib.hid hG2
                clear hC2 hG2
                by_cases hlj : j < 32
                · have lc := (U1.out.below SG.out (by omega)).cellD (i := j / 4) (d := uv 0) (by rw [List.length_map, S8.list_len]; omega)
                  rw [getD_uv] at lc
                  obtain ⟨x, hx⟩ : ∃ x, (stateS b).list.getD (j / 4) 0 = x := ⟨_, rfl⟩
                  rw [hx] at lc
                  have lc2 : wr.cell? ⟨wp.heap.size, j / 4, none⟩ = some (.int .u32 x.toNat) := lc
                  have HX := Lib.hid hx
                  clear lc hx
                  have fq := S0.out.frozen j
                  have cq := S0.out.cellD (i := j) (d := undef) (by rw [List.length_map, digT_len _ _ hj]; omega)
                  go_wp2
                  exact ⟨⟨j + 1, by omega, by go_num, dig_step HX.out S0.out hlj, SG.out.setCell (p := ⟨wq.heap.size, j, none⟩) (Nat.le_refl _) _⟩, by simp [intOf]; omega⟩
                · have hj32 : j = 32 := by omega
                  have HDG : Hid (digT (stateS b) j = shaS b) := Lib.hid (by rw [hj32, digT_all]; rfl)
                  have T0 : Hid (Cells wr wq.heap.size 27 ((shaS b).map bv)) := Lib.hid (by rw [← HDG.out]; exact S0.out)
                  have T1 := Lib.hid ((O3.out.below SG.out (by omega)))
                  have T2 := Lib.hid (O4.out.trans (SG.out.mono (by omega)))
                  have hlen : ((shaS b).map bv).length = 32 := by rw [List.length_map, shaS_len]
                  have hin : (Try.prog.info? 27).map (·.size) = some ((shaS b).map bv).length := by rw [hlen]; kernel_rfl
                  have HIN := Lib.hid hin
                  have HLEN := Lib.hid hlen
                  clear hin hlen hj32
                  go_wp2_with (first | (refine wpList_load_mid rfl 27 _ rfl wq.heap.size 0 rfl ((shaS b).map bv) _ T0.out.range Try.underlying27 rfl (by rw [HLEN.out]; kernel_rfl) ?_) | (refine wl_store_all rfl 27 _ _ rfl w.heap.size _ _ ((shaS b).map bv) rfl rfl T1.out (by rw [HLEN.out]; rfl) HIN.out (bv_one _) ?_; intro w9 hc9 hg9 hs9))
                  refine bodyPost_ret (v := .agg ((shaS b).map bv).toArray) ?_ rfl ⟨rfl, T2.out.grown hg9 (by have := T1.out.lt; omega) (fun k hk => by injection hk with hk; omega)⟩
                  exact results_cell_row rfl _ _ w.heap.size 27 ((shaS b).map bv).toArray (0, 0) _ rfl hc9 Try.underlying27 rfl (by rw [List.size_toArray]; exact HIN.out)
    · have hz1 : z + 1 ≤ zpad n := by have := HL.out; unfold zpad at hz ⊢; omega
      go_wp2_with (at_builtin; refine wl_app _ els_u8 rfl (.tmp 19) _ rfl (w.heap.size + 1) _ _ _ _ rfl (HO.out.alloc _) (wr.heap.size + 1) _ 1 1 [bv 0] rfl (Rd.lit wr _ _ 1 rfl) (bv_one [0]) (by omega) (by simp; omega) ?_; intro A3 c3 w3 hown3 hbel3 _)
      refine ⟨⟨z + 1, L + 1, A3, c3, hz1, by rw [HL.out]; omega, rfl, ?_, HBl.out.trans (((Below.refl _ _).alloc hsz _).trans hbel3)⟩, by have := HL.out; simp [lenOf]; omega⟩
      rw [← pad_zero, List.map_append]
      exact hown3
end Go.Proofs.Ytlnbeglelhdjfaa

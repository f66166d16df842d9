/- SHA-256: digest.Sum. -/
import Derived.Test.YtlnbeglelhdjfaaSha4
import Derived.Test.YtlnbeglelhdjfaaGen4
set_option linter.unusedSimpArgs false
set_option linter.unusedVariables false
namespace Go.Proofs.Ytlnbeglelhdjfaa
open Go Go.RowKit Go.Adm

attribute [local irreducible] KS

theorem init_vals : #[Value.int .u32 1779033703, .int .u32 3144134277, .int .u32 1013904242, .int .u32 2773480762, .int .u32 1359893119, .int .u32 2600822924, .int .u32 528734635, .int .u32 1541459225] = (initS.list.map uv).toArray := by rfl

def Z128 : Array Value := (List.replicate 128 (.int .u8 0)).toArray
theorem zero128 (W : World) : (zeroValue 82).run Try.prog W = .ok (.agg Z128) W := by kernel_rfl

theorem slice128 (g a : Nat) (h : a + 64 ≤ 128) (W : World) :
    (Instr.sliceAt 82 (.pointer (some ⟨g, 0, none⟩)) (some (.int .i64 a)) (some (.int .i64 (a + 64))) none).run Try.prog W = .ok (.slice (some ⟨g, a, none⟩) 64 (128 - a)) W := by
  have e1 : Try.prog.arrayLen 82 = 128 := by kernel_rfl
  have e2 : (sizeOf (Try.prog.elem 82)).run Try.prog W = .ok 1 W := by kernel_rfl
  rw [run_sliceAt_array_lh (P := Try.prog) W 82 _ (by kernel_rfl) .i64 .i64 a (a + 64) (by omega) (by omega) (by rw [e1]; omega), e2, e1]
  have e3 : ((a : Int) + 64).toNat = a + 64 := by omega
  simp only [Result.andThen, slicedAt, e3, Int.toNat_natCast, Nat.mul_one]
  rw [if_neg (by omega), add_lit, Nat.zero_add, Nat.add_sub_cancel_left]

def lenOf : Value → Nat
  | .slice _ n _ => n
  | _ => 0

set_option maxRecDepth 100000 in
set_option maxHeartbeats 1600000 in
theorem Sum_any (w : World) (B : Nat) (A : Option Addr) (n c : Nat) (b : List UInt8) (h : Rd w B 1 A n (b.map bv)) (hB : B ≤ w.heap.size) (hn : n ≤ 140737488355328) (hnc : n ≤ c) (hc : c ≤ maxLen) :
    Calls Try.prog 34 #[.slice A n c] w fun e w' => e = .returned (.agg ((shaS b).map bv).toArray) ∧ Below w.heap.size w w' := by
  have hbl : b.length = n := by have := h.len; simpa using this
  have hinf : (Try.prog.info? 76).map (·.size) = some (KS.map uv).length := by rw [List.length_map, KS_len]; kernel_rfl
  have hin8 : (Try.prog.info? 75).map (·.size) = some (initS.list.map uv).length := by kernel_rfl
  have HINF := Lib.hid hinf
  have HIN8 := Lib.hid hin8
  have HBL := Lib.hid hbl
  have H := Lib.hid h
  clear hinf hin8 h hbl
  go_enter Try.func34, Try.ntmps34
  go_wp2_with (refine wl_store_all rfl 75 (.tmp 3) _ rfl (w.heap.size + 1) _ _ (initS.list.map uv) rfl (congrArg Value.agg init_vals) (Cells.new' _ _ _ (by simp) rfl) rfl HIN8.out (uv_one _) ?_; intro w2 hc2 hg2 hs2)
  have hb2 : Below w.heap.size w w2 := (((Below.refl _ _).alloc (Nat.le_refl _) _).alloc (by simp) _).grown hg2 (by simp; omega) (fun k hk => by injection hk with hk; omega)
  have hR2 : Cells w2 w.heap.size 27 (List.replicate 32 (.int .u8 0)) := by
    refine Cells.grown ?_ hg2 (by simp)
    refine Cells.alloc ?_ _
    exact Cells.new' w _ _ rfl rfl
  have hs2' : w.heap.size + 2 ≤ w2.heap.size := Nat.le_of_eq (by rw [hs2]; simp)
  clear hg2 hs2
  refine (rounds_any w2).mono ?_
  rintro e w3 ⟨rfl, hb3⟩
  have hc3 := hc2.below hb3 (by omega)
  have hR3 := hR2.below hb3 (by omega)
  have hB3 := hb2.trans (hb3.mono hb2.size)
  have hs3 := hb3.size
  clear hb2 hb3 hc2 hR2
  go_wp2_with (refine wl_store_all rfl 76 _ _ rfl w3.heap.size _ _ (KS.map uv) rfl rfl (Cells.new _ _ _) (by rw [List.length_map, KS_len]; rfl) HINF.out (uv_one _) ?_; intro w4 hc4 hg4 hs4)
  have hb4 : Below w3.heap.size w3 w4 := ((Below.refl _ _).alloc (Nat.le_refl _) _).grown hg4 (by simp) (fun k hk => by injection hk with hk; omega)
  have hs4' : w3.heap.size < w4.heap.size := Nat.lt_of_lt_of_eq (by simp) hs4.symm
  clear hg4 hs4
  have q1 := Lib.hid (hc3.below hb4 (by omega))
  have q2 := Lib.hid (hR3.below hb4 (by omega))
  have q3 := Lib.hid hc4
  have q4 := Lib.hid (hB3.trans (hb4.mono (by omega)))
  clear hb4 hc3 hR3 hc4 hB3
  have H4 := Lib.hid (H.out.below q4.out hB)
  go_loopw [0] (fun v wr => ∃ (m : Nat) (A' : Option Addr) (c' : Nat), 64 * m ≤ n ∧ v = .slice A' (n - 64 * m) c' ∧ n - 64 * m ≤ c' ∧ c' ≤ maxLen ∧ Rd wr B 1 A' (n - 64 * m) ((b.drop (64 * m)).map bv) ∧ Cells wr (w.heap.size + 1) 75 ((absN initS b m).list.map uv) ∧ Cells wr w3.heap.size 76 (KS.map uv) ∧ Cells wr w.heap.size 27 (List.replicate 32 (.int .u8 0)) ∧ Below w.heap.size w wr ∧ w3.heap.size < wr.heap.size) (fun v _ => lenOf v)
  case atStart => exact ⟨0, A, c, by omega, rfl, by omega, hc, H4.out, q1.out, q3.out, q2.out, q4.out, hs4'⟩
  case round =>
    obtain ⟨m, A', c', hm, rfl, hcl, hcb, hrd, hst, hks, hres, hbel, hsz⟩ := hrel
    have K1 := Lib.hid hrd
    have K2 := Lib.hid hst
    have K3 := Lib.hid hks
    have K4 := Lib.hid hres
    have K5 := Lib.hid hbel
    clear hrd hst hks hres hbel q1 q2 q3 q4 H4
    have hsw : w.heap.size ≤ wr.heap.size := by omega
    by_cases hlt : 64 ≤ n - 64 * m
    · have hd : decide ((64 : Int) ≤ ((n - 64 * m : Nat) : Int)) = true := by simp; omega
      generalize hN : n - 64 * m = N at *
      have HN := Lib.hid hN
      clear hN
      have htk : Rd wr B 1 A' 64 ((blk b m).map bv) := by
        have := K1.out.take hlt
        rw [Nat.mul_one, ← List.map_take] at this
        exact this
      have HTK := Lib.hid htk
      clear htk
      go_wp2_with fail
      refine (absorb_any wr B (w.heap.size + 1) w3.heap.size A' c' (blk b m) (absN initS b m) KS _ _ K2.out K3.out KS_len (by omega) HTK.out (by omega)).mono ?_
      rintro e w5 ⟨rfl, hst5, hg5⟩
      have hks5 := K3.out.grown hg5 (by simp; omega)
      have hres5 := K4.out.grown hg5 (by simp)
      have hbel5 := K5.out.grown hg5 hsw (fun k hk => by injection hk with hk; omega)
      have hrd5 : Rd w5 B 1 A' N ((b.drop (64 * m)).map bv) := K1.out.keep fun p hp => hg5.cell_far p (by omega) (by simp; omega)
      have hcut := hrd5.cut (k := 64) hlt hcl
      have hs5 := hg5.size
      have L1 := Lib.hid hst5
      have L2 := Lib.hid hks5
      have L3 := Lib.hid hres5
      have L4 := Lib.hid hbel5
      have L5 := Lib.hid hcut
      clear hst5 hks5 hres5 hbel5 hrd5 hcut hg5
      go_wp2
      have eN : n - 64 * (m + 1) = N - 64 := by have := HN.out; omega
      have eL : (b.drop (64 * m)).drop 64 = b.drop (64 * (m + 1)) := by rw [List.drop_drop]; congr 1
      refine ⟨⟨m + 1, _, _, by have := HN.out; omega, by rw [eN], by rw [eN]; omega, by omega, ?_, L1.out, L2.out, L3.out, L4.out, by omega⟩, by simp [lenOf]; omega⟩
      rw [eN]
      have := L5.out
      rw [Nat.mul_one, ← List.map_drop, eL] at this
      exact this
    · have hN : n - 64 * m < 64 := by omega
      have hd : decide ((64 : Int) ≤ ((n - 64 * m : Nat) : Int)) = false := by simp; omega
      have hmq : m = n / 64 := by omega
      have hNr : n - 64 * m = n % 64 := by omega
      have HMQ := Lib.hid hmq
      clear hlt
      generalize hNN : n - 64 * m = N at *
      have HNR := Lib.hid hNr
      clear hNN hmq hNr
      have hz := zero128
      have HRL : Hid ((b.drop (64 * m)).length = N) := Lib.hid (by have := K1.out.len; simpa using this)
      have HTS : Hid (∀ E, N + 9 ≤ E → E ≤ 128 → ((((List.replicate 128 (Value.int .u8 0)).take 0) ++ ((b.drop (64 * m)).map bv ++ (List.replicate 128 (Value.int .u8 0)).drop (0 + N))).set N (Value.int .u8 128)) = (tailT (b.drop (64 * m)) E n 0).map bv) := Lib.hid (fun E h1 h2 => by have := tailT_start (b.drop (64 * m)) E n (by rw [HRL.out]; exact h1) h2; rw [HRL.out] at this; exact this)
      have hbr : (decide ((56 : Int) ≤ (N : Int)) = true ∧ Hid (tailEnd N = 128 ∧ 56 ≤ N)) ∨ (decide ((56 : Int) ≤ (N : Int)) = false ∧ Hid (tailEnd N = 64 ∧ N < 56)) := by
        rcases Nat.lt_or_ge N 56 with h | h
        · exact Or.inr ⟨by simp; omega, Lib.hid ⟨by unfold tailEnd; rw [if_neg (by omega)], h⟩⟩
        · exact Or.inl ⟨by simp; omega, Lib.hid ⟨by unfold tailEnd; rw [if_pos h], h⟩⟩
      have HNN : Hid (N = n - 64 * m) := Lib.hid (by have := HNR.out; have := HMQ.out; omega)
      obtain ⟨hd5, HTE⟩ | ⟨hd5, HTE⟩ := hbr
      all_goals (
        go_wp2_with (refine wl_copy rfl _ _ _ _ rfl 5 Try.underlying64 (by kernel_rfl) wr.heap.size 0 128 128 82 (List.replicate 128 (.int .u8 0)) ((b.drop (64 * m)).map bv) B A' N c' rfl rfl (Cells.new' wr _ _ rfl rfl) (K1.out.alloc (by omega) _) (by omega) (by simp; omega) (bv_one _) ?_; intro w6 hc6 hb6; have f6 := hc6.frozen N; have g6 := hc6.cellD (i := N) (d := undef) (by simp; omega))
        have hc7 := hc6.store N (.int .u8 128)
        have hb7 := (((Below.refl wr.heap.size wr).alloc (Nat.le_refl _) _).trans hb6).setCell (p := ⟨wr.heap.size, N, none⟩) (u := .int .u8 128) (Nat.le_refl _)
        have hs7 : wr.heap.size < (w6.setCell ⟨wr.heap.size, N, none⟩ (.int .u8 128)).heap.size := hc7.lt
        rw [HTS.out (tailEnd N) (by have := HTE.out; omega) (by have := HTE.out; omega)] at hc7
        generalize w6.setCell ⟨wr.heap.size, N, none⟩ (.int .u8 128) = w7 at *
        have M1 := Lib.hid hc7
        have M2 := Lib.hid hb7
        clear hc7 hb7 hc6 hb6 f6 g6 hz
        obtain ⟨wo, hwo⟩ : ∃ x, x = wr := ⟨_, rfl⟩
        subst hwo
        go_loopw [35] (fun i wv => ∃ k : Nat, k ≤ 8 ∧ i = .int .i64 k ∧ Cells wv wo.heap.size 82 ((tailT (b.drop (64 * m)) (tailEnd N) n k).map bv) ∧ Below wo.heap.size wo wv) (fun i _ => 8 - (intOf i).toNat)
        case atStart => exact ⟨0, by omega, rfl, M1.out, M2.out⟩
        case round =>
          obtain ⟨k, hk, rfl, hC, hG⟩ := hrel
          have HC := Lib.hid hC
          have HG := Lib.hid hG
          clear hC hG
          by_cases hlt : k < 8
          · have hlen := tailT_len (b.drop (64 * m)) (tailEnd N) n k hk (by have := HTE.out; have := HRL.out; omega) (by have := HTE.out; omega)
            have HL := Lib.hid hlen
            clear hlen
            have fq := HC.out.frozen (tailEnd N - 1 - k)
            have cq := HC.out.cellD (i := tailEnd N - 1 - k) (d := undef) (by rw [List.length_map, HL.out]; have := HTE.out; omega)
            rw [HTE.out.1] at fq cq
            go_wp2
            exact ⟨⟨k + 1, by omega, by go_num, tail_step HC.out hlt (by have := HTE.out; have := HRL.out; omega) (by have := HTE.out; omega), HG.out.setCell (p := ⟨wo.heap.size, _, none⟩) (Nat.le_refl _) _⟩, by simp [intOf]; omega⟩
          · have hk8 : k = 8 := by omega
            have hsz8 := HC.out.lt
            obtain ⟨wp, hwp⟩ : ∃ x, x = wr := ⟨_, rfl⟩
            subst hwp
            have HST : Hid (absN (absN initS b m) (tailT (b.drop (64 * m)) (tailEnd N) n k) (tailEnd N / 64) = stateS b) := Lib.hid (by rw [hk8]; have h1 := stateS_of b n m HBL.out HMQ.out; rw [← HNR.out] at h1; exact h1)
            have HTL : Hid ((tailT (b.drop (64 * m)) (tailEnd N) n k).length = 128) := Lib.hid (tailT_len (b.drop (64 * m)) (tailEnd N) n k (by omega) (by have := HTE.out; have := HRL.out; omega) (by have := HTE.out; omega))
            generalize tailT (b.drop (64 * m)) (tailEnd N) n k = T at *
            clear hk8
            have N1 := Lib.hid (K2.out.below HG.out (by omega))
            have N2 := Lib.hid (K3.out.below HG.out (by omega))
            have N3 := Lib.hid (K4.out.below HG.out (by omega))
            have N4 := Lib.hid (K5.out.trans (HG.out.mono (by omega)))
            clear K1 K2 K3 K4 K5 M1 M2 HTS
            go_wp2
            go_loopw [9] (fun i wv => ∃ k a : Nat, a ≤ tailEnd N ∧ i = .int .i64 a ∧ a = 64 * k ∧ Cells wv wo.heap.size 82 (T.map bv) ∧ Cells wv (w.heap.size + 1) 75 ((absN (absN initS b m) T k).list.map uv) ∧ Cells wv w3.heap.size 76 (KS.map uv) ∧ Cells wv w.heap.size 27 (List.replicate 32 (.int .u8 0)) ∧ Below w.heap.size w wv ∧ wo.heap.size < wv.heap.size) (fun i _ => 128 - (intOf i).toNat)
            case atStart => exact ⟨0, 0, by omega, rfl, rfl, HC.out, N1.out, N2.out, N3.out, N4.out, hsz8⟩
            case round =>
              obtain ⟨k, a, hk, rfl, ha, hC, h1, h2, h3, h4, h5⟩ := hrel
              have HA := Lib.hid ha
              have O0 := Lib.hid hC
              have O1 := Lib.hid h1
              have O2 := Lib.hid h2
              have O3 := Lib.hid h3
              have O4 := Lib.hid h4
              clear hC h1 h2 h3 h4 ha
              by_cases hlt : a < tailEnd N
              · have hlt2 := hlt
                rw [HTE.out.1] at hlt2
                have hk2 : a + 64 ≤ tailEnd N := by have := HTE.out; have := HA.out; omega
                have HK2 := Lib.hid hk2
                have hrd : Rd wr (wo.heap.size + 1) 1 (some ⟨wo.heap.size, a, none⟩) 64 ((blk T k).map bv) := by
                  have := O0.out.rd (o := a) (n := 64) (by rw [List.length_map, HTL.out]; have := HTE.out; omega)
                  rw [HA.out] at this ⊢
                  rw [blk, List.map_take, List.map_drop]
                  exact this
                have HRD := Lib.hid hrd
                clear hrd
                have hk3 : a + 64 ≤ 128 := by have := HTE.out; omega
                have hsl := fun W => slice128 wo.heap.size a hk3 W
                go_wp2_with fail
                refine (absorb_any wr (wo.heap.size + 1) (w.heap.size + 1) w3.heap.size (some ⟨wo.heap.size, a, none⟩) _ (blk T k) (absN (absN initS b m) T k) KS _ _ O1.out O2.out KS_len (by omega) HRD.out (by omega)).mono ?_
                rintro e w5 ⟨rfl, hst5, hg5⟩
                have p0 := Lib.hid (O0.out.grown hg5 (by simp; omega))
                have p1 := Lib.hid hst5
                have p2 := Lib.hid (O2.out.grown hg5 (by simp; omega))
                have p3 := Lib.hid (O3.out.grown hg5 (by simp))
                have p4 := Lib.hid (O4.out.grown hg5 (by omega) (fun k hk => by injection hk with hk; omega))
                have hs5 := hg5.size
                clear hst5 hg5
                go_wp2
                exact ⟨⟨k + 1, a + 64, by have := HK2.out; omega, by go_num, by have := HA.out; omega, p0.out, p1.out, p2.out, p3.out, p4.out, by omega⟩, by simp [intOf]; omega⟩
              · have hlt2 := hlt
                rw [HTE.out.1] at hlt2
                have hks : k = tailEnd N / 64 := by have := HA.out; have := HTE.out; omega
                have R1 : Hid (Cells wr (w.heap.size + 1) 75 ((stateS b).list.map uv)) := Lib.hid (by have h1 := O1.out; rw [hks, HST.out] at h1; exact h1)
                clear hks O1
                go_wp2
                obtain ⟨wq, hwq⟩ : ∃ x, x = wr := ⟨_, rfl⟩
                subst hwq
                go_loopw [59] (fun i wv => ∃ k : Nat, k ≤ 32 ∧ i = .int .i64 k ∧ Cells wv wq.heap.size 27 ((digT (stateS b) k).map bv) ∧ Below wq.heap.size wq wv) (fun i _ => 32 - (intOf i).toNat)
                case atStart => exact ⟨0, by omega, rfl, Cells.new' _ _ _ rfl (by rw [digT_zero]; rfl), (Below.refl _ _).alloc (Nat.le_refl _) _⟩
                case round =>
                  obtain ⟨j, hj, rfl, hC2, hG2⟩ := hrel
                  have S0 := Lib.hid hC2
                  have SG := Lib.hid hG2
                  clear hC2 hG2
                  by_cases hlj : j < 32
                  · have lc := (R1.out.below SG.out (by omega)).cellD (i := j / 4) (d := uv 0) (by rw [List.length_map, S8.list_len]; omega)
                    rw [getD_uv] at lc
                    obtain ⟨x, hx⟩ : ∃ x, (stateS b).list.getD (j / 4) 0 = x := ⟨_, rfl⟩
                    rw [hx] at lc
                    have lc2 : wr.cell? ⟨w.heap.size + 1, j / 4, none⟩ = some (.int .u32 x.toNat) := lc
                    have HX := Lib.hid hx
                    clear lc hx
                    have fq := S0.out.frozen j
                    have cq := S0.out.cellD (i := j) (d := undef) (by rw [List.length_map, digT_len _ _ hj]; omega)
                    go_wp2
                    exact ⟨⟨j + 1, by omega, by go_num, dig_step HX.out S0.out hlj, SG.out.setCell (p := ⟨wq.heap.size, j, none⟩) (Nat.le_refl _) _⟩, by simp [intOf]; omega⟩
                  · have hj32 : j = 32 := by omega
                    have HDG : Hid (digT (stateS b) j = shaS b) := Lib.hid (by rw [hj32, digT_all]; rfl)
                    have T0 : Hid (Cells wr wq.heap.size 27 ((shaS b).map bv)) := Lib.hid (by rw [← HDG.out]; exact S0.out)
                    have T1 := Lib.hid ((O3.out.below SG.out (by omega)))
                    have T2 := Lib.hid (O4.out.trans (SG.out.mono (by omega)))
                    have hlen : ((shaS b).map bv).length = 32 := by rw [List.length_map, shaS_len]
                    have hin : (Try.prog.info? 27).map (·.size) = some ((shaS b).map bv).length := by rw [hlen]; kernel_rfl
                    have HIN := Lib.hid hin
                    have HLEN := Lib.hid hlen
                    clear hin hlen hj32
                    go_wp2_with (first | (refine wpList_load_mid rfl 27 _ rfl wq.heap.size 0 rfl ((shaS b).map bv) _ T0.out.range Try.underlying27 rfl (by rw [HLEN.out]; kernel_rfl) ?_) | (refine wl_store_all rfl 27 _ _ rfl w.heap.size _ _ ((shaS b).map bv) rfl rfl T1.out (by rw [HLEN.out]; rfl) HIN.out (bv_one _) ?_; intro w9 hc9 hg9 hs9))
                    refine bodyPost_ret (v := .agg ((shaS b).map bv).toArray) ?_ rfl ⟨rfl, T2.out.grown hg9 (by have := T1.out.lt; omega) (fun k hk => by injection hk with hk; omega)⟩
                    exact results_cell_row rfl _ _ w.heap.size 27 ((shaS b).map bv).toArray (0, 0) _ rfl hc9 Try.underlying27 rfl (by rw [List.size_toArray]; exact HIN.out))
end Go.Proofs.Ytlnbeglelhdjfaa

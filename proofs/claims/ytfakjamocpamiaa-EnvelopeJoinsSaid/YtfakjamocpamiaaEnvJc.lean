/- The reference's Join. -/
import Derived.Test.YtfakjamocpamiaaEnvJa
import Derived.Test.YtfakjamocpamiaaEnvF
set_option linter.unusedSimpArgs false
set_option linter.unusedVariables false
set_option maxRecDepth 100000
namespace Go.Proofs.Ytfakjamocpamiaa
open Go Go.RowKit Go.Adm
set_option maxHeartbeats 12800000 in
theorem refJoinE_any (w : World) (B : Nat) (R S : EnvR) (cs1 cs2 : List Value) (hE1 : EnvAt w B R cs1) (hE2 : EnvAt w B S cs2) (hm1 : SmR R) (hm2 : SmR S) (hB : B ≤ w.heap.size) :
  Calls Try.prog 23 #[.agg cs1.toArray, .agg cs2.toArray] w (JoinPost (joinE R S) w) := by
 obtain ⟨Ap, np, cp, As, ns, cc, l, rfl, hpn, hp, hlm, hl, hcp1, hcp2, hcs1, hcs2⟩ := hE1
 obtain ⟨Bp, bnp, bcp, Bs, nb, bc, l2, rfl, hbpn, hbp, hblm, hl2, -, -, -, -⟩ := hE2
 obtain ⟨kind, pay, sigs⟩ := R
 obtain ⟨kind2, pay2, sigs2⟩ := S
 unfold SmR at hm1 hm2
 dsimp only at *
 subst hlm hblm
 obtain ⟨hk1, hp1, hs1⟩ := hm1
 obtain ⟨hk2, hp2, hs2⟩ := hm2
 rw [List.length_map, hl.len] at hs1
 rw [List.length_map, hl2.len] at hs2
 rw [hpn] at hp1
 rw [hbpn] at hp2
 have HN := Lib.hid hl.len
 have HN2 := Lib.hid hl2.len
 have HPN := Lib.hid hpn
 have HPN2 := Lib.hid hbpn
 have HVR := Lib.hid (validK_R (kind := kind) (l := l) hpn)
 have HVR2 := Lib.hid (validK_R (kind := kind2) (l := l2) hbpn)
 have HKZ := Lib.hid (And.intro hk1 hk2)
 have HPZ := Lib.hid (And.intro hp1 hp2)
 have HSZ := Lib.hid (And.intro hs1 hs2)
 have HCC := Lib.hid (And.intro (And.intro hcp1 hcp2) (And.intro hcs1 hcs2))
 have hR : All w [.low (.kss B As ns l), .low (.rd B 1 Ap np (pay.map bv)), .low (.kss B Bs nb l2), .low (.rd B 1 Bp bnp (pay2.map bv)), .kept w w.heap.size] := ⟨⟨hl, hB⟩, ⟨hp, hB⟩, ⟨hl2, hB⟩, ⟨hbp, hB⟩, ⟨Below.refl _ _, Nat.le_refl _⟩, trivial⟩
 clear hl hp hl2 hbp hpn hbpn hk1 hk2 hcp1 hcp2 hcs1 hcs2
 have hze := zero_env
 go_enter Try.func23, Try.ntmps23
 go_upto_region 1 with (fail)
 obtain ⟨g, hg⟩ : ∃ g, g = w.heap.size := ⟨_, rfl⟩
 refine wp_gen (((hR.new (l := envC kind Ap np cp As ns cc) (g := g) _ 25 hg rfl).new (l := envC kind2 Bp bnp bcp Bs nb bc) (g := g + 1) _ 25 (by simp [hg]) rfl).new (l := envZ) (g := g + 2) _ 25 (by simp [hg]) rfl) ?_
 intro W1 hW1
 simp only [← hg]
 have hBg : B ≤ g := by omega
 have hwg : w.heap.size ≤ g := by omega
 clear hR hg hB
 obtain ⟨v1, hv1⟩ : ∃ v, validR ⟨kind, pay, l.map Ks.s⟩ = v := ⟨_, rfl⟩
 obtain ⟨v2, hv2⟩ : ∃ v, validR ⟨kind2, pay2, l2.map Ks.s⟩ = v := ⟨_, rfl⟩
 have HVA : Hid (∀ W, All W [.cells (g + 2) 25 envZ, .cells (g + 1) 25 (envC kind2 Bp bnp bcp Bs nb bc), .cells g 25 (envC kind Ap np cp As ns cc), .low (.kss B As ns l), .low (.rd B 1 Ap np (pay.map bv)), .low (.kss B Bs nb l2), .low (.rd B 1 Bp bnp (pay2.map bv)), .kept w w.heap.size] → Calls Try.prog 12 #[.agg (envC kind Ap np cp As ns cc).toArray] W fun e w' => e = .returned (.bool v1) ∧ Below W.heap.size W w') := Lib.hid (fun W hW => by
  have h := refValidE_any W B kind Ap np cp As ns cc l (hW.at_ 3 rfl : Kss W B As ns l ∧ _).1 (Nat.le_trans HKZ.out.1 (by decide)) (by omega) (by omega) (hW.at_ 3 rfl : _ ∧ B ≤ W.heap.size).2
  rwa [HVR.out, hv1] at h)
 have HVB : Hid (∀ W, All W [.cells (g + 2) 25 envZ, .cells (g + 1) 25 (envC kind2 Bp bnp bcp Bs nb bc), .cells g 25 (envC kind Ap np cp As ns cc), .low (.kss B As ns l), .low (.rd B 1 Ap np (pay.map bv)), .low (.kss B Bs nb l2), .low (.rd B 1 Bp bnp (pay2.map bv)), .kept w w.heap.size] → Calls Try.prog 12 #[.agg (envC kind2 Bp bnp bcp Bs nb bc).toArray] W fun e w' => e = .returned (.bool v2) ∧ Below W.heap.size W w') := Lib.hid (fun W hW => by
  have h := refValidE_any W B kind2 Bp bnp bcp Bs nb bc l2 (hW.at_ 5 rfl : Kss W B Bs nb l2 ∧ _).1 (Nat.le_trans HKZ.out.2 (by decide)) (by omega) (by omega) (hW.at_ 5 rfl : _ ∧ B ≤ W.heap.size).2
  rwa [HVR2.out, hv2] at h)
 have HV1 := Lib.hid hv1
 have HV2 := Lib.hid hv2
 clear hv1 hv2 HVR HVR2
 have hva := HVA.out W1 hW1
 cases v1 with
 | false =>
  have HS : Hid (joinE ⟨kind, pay, l.map Ks.s⟩ ⟨kind2, pay2, l2.map Ks.s⟩ = (envR0, 1)) := Lib.hid (joinE_bad1 HV1.out)
  clear HVA HVB
  go_wp2_with (first
   | (refine wl_load_any rfl 25 (.tmp 2) rfl ⟨g, 0, none⟩ rfl (envC kind Ap np cp As ns cc) _ (Cells.sub (hW1.at_ 2 rfl) 0 (fun j u h => by rwa [Nat.zero_add])) Try.underlying25 rfl (by kernel_rfl) ?_)
   | (go_at_call 12; refine hva.mono ?_; clear hva; rintro e w2 ⟨rfl, hb2⟩; have hI := hW1.call hb2; clear hW1 hb2)
   | (refine wl_build rfl 25 [] rfl _ _ #[(0, 1), (1, 1), (2, 1)] envZ.toArray zero_env Try.underlying25 (fun w => by kernel_rfl) rfl ?_)
   | (refine wl_store_at hI 0 rfl 25 (.tmp 4) (.tmp 18) rfl (g + 2) _ _ (envZ) rfl rfl rfl rfl (by kernel_rfl) (envC_one _ _ _ _ _ _ _) ⟨by simp [Res.apart], by simp [Res.apart], by simp [Res.apart, Low.kss] <;> omega, by simp [Res.apart, Low.rd] <;> omega, by simp [Res.apart, Low.kss] <;> omega, by simp [Res.apart, Low.rd] <;> omega, by simp [Res.apart] <;> omega, trivial⟩ ?_; intro W8 hW8 hsW8; clear hsW8; simp only [List.set_cons_zero, List.set_cons_succ] at hW8))
  refine bodyPost_ret (v := .tuple #[.agg (envZ).toArray, .int .i64 1]) ?_ rfl ⟨envZ, by rw [HS.out], by rw [HS.out]; exact EnvAt.zero, (hW8.at_ 7 rfl : _ ∧ _).1⟩
  exact results_row_tmp (p := 4) (q := 5) rfl _ _ (g + 2) 25 (envZ).toArray (0, 0) _ rfl (hW8.at_ 0 rfl) Try.underlying25 rfl (by kernel_rfl)
 | true =>
  cases v2 with
  | false =>
   have HS : Hid (joinE ⟨kind, pay, l.map Ks.s⟩ ⟨kind2, pay2, l2.map Ks.s⟩ = (envR0, 1)) := Lib.hid (joinE_bad2 HV2.out)
   clear HVA
   go_wp2_with (first
    | (refine wl_load_any rfl 25 (.tmp 2) rfl ⟨g, 0, none⟩ rfl (envC kind Ap np cp As ns cc) _ (Cells.sub (hW1.at_ 2 rfl) 0 (fun j u h => by rwa [Nat.zero_add])) Try.underlying25 rfl (by kernel_rfl) ?_)
    | (go_at_call 12; refine hva.mono ?_; clear hva; rintro e w2 ⟨rfl, hb2⟩; have hI := hW1.call hb2; have hvb := HVB.out w2 hI; clear hW1 hb2 HVB)
    | (refine wl_met_load 25 (.tmp 3) rfl ⟨(g + 1), 0, none⟩ rfl (envC kind2 Bp bnp bcp Bs nb bc) _ (Cells.sub (hI.at_ 1 rfl) 0 (fun j u h => by rwa [Nat.zero_add])) Try.underlying25 rfl (by kernel_rfl) rfl ?_)
    | (go_at_call 12; refine hvb.mono ?_; clear hvb; rintro e w3 ⟨rfl, hb3⟩; have hI3 := hI.call hb3; clear hI hb3)
    | (refine wl_build rfl 25 [] rfl _ _ #[(0, 1), (1, 1), (2, 1)] envZ.toArray zero_env Try.underlying25 (fun w => by kernel_rfl) rfl ?_)
    | (refine wl_store_at hI3 0 rfl 25 (.tmp 4) (.tmp 18) rfl (g + 2) _ _ (envZ) rfl rfl rfl rfl (by kernel_rfl) (envC_one _ _ _ _ _ _ _) ⟨by simp [Res.apart], by simp [Res.apart], by simp [Res.apart, Low.kss] <;> omega, by simp [Res.apart, Low.rd] <;> omega, by simp [Res.apart, Low.kss] <;> omega, by simp [Res.apart, Low.rd] <;> omega, by simp [Res.apart] <;> omega, trivial⟩ ?_; intro W8 hW8 hsW8; clear hsW8; simp only [List.set_cons_zero, List.set_cons_succ] at hW8))
   refine bodyPost_ret (v := .tuple #[.agg (envZ).toArray, .int .i64 1]) ?_ rfl ⟨envZ, by rw [HS.out], by rw [HS.out]; exact EnvAt.zero, (hW8.at_ 7 rfl : _ ∧ _).1⟩
   exact results_row_tmp (p := 4) (q := 5) rfl _ _ (g + 2) 25 (envZ).toArray (0, 0) _ rfl (hW8.at_ 0 rfl) Try.underlying25 rfl (by kernel_rfl)
  | true =>
   clear HVA
   go_upto_region 3 with (first
    | (refine wl_load_any rfl 25 (.tmp 2) rfl ⟨g, 0, none⟩ rfl (envC kind Ap np cp As ns cc) _ (Cells.sub (hW1.at_ 2 rfl) 0 (fun j u h => by rwa [Nat.zero_add])) Try.underlying25 rfl (by kernel_rfl) ?_)
    | (go_at_call 12; refine hva.mono ?_; clear hva; rintro e w2 ⟨rfl, hb2⟩; have hI := hW1.call hb2; have hvb := HVB.out w2 hI; clear hW1 hb2 HVB)
    | (refine wl_met_load 25 (.tmp 3) rfl ⟨(g + 1), 0, none⟩ rfl (envC kind2 Bp bnp bcp Bs nb bc) _ (Cells.sub (hI.at_ 1 rfl) 0 (fun j u h => by rwa [Nat.zero_add])) Try.underlying25 rfl (by kernel_rfl) rfl ?_)
    | (go_at_call 12; refine hvb.mono ?_; clear hvb; rintro e w3 ⟨rfl, hb3⟩; have hI3 := hI.call hb3; clear hI hb3))
   obtain ⟨q1, q2, q3⟩ := env_cells kind Ap np cp As ns cc (hI3.at_ 2 rfl)
   obtain ⟨r1, r2, r3⟩ := env_cells kind2 Bp bnp bcp Bs nb bc (hI3.at_ 1 rfl)
   by_cases hkk : kind = kind2
   ·subst hkk
    have hcv1 := conv_bE (c := cp) (hI3.at_ 4 rfl : Rd w3 B 1 Ap np _ ∧ _).1
    have hcv2 := conv_bE (c := bcp) (hI3.at_ 6 rfl : Rd w3 B 1 Bp bnp _ ∧ _).1
    obtain ⟨s1, hs1'⟩ : ∃ s : ByteArray, s = ⟨pay.toArray⟩ := ⟨_, rfl⟩
    obtain ⟨s2, hs2'⟩ : ∃ s : ByteArray, s = ⟨pay2.toArray⟩ := ⟨_, rfl⟩
    rw [← hs1'] at hcv1
    rw [← hs2'] at hcv2
    by_cases hpp : pay = pay2
    ·have hss : s1 = s2 := by rw [hs1', hs2', hpp]
     have d2 : s1.toList = s2.toList := by rw [hss]
     clear hs1' hs2' hss
     subst hpp
     have hpb : np = bnp := HPN.out.symm.trans HPN2.out
     subst hpb
     go_upto_region 5 with fail
     clear q1 q2 q3 r1 r2 r3 d2 hcv1 hcv2
     obtain ⟨m, hm⟩ : ∃ m, msgS kind pay = m := ⟨_, rfl⟩
     have HSJ : Hid (∀ acc : List Ks, acc.map Ks.s = accS m l2 nb (l.map Ks.s) → joinE ⟨kind, pay, l.map Ks.s⟩ ⟨kind, pay, l2.map Ks.s⟩ = if 8 < acc.length then (envR0, 3) else (⟨kind, pay, acc.map Ks.s⟩, 0)) := Lib.hid (fun acc ha => joinE_end HV1.out HV2.out (by rw [hm, HN2.out]; exact ha))
     have HF1 := Lib.hid (validR_iff.1 HV1.out)
     have HF2 := Lib.hid (validR_iff.1 HV2.out)
     have hns8 : ns ≤ 8 := by have h : (l.map Ks.s).length ≤ 8 := HF1.out.2.2.1; rw [List.length_map, HN.out] at h; exact h
     have hnb8 : nb ≤ 8 := by have h : (l2.map Ks.s).length ≤ 8 := HF2.out.2.2.1; rw [List.length_map, HN2.out] at h; exact h
     have HSO : Hid (∀ k, SortG (accS m l2 k (l.map Ks.s))) := Lib.hid (fun k => accS_sort HF1.out.2.2.2.2)
     obtain ⟨gO, hgO⟩ : ∃ gO, gO = w3.heap.size := ⟨_, rfl⟩
     have hgO2 : g + 2 < gO := by rw [hgO]; exact Cells.lt (hI3.at_ 0 rfl)
     have HGO := Lib.hid hgO
     clear hgO
     go_upto_region 6 with (first
      | (refine wl_load_any rfl 25 (.tmp 2) rfl ⟨g, 0, none⟩ rfl (envC kind Ap np cp As ns cc) _ (Cells.sub (hI3.at_ 2 rfl) 0 (fun j u h => by rwa [Nat.zero_add])) Try.underlying25 rfl (by kernel_rfl) ?_)
      | (rw [← HGO.out]; refine wl_store_at (hI3.new (l := envZ) (g := gO) _ 25 HGO.out rfl) 0 rfl 25 (.tmp 6) (.tmp 34) rfl gO _ _ (envC kind Ap np cp As ns cc) rfl rfl rfl rfl (by kernel_rfl) (envC_one _ _ _ _ _ _ _) (hI3.fresh (by rw [HGO.out]; exact Nat.le_refl _) rfl) ?_; intro W4 hW4 hs4; clear hs4; simp only [List.set_cons_zero] at hW4))
     clear hI3 HGO
     obtain ⟨g7, hg7⟩ : ∃ g7, g7 = W4.heap.size := ⟨_, rfl⟩
     have hgO7 : gO < g7 := by rw [hg7]; exact Cells.lt (hW4.at_ 0 rfl)
     have hown0 : Go.Adm.Own (W4.alloc (.cells #[] 64)) g7 64 20 (some ⟨g7, 0, none⟩) 0 0 [] := by rw [hg7]; exact Go.Adm.Own.lit W4 #[] 0 (Nat.le_refl _) (by decide) rfl
     have hJ0 := hW4.alloc (.cells #[] 64)
     have hJ : All (W4.alloc (.cells #[] 64)) (.own g7 64 20 (some ⟨g7, 0, none⟩) 0 0 [] :: .cells gO 25 (envC kind Ap np cp As ns cc) :: [.cells (g + 2) 25 envZ, .cells (g + 1) 25 (envC kind Bp np bcp Bs nb bc), .cells g 25 (envC kind Ap np cp As ns cc), .low (.kss B As ns l), .low (.rd B 1 Ap np (pay.map bv)), .low (.kss B Bs nb l2), .low (.rd B 1 Bp np (pay.map bv)), .kept w w.heap.size]) := ⟨hown0, hJ0⟩
     have hka := (hJ.at_ 5 rfl : Kss _ B As ns l ∧ B ≤ (W4.alloc (.cells #[] 64)).heap.size)
     have hrd := hka.1.els.rd.mono hka.2
     have q6 := (env_cells kind Ap np cp As ns cc (hJ.at_ 4 rfl)).2.2
     have HG7 := Lib.hid hg7
     have hg7s : g7 ≤ (W4.alloc (.cells #[] 64)).heap.size := by rw [hg7]; simp
     have hone : ∀ u ∈ (l.map ksC).flatten, u.oneCell' = true := fun u hu => by
      obtain ⟨y, hy, hu⟩ := List.mem_flatten.1 hu
      obtain ⟨x, -, rfl⟩ := List.mem_map.1 hy
      exact ksC_one x u hu
     have HONE := Lib.hid hone
     clear hg7 hown0 hJ0 hW4 hka hone
     go_upto_region 7 with (at_builtin; refine wl_app_at el_ks hJ 0 rfl (.tmp 35) (.tmp 37) rfl g7 (some ⟨g7, 0, none⟩) 0 0 [] rfl (by rw [HG7.out]; rfl) _ As ns cc _ rfl hrd HONE.out (by omega) hg7s (fun q hq _ => ⟨by simp [Res.apart] <;> omega, by simp [Res.apart] <;> omega, by simp [Res.apart] <;> omega, by simp [Res.apart] <;> omega, by simp [Res.apart, Low.kss] <;> omega, by simp [Res.apart, Low.rd] <;> omega, by simp [Res.apart, Low.kss] <;> omega, by simp [Res.apart, Low.rd] <;> omega, by simp [Res.apart] <;> omega, trivial⟩) ?_; intro A5 c5 W5 hW5 hs5; simp only [List.set_cons_zero, Nat.zero_add, List.nil_append] at hW5 ⊢; have z5 := Cells.frozen (hW5.at_ 1 rfl) 2; have q7 := (env_cells kind Ap np cp As ns cc (hW5.at_ 1 rfl)).2.2)
     refine wp_gen (hW5.store 1 rfl 2 (.slice A5 ns c5) ⟨own_below (by omega), by simp [Res.apart] <;> omega, by simp [Res.apart] <;> omega, by simp [Res.apart] <;> omega, by simp [Res.apart, Low.kss] <;> omega, by simp [Res.apart, Low.rd] <;> omega, by simp [Res.apart, Low.kss] <;> omega, by simp [Res.apart, Low.rd] <;> omega, by simp [Res.apart] <;> omega, trivial⟩) ?_
     rw [env_set2]
     intro W6 hW6
     simp only [List.set_cons_zero, List.set_cons_succ] at hW6
     clear hW5 hs5 z5 q7 hJ hrd q6 hg7s HG7
     have hL : All W6 [.own (gO + 1) 64 20 A5 ns c5 ((l).map ksC).flatten, .cells gO 25 (envC kind Ap np cp A5 ns c5), .cells (g + 2) 25 envZ, .cells (g + 1) 25 (envC kind Bp np bcp Bs nb bc), .cells g 25 (envC kind Ap np cp As ns cc), .low (.kss B As ns l), .low (.rd B 1 Ap np (pay.map bv)), .low (.kss B Bs nb l2), .low (.rd B 1 Bp np (pay.map bv)), .kept w w.heap.size] := ⟨(hW6.at_ 0 rfl : Go.Adm.Own W6 g7 _ _ _ _ _ _).less (by omega), hW6.2⟩
     clear hW6
     have HM0 : Hid (l.map Ks.s = accS m l2 0 (l.map Ks.s)) := Lib.hid (accS_zero _ _ _).symm
     have HI0 : Hid (∀ x ∈ l, x ∈ l ∨ x ∈ l2) := Lib.hid (fun x hx => .inl hx)
     go_wp2_with fail
     go_loopw [7] (fun i wr => ∃ (k na ca : Nat) (A : Option Addr) (acc : List Ks), k ≤ nb ∧ i = .int .i64 k ∧ Hid (acc.length = na) ∧ Hid (acc.map Ks.s = accS m l2 k (l.map Ks.s)) ∧ Hid (∀ x ∈ acc, x ∈ l ∨ x ∈ l2) ∧ All wr [.own (gO + 1) 64 20 A na ca ((acc).map ksC).flatten, .cells gO 25 (envC kind Ap np cp A na ca), .cells (g + 2) 25 envZ, .cells (g + 1) 25 (envC kind Bp np bcp Bs nb bc), .cells g 25 (envC kind Ap np cp As ns cc), .low (.kss B As ns l), .low (.rd B 1 Ap np (pay.map bv)), .low (.kss B Bs nb l2), .low (.rd B 1 Bp np (pay.map bv)), .kept w w.heap.size]) (fun i _ => nb - (intOf i).toNat)
     case atStart => exact ⟨0, ns, c5, A5, l, by omega, rfl, HN, HM0, HI0, hL⟩
     case round =>
      clear hL HM0 HI0
      obtain ⟨k, na, ca, A, acc, hk, rfl, HLA, HMA, HME, hI⟩ := hrel
      have hna : na ≤ ns + k := by
       have h := accS_len m l2 k (l.map Ks.s)
       rw [← HMA.out, List.length_map, List.length_map, HLA.out, HN.out] at h
       exact h
      have q3 := (env_cells kind Bp np bcp Bs nb bc (hI.at_ 3 rfl)).2.2
      by_cases hlt : k < nb
      ·have d1 : decide ((k : Int) < (nb : Int)) = true := by simp; omega
       have hkl : k < l2.length := by rw [HN2.out]; exact hlt
       have hbl := (hI.at_ 7 rfl : Kss wr B Bs nb l2 ∧ B ≤ wr.heap.size)
       obtain ⟨ad, rfl, hadB, hc⟩ := Els.elem hbl.1.els hkl
       have HC := Lib.hid hc
       have hxr := Lib.hid (hbl.1.each _ (List.getElem_mem hkl)).r16
       have HBL : Hid (∀ W, (Kss W B (some ad) nb l2 ∧ B ≤ W.heap.size) → KsOk W B l2[k]) := Lib.hid (fun W hW => hW.1.each _ (List.getElem_mem hkl))
       have HIN : Hid (∀ W, (Kss W B As ns l ∧ B ≤ W.heap.size) → (Kss W B (some ad) nb l2 ∧ B ≤ W.heap.size) → ∀ z ∈ acc, KsOk W B z) := Lib.hid (fun W h1 h2 z hz => by
        rcases HME.out z hz with h | h
        ·exact h1.1.each z h
        ·exact h2.1.each z h)
       have HXM : Hid (l2[k] ∈ l2) := Lib.hid (List.getElem_mem hkl)
       obtain ⟨id, hid⟩ : ∃ id, idK l2[k] = id := ⟨_, rfl⟩
       obtain ⟨pl, hpl⟩ : ∃ pl, placeK acc id = pl := ⟨_, rfl⟩
       obtain ⟨hh, hhh⟩ : ∃ hh, hasK acc id = hh := ⟨_, rfl⟩
       have hple : pl ≤ na := by rw [← hpl, ← HLA.out]; exact placeK_le acc id
       have HSK : Hid (SortK acc) := Lib.hid (sortK_iff.2 (by rw [HMA.out]; exact HSO.out k))
       have HNEW : Hid (hh = false → (acc.take pl ++ l2[k] :: acc.drop pl).map Ks.s = accS m l2 (k + 1) (l.map Ks.s)) := Lib.hid (fun h => by
        have h1 := jn_new (x' := l2[k]) hkl HMA.out (by rw [hid, hhh]; exact h) rfl
        rwa [hid, hpl] at h1)
       have HHAD : Hid (hh = true → ∃ hp : pl < acc.length, accS m l2 (k + 1) (l.map Ks.s) = if verG m acc[pl].s = false ∧ verG m l2[k].s = true then (acc.map Ks.s).set pl l2[k].s else acc.map Ks.s) := Lib.hid (fun h => by
        have h0 : placeK acc id < acc.length := jn_place HSK.out (by rw [hhh]; exact h)
        rw [hpl] at h0
        exact ⟨h0, jn_had hkl HMA.out (by rw [hid, hhh]; exact h) (by rw [hid, hpl]) h0⟩)
       have HID : Hid (idS l2[k].h l2[k].r = id) := Lib.hid hid
       have HIDK : Hid (idK l2[k] = id) := Lib.hid hid
       have HI32 : Hid (id.length = 32) := Lib.hid (by rw [← hid]; exact idK_len _)
       have HPL := Lib.hid hpl
       have HHH := Lib.hid hhh
       clear hc hbl hid hpl hhh
       generalize l2[k] = x at *
       have hgOw : gO < wr.heap.size := Cells.lt (hI.at_ 1 rfl)
       have hob : ∀ q, (Value.slice A na ca).ownBlock = some q → gO + 1 ≤ q ∧ q < wr.heap.size := fun q hq => (hI.at_ 0 rfl : Go.Adm.Own wr _ _ _ _ _ _ _).lt hq
       obtain ⟨gx, hgx⟩ : ∃ gx, gx = wr.heap.size := ⟨_, rfl⟩
       rw [← hgx] at hgOw
       have HOB : Hid (∀ q, (Value.slice A na ca).ownBlock = some q → gO + 1 ≤ q ∧ q < gx) := Lib.hid (by rw [hgx]; exact hob)
       have HGX := Lib.hid hgx
       clear hgx hob
       have wk0 : (0 : Int) ≤ (k : Int) := by omega
       have wk1 : (k : Int) < (nb : Int) := by omega
       have wk2 : ((k : Int)).toNat = k := by omega
       have wk4 : IntKind.i64.wrap ((k : Int) + 1) = ((k + 1 : Nat) : Int) := by rw [IntWalk.i64_in _ (by omega)]; omega
       have hzk := zero_ks
       go_upto_region 11 with (first
        | (refine wl_load_any rfl 64 (.tmp 50) rfl (ad.add (k * 20)) rfl (ksC x) _ HC.out Try.underlying64 rfl (by rw [ksC_len hxr.out]; kernel_rfl) ?_)
        | (rw [← HGX.out]; refine wl_store_at (hI.new (l := ksZ) (g := gx) _ 64 HGX.out rfl) 0 rfl 64 (.tmp 8) (.tmp 51) rfl gx _ _ (ksC x) rfl rfl rfl (by rw [ksC_len hxr.out]; rfl) (by rw [ksC_len hxr.out]; kernel_rfl) (ksC_one x) (hI.fresh (by rw [HGX.out]; exact Nat.le_refl _) rfl) ?_; intro W2 hW2 hs2; clear hs2; simp only [List.set_cons_zero] at hW2))
       clear hI HC HGX q3
       refine wp_region_hops 6 [52, 53, 54, 55, 56, 57] [.cells gx 64 (ksC x), .own (gO + 1) 64 20 A na ca ((acc).map ksC).flatten, .cells gO 25 (envC kind Ap np cp A na ca), .cells (g + 2) 25 envZ, .cells (g + 1) 25 (envC kind Bp np bcp (some ad) nb bc), .cells g 25 (envC kind Ap np cp As ns cc), .low (.kss B As ns l), .low (.rd B 1 Ap np (pay.map bv)), .low (.kss B (some ad) nb l2), .low (.rd B 1 Bp np (pay.map bv)), .kept w w.heap.size]
        [.eq (.pointer (some ⟨gO, 2, none⟩)), .eq (.slice A na ca), .eq (.pointer (some ⟨gx, 0, none⟩)), .eq (.agg (pkCells x.h x.r).toArray), .eq (.agg (id.map bv).toArray), .eq (.int .i64 (findV acc id))]
        (by kernel_rfl) (by kernel_rfl) hW2 rfl ?hops ?fin
       case hops =>
        refine ⟨?_, ?_, ?_, ?_, ?_, ?_, trivial⟩
        ·intro a W hW hb hd K hK
         have b6 := hb 6 rfl
         go_simp
         exact hK _ _ (World.grownBy.refl _ _) rfl
        ·intro a W hW hb hd K hK
         have b52 : a.tmps[52]?.getD undef = _ := hd ⟨0, .data⟩ (by simp) rfl
         have q1 := (env_cells kind Ap np cp A na ca (hW.at_ 2 rfl)).2.2
         go_simp
         exact hK _ _ (World.grownBy.refl _ _) rfl
        ·intro a W hW hb hd K hK
         have b8 := hb 8 rfl
         go_simp
         exact hK _ _ (World.grownBy.refl _ _) rfl
        ·intro a W hW hb hd K hK
         have b54 : a.tmps[54]?.getD undef = _ := hd ⟨2, .data⟩ (by simp) rfl
         refine wp_load_any 62 (.tmp 54) rfl ⟨gx, 0, none⟩ (show a.eval (.tmp 54) = _ from by simp only [Act.eval, Array.getD_eq_getD_getElem?]; exact b54) (pkCells x.h x.r) _ (Cells.sub (hW.at_ 0 rfl) 0 (ks_pk x)) Try.underlying62 rfl (by rw [pkLen hxr.out]; kernel_rfl) ?_
         exact hK _ _ (World.grownBy.refl _ _) rfl
        ·intro a W hW hb hd K hK
         have b55 : a.tmps[55]?.getD undef = _ := hd ⟨3, .data⟩ (by simp) rfl
         have hidc := refID_any W x.h x.r hxr.out
         rw [HID.out] at hidc
         go_simp
         refine (hidc).mono ?_
         rintro e w' ⟨rfl, hb'⟩
         exact hK _ _ (grown_of_below hb') rfl
        ·intro a W hW hb hd K hK
         have b53 : a.tmps[53]?.getD undef = _ := hd ⟨1, .data⟩ (by simp) rfl
         have b56 : a.tmps[56]?.getD undef = _ := hd ⟨4, .data⟩ (by simp) rfl
         have hse := refFindK_any W W.heap.size A na ca acc id (kss_own (hW.at_ 1 rfl) (fun z hz => (HIN.out W (hW.at_ 6 rfl) (hW.at_ 8 rfl) z hz).mono (hW.at_ 6 rfl : _ ∧ B ≤ W.heap.size).2) HLA.out) HSK.out HI32.out (by omega) (Nat.le_refl _)
         go_simp
         refine (hse).mono ?_
         rintro e w' ⟨rfl, hb'⟩
         exact hK _ _ (grown_of_below hb') rfl
       case fin =>
        intro vs V3 hV3 hv
        have e5 : vs 5 = _ := hv 5 (by decide)
        clear hv hW2 HID HI32 HSK
        simp only [putAll, Nat.zero_add, Nat.reduceAdd, List.drop_succ_cons, List.drop_zero, e5, Act.put, List.setIfInBounds_toArray, List.set_cons_succ, List.set_cons_zero]
        clear e5
        have q4 := (env_cells kind Ap np cp A na ca (hV3.at_ 2 rfl)).2.2
        cases hh with
        | false =>
         have HNX := Lib.hid (HNEW.out rfl)
         rw [findV_no HHH.out]
         clear HNEW HHAD HHH
         have hin := refInsertK_any V3 V3.heap.size A na ca acc x (kss_own (hV3.at_ 1 rfl) (fun z hz => (HIN.out V3 (hV3.at_ 6 rfl) (hV3.at_ 8 rfl) z hz).mono (hV3.at_ 6 rfl : _ ∧ B ≤ V3.heap.size).2) HLA.out) hxr.out (by omega) ((hV3.at_ 1 rfl : Go.Adm.Own V3 _ _ _ _ _ _ _).cap.1) (Nat.le_refl _)
         rw [HIDK.out, HPL.out] at hin
         go_upto_region 9 with (first
          | (refine wl_load_any rfl 64 (.tmp 8) rfl ⟨gx, 0, none⟩ rfl (ksC x) _ (Cells.sub (hV3.at_ 0 rfl) 0 (fun j u h => by rwa [Nat.zero_add])) Try.underlying64 rfl (by rw [ksC_len hxr.out]; kernel_rfl) ?_)
          | (go_at_call 47; refine hin.mono ?_; clear hin; rintro e w8 ⟨A9, c9, rfl, hO9, hb9⟩; have hV8 := hV3.call hb9; have q11 := (env_cells kind Ap np cp A na ca (hV8.at_ 2 rfl)).2.2; have z11 := Cells.frozen (hV8.at_ 2 rfl) 2))
         have hgx3 : gx < V3.heap.size := Cells.lt (hV3.at_ 0 rfl)
         have hob9 : ∀ q, (Value.slice A9 (na + 1) c9).ownBlock = some q → V3.heap.size ≤ q := fun q hq => (hO9.lt hq).1
         have hV9 : All w8 (.own V3.heap.size 64 20 A9 (na + 1) c9 ((acc.take pl ++ x :: acc.drop pl).map ksC).flatten :: .cells gx 64 (ksC x) :: [.own (gO + 1) 64 20 A na ca ((acc).map ksC).flatten, .cells gO 25 (envC kind Ap np cp A na ca), .cells (g + 2) 25 envZ, .cells (g + 1) 25 (envC kind Bp np bcp (some ad) nb bc), .cells g 25 (envC kind Ap np cp As ns cc), .low (.kss B As ns l), .low (.rd B 1 Ap np (pay.map bv)), .low (.kss B (some ad) nb l2), .low (.rd B 1 Bp np (pay.map bv)), .kept w w.heap.size]) := ⟨hO9, hV8⟩
         refine wp_gen (hV9.store 3 rfl 2 (.slice A9 (na + 1) c9) ⟨own_below (by omega), by simp [Res.apart] <;> omega, own_below (by omega), by simp [Res.apart] <;> omega, by simp [Res.apart] <;> omega, by simp [Res.apart] <;> omega, by simp [Res.apart, Low.kss] <;> omega, by simp [Res.apart, Low.rd] <;> omega, by simp [Res.apart, Low.kss] <;> omega, by simp [Res.apart, Low.rd] <;> omega, by simp [Res.apart] <;> omega, trivial⟩) ?_
         rw [env_set2]
         intro W12 hW12
         simp only [List.set_cons_zero, List.set_cons_succ] at hW12
         have hJ12 : All W12 [.own (gO + 1) 64 20 A9 (na + 1) c9 ((acc.take pl ++ x :: acc.drop pl).map ksC).flatten, .cells gO 25 (envC kind Ap np cp A9 (na + 1) c9), .cells (g + 2) 25 envZ, .cells (g + 1) 25 (envC kind Bp np bcp (some ad) nb bc), .cells g 25 (envC kind Ap np cp As ns cc), .low (.kss B As ns l), .low (.rd B 1 Ap np (pay.map bv)), .low (.kss B (some ad) nb l2), .low (.rd B 1 Bp np (pay.map bv)), .kept w w.heap.size] := ⟨(hW12.at_ 0 rfl : Go.Adm.Own W12 V3.heap.size _ _ _ _ _ _).less (by omega), hW12.2.2.2⟩
         have HL12 : Hid ((acc.take pl ++ x :: acc.drop pl).length = na + 1) := Lib.hid (by
          have := HLA.out
          rw [List.length_append, List.length_cons, List.length_take, List.length_drop]; omega)
         have HM12 : Hid (∀ z ∈ acc.take pl ++ x :: acc.drop pl, z ∈ l ∨ z ∈ l2) := Lib.hid (fun z hz => by
          rcases List.mem_append.1 hz with h | h
          ·exact HME.out z (List.mem_of_mem_take h)
          ·rcases List.mem_cons.1 h with rfl | h
           ·exact .inr HXM.out
           ·exact HME.out z (List.mem_of_mem_drop h))
         clear hV3 hV8 hV9 hO9 hb9 hob9 q11 z11 q4 hW12
         generalize acc.take pl ++ x :: acc.drop pl = acc9 at *
         go_wp2_with fail
         exact ⟨⟨k + 1, na + 1, c9, A9, acc9, by omega, by go_num, HL12, HNX, HM12, hJ12⟩, by simp [intOf]; omega⟩
        | true =>
         obtain ⟨hpa, hstep⟩ := HHAD.out rfl
         have hpn1 : pl < na := by rw [← HLA.out]; exact hpa
         rw [findV_yes HHH.out HPL.out]
         clear HNEW HHAD HHH HPL
         obtain ⟨G, rfl, hGb⟩ := own_form (hV3.at_ 1 rfl : Go.Adm.Own V3 (gO + 1) 64 20 A na ca _) (by omega)
         have hGx := (HOB.out G rfl).2
         have HYK : Hid (∀ W, Go.Adm.Own W (gO + 1) 64 20 (some ⟨G, 0, none⟩) na ca (acc.map ksC).flatten → ∀ q s, (ksC acc[pl])[q]? = some s → W.cell? ((⟨G, pl * 20, none⟩ : Addr).add q) = some s) := Lib.hid (fun W hW q s hs => by
          have hy : ∀ z ∈ acc, (ksC z).length = 20 := fun z hz => ksC_len (HIN.out V3 (hV3.at_ 6 rfl) (hV3.at_ 8 rfl) z hz).r16
          have hq : q < 20 := by rw [← hy _ (List.getElem_mem hpa)]; exact (List.getElem?_eq_some_iff.1 hs).1
          rw [add_litG, World.ownsRow.cellAt hW (pl * 20 + q) (by omega), flat_get hq (acc.map ksC) pl (by simpa using hpa) (fun e he => by obtain ⟨z, hz, rfl⟩ := List.mem_map.1 he; exact hy z hz), List.getElem_map]
          exact hs)
         have HYI : Hid (∀ W, (Kss W B As ns l ∧ B ≤ W.heap.size) → (Kss W B (some ad) nb l2 ∧ B ≤ W.heap.size) → KsOk W B acc[pl]) := Lib.hid (fun W h1 h2 => HIN.out W h1 h2 _ (List.getElem_mem hpa))
         have hyr := Lib.hid (HYI.out V3 (hV3.at_ 6 rfl) (hV3.at_ 8 rfl)).r16
         have HST := Lib.hid hstep
         have HPA := Lib.hid hpa
         clear hstep
         have HSET : Hid ((acc.set pl x).map Ks.s = (acc.map Ks.s).set pl x.s) := Lib.hid (by rw [List.map_set])
         generalize acc[pl] = y at *
         clear hpa
         have wp0 : (0 : Int) ≤ (pl : Int) := by omega
         have wp1 : (pl : Int) < (na : Int) := by omega
         have wp2 : ((pl : Int)).toNat = pl := by omega
         have dneg : decide ((pl : Int) < 0) = false := by simp
         obtain ⟨vy, hvy⟩ : ∃ vy, verG m y.s = vy := ⟨_, rfl⟩
         obtain ⟨vx, hvx⟩ : ∃ vx, verG m x.s = vx := ⟨_, rfl⟩
         rw [hvy, hvx] at HST
         have HVY := Lib.hid hvy
         have HVX := Lib.hid hvx
         clear hvy hvx q4
         cases vy with
         | true =>
          have HM2 : Hid (acc.map Ks.s = accS m l2 (k + 1) (l.map Ks.s)) := Lib.hid (by rw [HST.out]; simp)
          go_upto_region 14 with fail
          refine wp_region_hops 12 [65, 66, 67, 68, 69, 70, 71, 72, 73, 74, 75, 76] [.cells gx 64 (ksC x), .own (gO + 1) 64 20 (some ⟨G, 0, none⟩) na ca ((acc).map ksC).flatten, .cells gO 25 (envC kind Ap np cp (some ⟨G, 0, none⟩) na ca), .cells (g + 2) 25 envZ, .cells (g + 1) 25 (envC kind Bp np bcp (some ad) nb bc), .cells g 25 (envC kind Ap np cp As ns cc), .low (.kss B As ns l), .low (.rd B 1 Ap np (pay.map bv)), .low (.kss B (some ad) nb l2), .low (.rd B 1 Bp np (pay.map bv)), .kept w w.heap.size]
           [.eq (.agg (envC kind Ap np cp As ns cc).toArray), .eq (.pointer (some ⟨gO, 2, none⟩)), .eq (.slice (some ⟨G, 0, none⟩) na ca), .eq (.int .i64 pl), .eq (.pointer (some ⟨G, pl * 20, none⟩)), .eq (.agg (ksC y).toArray), .eq (.bool true), .eq (.bool false), .eq (.bool false), .eq undef, .eq undef, .eq undef]
           (by kernel_rfl) (by kernel_rfl) hV3 rfl ?hops2 ?fin2
          case hops2 =>
           refine ⟨?_, ?_, ?_, ?_, ?_, ?_, ?_, ?_, ?_, ?_, ?_, ?_, trivial⟩
           ·intro a W hW hb hd K hK
            have b2 := hb 2 rfl
            refine wp_load_any 25 (.tmp 2) rfl ⟨g, 0, none⟩ (show a.eval (.tmp 2) = _ from by simp only [Act.eval, Array.getD_eq_getD_getElem?]; exact b2) (envC kind Ap np cp As ns cc) _ (Cells.sub (hW.at_ 5 rfl) 0 (fun j u h => by rwa [Nat.zero_add])) Try.underlying25 rfl (by kernel_rfl) ?_
            exact hK _ _ (World.grownBy.refl _ _) rfl
           ·intro a W hW hb hd K hK
            have b6 := hb 6 rfl
            go_simp
            exact hK _ _ (World.grownBy.refl _ _) rfl
           ·intro a W hW hb hd K hK
            have b66 : a.tmps[66]?.getD undef = _ := hd ⟨1, .data⟩ (by simp) rfl
            have q1 := (env_cells kind Ap np cp (some ⟨G, 0, none⟩) na ca (hW.at_ 2 rfl)).2.2
            go_simp
            exact hK _ _ (World.grownBy.refl _ _) rfl
           ·intro a W hW hb hd K hK
            have b9 := hb 9 rfl
            go_simp
            exact hK _ _ (World.grownBy.refl _ _) rfl
           ·intro a W hW hb hd K hK
            have b67 : a.tmps[67]?.getD undef = _ := hd ⟨2, .data⟩ (by simp) rfl
            have b68 : a.tmps[68]?.getD undef = _ := hd ⟨3, .data⟩ (by simp) rfl
            go_simp
            exact hK _ _ (World.grownBy.refl _ _) rfl
           ·intro a W hW hb hd K hK
            have b69 : a.tmps[69]?.getD undef = _ := hd ⟨4, .data⟩ (by simp) rfl
            refine wp_load_any 64 (.tmp 69) rfl ⟨G, pl * 20, none⟩ (show a.eval (.tmp 69) = _ from by simp only [Act.eval, Array.getD_eq_getD_getElem?]; exact b69) (ksC y) _ (HYK.out W (hW.at_ 1 rfl)) Try.underlying64 rfl (by rw [ksC_len hyr.out]; kernel_rfl) ?_
            exact hK _ _ (World.grownBy.refl _ _) rfl
           ·intro a W hW hb hd K hK
            have b65 : a.tmps[65]?.getD undef = _ := hd ⟨0, .data⟩ (by simp) rfl
            have b70 : a.tmps[70]?.getD undef = _ := hd ⟨5, .data⟩ (by simp) rfl
            have hv1 := refVerifies_any W B kind Ap np cp As ns cc pay y (hW.at_ 7 rfl : Rd W B 1 Ap np _ ∧ _).1 (HYI.out W (hW.at_ 6 rfl) (hW.at_ 8 rfl)) (Nat.le_trans HKZ.out.1 (by decide)) (by omega) (hW.at_ 7 rfl : _ ∧ B ≤ W.heap.size).2
            rw [hm, HVY.out] at hv1
            go_simp
            refine (hv1).mono ?_
            rintro e w' ⟨rfl, hb'⟩
            exact hK _ _ (grown_of_below hb') rfl
           ·intro a W hW hb hd K hK
            have b71 : a.tmps[71]?.getD undef = _ := hd ⟨6, .data⟩ (by simp) rfl
            go_simp
            exact hK _ _ (World.grownBy.refl _ _) rfl
           ·intro a W hW hb hd K hK
            have b72 : a.tmps[72]?.getD undef = _ := hd ⟨7, .data⟩ (by simp) rfl
            go_simp
            exact hK _ _ (World.grownBy.refl _ _) rfl
           ·exact Or.inr ⟨fun v w h => h, fun w => rfl⟩
           ·exact Or.inr ⟨fun v w h => h, fun w => rfl⟩
           ·exact Or.inr ⟨fun v w h => h, fun w => rfl⟩
          case fin2 =>
           intro vs V hV hv
           have e8 : vs 8 = _ := hv 8 (by decide)
           have e11 : vs 11 = _ := hv 11 (by decide)
           clear hv hV3
           simp only [putAll, Nat.zero_add, Nat.reduceAdd, List.drop_succ_cons, List.drop_zero, e8, e11, Act.put, List.setIfInBounds_toArray, List.set_cons_succ, List.set_cons_zero]
           clear e8 e11
           have hV5 := hV.2
           clear hV
           go_wp2_with fail
           exact ⟨⟨k + 1, na, ca, _, acc, by omega, by go_num, HLA, HM2, HME, hV5⟩, by simp [intOf]; omega⟩
         | false =>
          go_upto_region 14 with fail
          refine wp_region_hops 12 [65, 66, 67, 68, 69, 70, 71, 72, 73, 74, 75, 76] [.cells gx 64 (ksC x), .own (gO + 1) 64 20 (some ⟨G, 0, none⟩) na ca ((acc).map ksC).flatten, .cells gO 25 (envC kind Ap np cp (some ⟨G, 0, none⟩) na ca), .cells (g + 2) 25 envZ, .cells (g + 1) 25 (envC kind Bp np bcp (some ad) nb bc), .cells g 25 (envC kind Ap np cp As ns cc), .low (.kss B As ns l), .low (.rd B 1 Ap np (pay.map bv)), .low (.kss B (some ad) nb l2), .low (.rd B 1 Bp np (pay.map bv)), .kept w w.heap.size]
           [.eq (.agg (envC kind Ap np cp As ns cc).toArray), .eq (.pointer (some ⟨gO, 2, none⟩)), .eq (.slice (some ⟨G, 0, none⟩) na ca), .eq (.int .i64 pl), .eq (.pointer (some ⟨G, pl * 20, none⟩)), .eq (.agg (ksC y).toArray), .eq (.bool false), .eq (.bool true), .eq (.bool true), .eq (.agg (envC kind Bp np bcp (some ad) nb bc).toArray), .eq (.agg (ksC x).toArray), .eq (.bool vx)]
           (by kernel_rfl) (by kernel_rfl) hV3 rfl ?hops2 ?fin2
          case hops2 =>
           refine ⟨?_, ?_, ?_, ?_, ?_, ?_, ?_, ?_, ?_, ?_, ?_, ?_, trivial⟩
           ·intro a W hW hb hd K hK
            have b2 := hb 2 rfl
            refine wp_load_any 25 (.tmp 2) rfl ⟨g, 0, none⟩ (show a.eval (.tmp 2) = _ from by simp only [Act.eval, Array.getD_eq_getD_getElem?]; exact b2) (envC kind Ap np cp As ns cc) _ (Cells.sub (hW.at_ 5 rfl) 0 (fun j u h => by rwa [Nat.zero_add])) Try.underlying25 rfl (by kernel_rfl) ?_
            exact hK _ _ (World.grownBy.refl _ _) rfl
           ·intro a W hW hb hd K hK
            have b6 := hb 6 rfl
            go_simp
            exact hK _ _ (World.grownBy.refl _ _) rfl
           ·intro a W hW hb hd K hK
            have b66 : a.tmps[66]?.getD undef = _ := hd ⟨1, .data⟩ (by simp) rfl
            have q1 := (env_cells kind Ap np cp (some ⟨G, 0, none⟩) na ca (hW.at_ 2 rfl)).2.2
            go_simp
            exact hK _ _ (World.grownBy.refl _ _) rfl
           ·intro a W hW hb hd K hK
            have b9 := hb 9 rfl
            go_simp
            exact hK _ _ (World.grownBy.refl _ _) rfl
           ·intro a W hW hb hd K hK
            have b67 : a.tmps[67]?.getD undef = _ := hd ⟨2, .data⟩ (by simp) rfl
            have b68 : a.tmps[68]?.getD undef = _ := hd ⟨3, .data⟩ (by simp) rfl
            go_simp
            exact hK _ _ (World.grownBy.refl _ _) rfl
           ·intro a W hW hb hd K hK
            have b69 : a.tmps[69]?.getD undef = _ := hd ⟨4, .data⟩ (by simp) rfl
            refine wp_load_any 64 (.tmp 69) rfl ⟨G, pl * 20, none⟩ (show a.eval (.tmp 69) = _ from by simp only [Act.eval, Array.getD_eq_getD_getElem?]; exact b69) (ksC y) _ (HYK.out W (hW.at_ 1 rfl)) Try.underlying64 rfl (by rw [ksC_len hyr.out]; kernel_rfl) ?_
            exact hK _ _ (World.grownBy.refl _ _) rfl
           ·intro a W hW hb hd K hK
            have b65 : a.tmps[65]?.getD undef = _ := hd ⟨0, .data⟩ (by simp) rfl
            have b70 : a.tmps[70]?.getD undef = _ := hd ⟨5, .data⟩ (by simp) rfl
            have hv1 := refVerifies_any W B kind Ap np cp As ns cc pay y (hW.at_ 7 rfl : Rd W B 1 Ap np _ ∧ _).1 (HYI.out W (hW.at_ 6 rfl) (hW.at_ 8 rfl)) (Nat.le_trans HKZ.out.1 (by decide)) (by omega) (hW.at_ 7 rfl : _ ∧ B ≤ W.heap.size).2
            rw [hm, HVY.out] at hv1
            go_simp
            refine (hv1).mono ?_
            rintro e w' ⟨rfl, hb'⟩
            exact hK _ _ (grown_of_below hb') rfl
           ·intro a W hW hb hd K hK
            have b71 : a.tmps[71]?.getD undef = _ := hd ⟨6, .data⟩ (by simp) rfl
            go_simp
            exact hK _ _ (World.grownBy.refl _ _) rfl
           ·intro a W hW hb hd K hK
            have b72 : a.tmps[72]?.getD undef = _ := hd ⟨7, .data⟩ (by simp) rfl
            go_simp
            exact hK _ _ (World.grownBy.refl _ _) rfl
           ·refine Or.inl ⟨fun v w h => h, ?_⟩
            intro a W hW hb hd K hK
            have b3 := hb 3 rfl
            refine wp_load_any 25 (.tmp 3) rfl ⟨g + 1, 0, none⟩ (show a.eval (.tmp 3) = _ from by simp only [Act.eval, Array.getD_eq_getD_getElem?]; exact b3) (envC kind Bp np bcp (some ad) nb bc) _ (Cells.sub (hW.at_ 4 rfl) 0 (fun j u h => by rwa [Nat.zero_add])) Try.underlying25 rfl (by kernel_rfl) ?_
            exact hK _ _ (World.grownBy.refl _ _) rfl
           ·refine Or.inl ⟨fun v w h => h, ?_⟩
            intro a W hW hb hd K hK
            have b8 := hb 8 rfl
            refine wp_load_any 64 (.tmp 8) rfl ⟨gx, 0, none⟩ (show a.eval (.tmp 8) = _ from by simp only [Act.eval, Array.getD_eq_getD_getElem?]; exact b8) (ksC x) _ (Cells.sub (hW.at_ 0 rfl) 0 (fun j u h => by rwa [Nat.zero_add])) Try.underlying64 rfl (by rw [ksC_len hxr.out]; kernel_rfl) ?_
            exact hK _ _ (World.grownBy.refl _ _) rfl
           ·refine Or.inl ⟨fun v w h => h, ?_⟩
            intro a W hW hb hd K hK
            have b74 : a.tmps[74]?.getD undef = _ := hd ⟨9, .data⟩ (by simp) rfl
            have b75 : a.tmps[75]?.getD undef = _ := hd ⟨10, .data⟩ (by simp) rfl
            have hv2 := refVerifies_any W B kind Bp np bcp (some ad) nb bc pay x (hW.at_ 9 rfl : Rd W B 1 Bp np _ ∧ _).1 (HBL.out W (hW.at_ 8 rfl)) (Nat.le_trans HKZ.out.1 (by decide)) (by omega) (hW.at_ 9 rfl : _ ∧ B ≤ W.heap.size).2
            rw [hm, HVX.out] at hv2
            go_simp
            refine (hv2).mono ?_
            rintro e w' ⟨rfl, hb'⟩
            exact hK _ _ (grown_of_below hb') rfl
          case fin2 =>
           intro vs V hV hv
           have e8 : vs 8 = _ := hv 8 (by decide)
           have e11 : vs 11 = _ := hv 11 (by decide)
           clear hv hV3
           simp only [putAll, Nat.zero_add, Nat.reduceAdd, List.drop_succ_cons, List.drop_zero, e8, e11, Act.put, List.setIfInBounds_toArray, List.set_cons_succ, List.set_cons_zero]
           clear e8 e11
           cases vx with
           | false =>
            have HM2 : Hid (acc.map Ks.s = accS m l2 (k + 1) (l.map Ks.s)) := Lib.hid (by rw [HST.out]; simp)
            have hV5 := hV.2
            clear hV
            go_wp2_with fail
            exact ⟨⟨k + 1, na, ca, _, acc, by omega, by go_num, HLA, HM2, HME, hV5⟩, by simp [intOf]; omega⟩
           | true =>
            have hO : Go.Adm.Own V (gO + 1) 64 20 (some ⟨G, 0, none⟩) na ca (acc.map ksC).flatten := hV.at_ 1 rfl
            have hlk : ∀ z ∈ acc, (ksC z).length = 20 := fun z hz => ksC_len (HIN.out V (hV.at_ 6 rfl) (hV.at_ 8 rfl) z hz).r16
            have hfl := flat_set hlk HPA.out x
            have HX20 := Lib.hid (ksC_len hxr.out)
            have hrl : ((acc.map ksC).flatten).length = na * 20 := hO.1
            have HM2 : Hid ((acc.set pl x).map Ks.s = accS m l2 (k + 1) (l.map Ks.s)) := Lib.hid (by rw [HST.out, HSET.out]; simp)
            have HL2 : Hid ((acc.set pl x).length = na) := Lib.hid (by rw [List.length_set]; exact HLA.out)
            have HME2 : Hid (∀ z ∈ acc.set pl x, z ∈ l ∨ z ∈ l2) := Lib.hid (fun z hz => by
             rcases List.mem_or_eq_of_mem_set hz with h | rfl
             ·exact HME.out z h
             ·exact .inr HXM.out)
            have q4 := (env_cells kind Ap np cp (some ⟨G, 0, none⟩) na ca (hV.at_ 2 rfl)).2.2
            clear HST HSET hlk hO
            go_upto_region 9 with (first
             | (refine wl_load_any rfl 64 (.tmp 8) rfl ⟨gx, 0, none⟩ rfl (ksC x) _ (Cells.sub (hV.at_ 0 rfl) 0 (fun j u h => by rwa [Nat.zero_add])) Try.underlying64 rfl (by rw [ksC_len hxr.out]; kernel_rfl) ?_)
             | (refine wl_store_row hV 1 rfl 64 (.tmp 82) (.tmp 81) rfl (off := pl * 20) rfl (ksC x) (by rw [hrl, HX20.out]; omega) rfl rfl (by rw [HX20.out]; kernel_rfl) (ksC_one x) ⟨by simp [Res.apart] <;> omega, by simp [Res.apart] <;> omega, by simp [Res.apart] <;> omega, by simp [Res.apart] <;> omega, by simp [Res.apart] <;> omega, by simp [Res.apart, Low.kss] <;> omega, by simp [Res.apart, Low.rd] <;> omega, by simp [Res.apart, Low.kss] <;> omega, by simp [Res.apart, Low.rd] <;> omega, by simp [Res.apart] <;> omega, trivial⟩ ?_; intro W8 hW8 hs8; clear hs8; simp only [List.set_cons_zero, List.set_cons_succ] at hW8))
            have hJ8 : All W8 [.own (gO + 1) 64 20 (some ⟨G, 0, none⟩) na ca ((acc.set pl x).map ksC).flatten, .cells gO 25 (envC kind Ap np cp (some ⟨G, 0, none⟩) na ca), .cells (g + 2) 25 envZ, .cells (g + 1) 25 (envC kind Bp np bcp (some ad) nb bc), .cells g 25 (envC kind Ap np cp As ns cc), .low (.kss B As ns l), .low (.rd B 1 Ap np (pay.map bv)), .low (.kss B (some ad) nb l2), .low (.rd B 1 Bp np (pay.map bv)), .kept w w.heap.size] := ⟨by have h := hW8.at_ 1 rfl; rw [HX20.out, hfl] at h; exact h, hW8.2.2⟩
            clear hV hW8 hfl hrl q4
            generalize acc.set pl x = acc9 at *
            go_wp2_with fail
            exact ⟨⟨k + 1, na, ca, _, acc9, by omega, by go_num, HL2, HM2, HME2, hJ8⟩, by simp [intOf]; omega⟩
      ·obtain rfl : k = nb := by omega
       have d1 : decide ((k : Int) < (k : Int)) = false := by simp
       have HS := Lib.hid (HSJ.out acc HMA.out)
       rw [HLA.out] at HS
       have q4 := (env_cells kind Ap np cp A na ca (hI.at_ 1 rfl)).2.2
       by_cases h8 : 8 < na
       ·have d8 : decide ((8 : Int) < (na : Int)) = true := by simp; omega
        have d8' : decide (8 < na) = true := by simp; omega
        have HS3 : Hid (joinE ⟨kind, pay, l.map Ks.s⟩ ⟨kind, pay, l2.map Ks.s⟩ = (envR0, 3)) := Lib.hid (by rw [HS.out, if_pos h8])
        clear h8
        go_wp2_with (first
         | (refine wl_build rfl 25 [] rfl _ _ #[(0, 1), (1, 1), (2, 1)] envZ.toArray zero_env Try.underlying25 (fun w => by kernel_rfl) rfl ?_)
         | (refine wl_store_at hI 2 rfl 25 (.tmp 4) (.tmp 87) rfl (g + 2) _ _ (envZ) rfl rfl rfl rfl (by kernel_rfl) (envC_one _ _ _ _ _ _ _) ⟨own_below (by omega), by simp [Res.apart] <;> omega, by simp [Res.apart] <;> omega, by simp [Res.apart] <;> omega, by simp [Res.apart, Low.kss] <;> omega, by simp [Res.apart, Low.rd] <;> omega, by simp [Res.apart, Low.kss] <;> omega, by simp [Res.apart, Low.rd] <;> omega, by simp [Res.apart] <;> omega, trivial⟩ ?_; intro W8 hW8 hsW8; clear hsW8; simp only [List.set_cons_zero, List.set_cons_succ] at hW8))
        refine bodyPost_ret (v := .tuple #[.agg (envZ).toArray, .int .i64 3]) ?_ rfl ⟨envZ, by rw [HS3.out], by rw [HS3.out]; exact EnvAt.zero, (hW8.at_ 9 rfl : _ ∧ _).1⟩
        exact results_row_tmp (p := 4) (q := 5) rfl _ _ (g + 2) 25 (envZ).toArray (0, 0) _ rfl (hW8.at_ 2 rfl) Try.underlying25 rfl (by kernel_rfl)
       ·have d8 : decide ((8 : Int) < (na : Int)) = false := by simp; omega
        have d8' : decide (8 < na) = false := by simp; omega
        have HS0 : Hid (joinE ⟨kind, pay, l.map Ks.s⟩ ⟨kind, pay, l2.map Ks.s⟩ = (⟨kind, pay, acc.map Ks.s⟩, 0)) := Lib.hid (by rw [HS.out, if_neg h8])
        clear h8
        go_wp2_with (first
         | (refine wl_load_any rfl 25 (.tmp 6) rfl ⟨gO, 0, none⟩ rfl (envC kind Ap np cp A na ca) _ (Cells.sub (hI.at_ 1 rfl) 0 (fun j u h => by rwa [Nat.zero_add])) Try.underlying25 rfl (by kernel_rfl) ?_)
         | (refine wl_store_at hI 2 rfl 25 (.tmp 4) (.tmp 88) rfl (g + 2) _ _ (envC kind Ap np cp A na ca) rfl rfl rfl rfl (by kernel_rfl) (envC_one _ _ _ _ _ _ _) ⟨own_below (by omega), by simp [Res.apart] <;> omega, by simp [Res.apart] <;> omega, by simp [Res.apart] <;> omega, by simp [Res.apart, Low.kss] <;> omega, by simp [Res.apart, Low.rd] <;> omega, by simp [Res.apart, Low.kss] <;> omega, by simp [Res.apart, Low.rd] <;> omega, by simp [Res.apart] <;> omega, trivial⟩ ?_; intro W8 hW8 hsW8; clear hsW8; simp only [List.set_cons_zero, List.set_cons_succ] at hW8))
        have hO : Go.Adm.Own W8 (gO + 1) 64 20 A na ca (acc.map ksC).flatten := hW8.at_ 0 rfl
        have hks : KsI acc W8 := fun z hz => by
         rcases HME.out z hz with h | h
         ·exact ((hW8.at_ 5 rfl : Kss W8 B As ns l ∧ _).1.each z h).mono (hW8.at_ 5 rfl : _ ∧ B ≤ W8.heap.size).2
         ·exact ((hW8.at_ 7 rfl : Kss W8 B Bs k l2 ∧ _).1.each z h).mono (hW8.at_ 7 rfl : _ ∧ B ≤ W8.heap.size).2
        have hP := (hW8.at_ 6 rfl : Rd W8 B 1 Ap np (pay.map bv) ∧ B ≤ W8.heap.size)
        refine bodyPost_ret (v := .tuple #[.agg (envC kind Ap np cp A na ca).toArray, .int .i64 0]) ?_ rfl ⟨envC kind Ap np cp A na ca, by rw [HS0.out], by rw [HS0.out]; exact ⟨Ap, np, cp, A, na, ca, acc, rfl, HPN.out, hP.1.mono hP.2, rfl, kss_own hO hks HLA.out, HCC.out.1.1, HCC.out.1.2, hO.cap.1, hO.cap.2⟩, (hW8.at_ 9 rfl : _ ∧ _).1⟩
        exact results_row_tmp (p := 4) (q := 5) rfl _ _ (g + 2) 25 (envC kind Ap np cp A na ca).toArray (0, 0) _ rfl (hW8.at_ 2 rfl) Try.underlying25 rfl (by kernel_rfl)
    ·have HS : Hid (joinE ⟨kind, pay, l.map Ks.s⟩ ⟨kind, pay2, l2.map Ks.s⟩ = (envR0, 9)) := Lib.hid (joinE_dif HV1.out HV2.out (.inr hpp))
     have hss : s1 ≠ s2 := by
      rw [hs1', hs2']
      intro h
      injection h with h
      exact hpp (by have := congrArg Array.toList h; simpa using this)
     have d2 : ¬ s1.toList = s2.toList := ba_ne hss
     have d2' : (s1.toList == s2.toList) = false := by rw [beq_eq_false_iff_ne]; exact d2
     clear hs1' hs2' hss
     go_wp2_with (first
      | (refine wl_build rfl 25 [] rfl _ _ #[(0, 1), (1, 1), (2, 1)] envZ.toArray zero_env Try.underlying25 (fun w => by kernel_rfl) rfl ?_)
      | (refine wl_store_at hI3 0 rfl 25 (.tmp 4) (.tmp 33) rfl (g + 2) _ _ (envZ) rfl rfl rfl rfl (by kernel_rfl) (envC_one _ _ _ _ _ _ _) ⟨by simp [Res.apart], by simp [Res.apart], by simp [Res.apart, Low.kss] <;> omega, by simp [Res.apart, Low.rd] <;> omega, by simp [Res.apart, Low.kss] <;> omega, by simp [Res.apart, Low.rd] <;> omega, by simp [Res.apart] <;> omega, trivial⟩ ?_; intro W8 hW8 hsW8; clear hsW8; simp only [List.set_cons_zero, List.set_cons_succ] at hW8))
     refine bodyPost_ret (v := .tuple #[.agg (envZ).toArray, .int .i64 9]) ?_ rfl ⟨envZ, by rw [HS.out], by rw [HS.out]; exact EnvAt.zero, (hW8.at_ 7 rfl : _ ∧ _).1⟩
     exact results_row_tmp (p := 4) (q := 5) rfl _ _ (g + 2) 25 (envZ).toArray (0, 0) _ rfl (hW8.at_ 0 rfl) Try.underlying25 rfl (by kernel_rfl)
   ·have HS : Hid (joinE ⟨kind, pay, l.map Ks.s⟩ ⟨kind2, pay2, l2.map Ks.s⟩ = (envR0, 9)) := Lib.hid (joinE_dif HV1.out HV2.out (.inl hkk))
    have d1 : ¬ kind.toList = kind2.toList := ba_ne hkk
    have d1' : (kind.toList == kind2.toList) = false := by rw [beq_eq_false_iff_ne]; exact d1
    go_wp2_with (first
     | (refine wl_build rfl 25 [] rfl _ _ #[(0, 1), (1, 1), (2, 1)] envZ.toArray zero_env Try.underlying25 (fun w => by kernel_rfl) rfl ?_)
     | (refine wl_store_at hI3 0 rfl 25 (.tmp 4) (.tmp 33) rfl (g + 2) _ _ (envZ) rfl rfl rfl rfl (by kernel_rfl) (envC_one _ _ _ _ _ _ _) ⟨by simp [Res.apart], by simp [Res.apart], by simp [Res.apart, Low.kss] <;> omega, by simp [Res.apart, Low.rd] <;> omega, by simp [Res.apart, Low.kss] <;> omega, by simp [Res.apart, Low.rd] <;> omega, by simp [Res.apart] <;> omega, trivial⟩ ?_; intro W8 hW8 hsW8; clear hsW8; simp only [List.set_cons_zero, List.set_cons_succ] at hW8))
    refine bodyPost_ret (v := .tuple #[.agg (envZ).toArray, .int .i64 9]) ?_ rfl ⟨envZ, by rw [HS.out], by rw [HS.out]; exact EnvAt.zero, (hW8.at_ 7 rfl : _ ∧ _).1⟩
    exact results_row_tmp (p := 4) (q := 5) rfl _ _ (g + 2) 25 (envZ).toArray (0, 0) _ rfl (hW8.at_ 0 rfl) Try.underlying25 rfl (by kernel_rfl)
end Go.Proofs.Ytfakjamocpamiaa

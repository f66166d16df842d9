/- The program's Join. -/
import Derived.Test.YtfakjamocpamiaaEnvJa
set_option linter.unusedSimpArgs false
set_option linter.unusedVariables false
set_option maxRecDepth 100000
namespace Go.Proofs.Ytfakjamocpamiaa
open Go Go.RowKit Go.Adm
set_option maxHeartbeats 12800000 in
theorem JoinE_any (w : World) (B : Nat) (R S : EnvR) (cs1 cs2 : List Value) (hE1 : EnvAt w B R cs1) (hE2 : EnvAt w B S cs2) (hm1 : SmR R) (hm2 : SmR S) (hB : B ≤ w.heap.size) :
  Calls Try.prog 22 #[.agg cs1.toArray, .agg cs2.toArray] w (JoinPost (joinE R S) w) := by
 obtain ⟨Ap, np, cp, As, ns, cc, l, rfl, hpn, hp, hlm, hl, hcp1, hcp2, hcs1, hcs2⟩ := hE1
 obtain ⟨Bp, bnp, bcp, Bs, nb, bc, l2, rfl, hbpn, hbp, hblm, hl2, -, -, -, -⟩ := hE2
 obtain ⟨kind, pay, sigs⟩ := R
 obtain ⟨kind2, pay2, sigs2⟩ := S
 unfold SmR at hm1 hm2
 dsimp only at *
 subst hlm hblm
 obtain ⟨hk1, hp1, hs1⟩ := hm1
 obtain ⟨hk2, hp2, hs2⟩ := hm2
 rw [List.length_map, hl.len] at hs1
 rw [List.length_map, hl2.len] at hs2
 rw [hpn] at hp1
 rw [hbpn] at hp2
 have HN := Lib.hid hl.len
 have HN2 := Lib.hid hl2.len
 have HPN := Lib.hid hpn
 have HPN2 := Lib.hid hbpn
 have HVR := Lib.hid (validK_R (kind := kind) (l := l) hpn)
 have HVR2 := Lib.hid (validK_R (kind := kind2) (l := l2) hbpn)
 have HKZ := Lib.hid (And.intro hk1 hk2)
 have HPZ := Lib.hid (And.intro hp1 hp2)
 have HSZ := Lib.hid (And.intro hs1 hs2)
 have HCC := Lib.hid (And.intro (And.intro hcp1 hcp2) (And.intro hcs1 hcs2))
 have hR : All w [.low (.kss B As ns l), .low (.rd B 1 Ap np (pay.map bv)), .low (.kss B Bs nb l2), .low (.rd B 1 Bp bnp (pay2.map bv)), .kept w w.heap.size] := ⟨⟨hl, hB⟩, ⟨hp, hB⟩, ⟨hl2, hB⟩, ⟨hbp, hB⟩, ⟨Below.refl _ _, Nat.le_refl _⟩, trivial⟩
 clear hl hp hl2 hbp hpn hbpn hk1 hk2 hcp1 hcp2 hcs1 hcs2
 have hze := zero_env
 go_enter Try.func22, Try.ntmps22
 go_upto_region 1 with (fail)
 obtain ⟨g, hg⟩ : ∃ g, g = w.heap.size := ⟨_, rfl⟩
 refine wp_gen (((hR.new (l := envC kind Ap np cp As ns cc) (g := g) _ 25 hg rfl).new (l := envC kind2 Bp bnp bcp Bs nb bc) (g := g + 1) _ 25 (by simp [hg]) rfl).new (l := envZ) (g := g + 2) _ 25 (by simp [hg]) rfl) ?_
 intro W1 hW1
 simp only [← hg]
 have hBg : B ≤ g := by omega
 have hwg : w.heap.size ≤ g := by omega
 clear hR hg hB
 obtain ⟨v1, hv1⟩ : ∃ v, validR ⟨kind, pay, l.map Ks.s⟩ = v := ⟨_, rfl⟩
 obtain ⟨v2, hv2⟩ : ∃ v, validR ⟨kind2, pay2, l2.map Ks.s⟩ = v := ⟨_, rfl⟩
 have HVA : Hid (∀ W, All W [.cells (g + 2) 25 envZ, .cells (g + 1) 25 (envC kind2 Bp bnp bcp Bs nb bc), .cells g 25 (envC kind Ap np cp As ns cc), .low (.kss B As ns l), .low (.rd B 1 Ap np (pay.map bv)), .low (.kss B Bs nb l2), .low (.rd B 1 Bp bnp (pay2.map bv)), .kept w w.heap.size] → Calls Try.prog 11 #[.agg (envC kind Ap np cp As ns cc).toArray] W fun e w' => e = .returned (.bool v1) ∧ Below W.heap.size W w') := Lib.hid (fun W hW => by
  have h := ValidE_any W B kind Ap np cp As ns cc l (hW.at_ 3 rfl : Kss W B As ns l ∧ _).1 (Nat.le_trans HKZ.out.1 (by decide)) (by omega) (by omega) (hW.at_ 3 rfl : _ ∧ B ≤ W.heap.size).2
  rwa [HVR.out, hv1] at h)
 have HVB : Hid (∀ W, All W [.cells (g + 2) 25 envZ, .cells (g + 1) 25 (envC kind2 Bp bnp bcp Bs nb bc), .cells g 25 (envC kind Ap np cp As ns cc), .low (.kss B As ns l), .low (.rd B 1 Ap np (pay.map bv)), .low (.kss B Bs nb l2), .low (.rd B 1 Bp bnp (pay2.map bv)), .kept w w.heap.size] → Calls Try.prog 11 #[.agg (envC kind2 Bp bnp bcp Bs nb bc).toArray] W fun e w' => e = .returned (.bool v2) ∧ Below W.heap.size W w') := Lib.hid (fun W hW => by
  have h := ValidE_any W B kind2 Bp bnp bcp Bs nb bc l2 (hW.at_ 5 rfl : Kss W B Bs nb l2 ∧ _).1 (Nat.le_trans HKZ.out.2 (by decide)) (by omega) (by omega) (hW.at_ 5 rfl : _ ∧ B ≤ W.heap.size).2
  rwa [HVR2.out, hv2] at h)
 have HV1 := Lib.hid hv1
 have HV2 := Lib.hid hv2
 clear hv1 hv2 HVR HVR2
 have hva := HVA.out W1 hW1
 cases v1 with
 | false =>
  have HS : Hid (joinE ⟨kind, pay, l.map Ks.s⟩ ⟨kind2, pay2, l2.map Ks.s⟩ = (envR0, 1)) := Lib.hid (joinE_bad1 HV1.out)
  clear HVA HVB
  go_wp2_with (first
   | (refine wl_load_any rfl 25 (.tmp 2) rfl ⟨g, 0, none⟩ rfl (envC kind Ap np cp As ns cc) _ (Cells.sub (hW1.at_ 2 rfl) 0 (fun j u h => by rwa [Nat.zero_add])) Try.underlying25 rfl (by kernel_rfl) ?_)
   | (go_at_call 11; refine hva.mono ?_; clear hva; rintro e w2 ⟨rfl, hb2⟩; have hI := hW1.call hb2; clear hW1 hb2)
   | (refine wl_build rfl 25 [] rfl _ _ #[(0, 1), (1, 1), (2, 1)] envZ.toArray zero_env Try.underlying25 (fun w => by kernel_rfl) rfl ?_)
   | (refine wl_store_at hI 0 rfl 25 (.tmp 4) (.tmp 21) rfl (g + 2) _ _ (envZ) rfl rfl rfl rfl (by kernel_rfl) (envC_one _ _ _ _ _ _ _) ⟨by simp [Res.apart], by simp [Res.apart], by simp [Res.apart, Low.kss] <;> omega, by simp [Res.apart, Low.rd] <;> omega, by simp [Res.apart, Low.kss] <;> omega, by simp [Res.apart, Low.rd] <;> omega, by simp [Res.apart] <;> omega, trivial⟩ ?_; intro W8 hW8 hsW8; clear hsW8; simp only [List.set_cons_zero, List.set_cons_succ] at hW8))
  refine bodyPost_ret (v := .tuple #[.agg (envZ).toArray, .int .i64 1]) ?_ rfl ⟨envZ, by rw [HS.out], by rw [HS.out]; exact EnvAt.zero, (hW8.at_ 7 rfl : _ ∧ _).1⟩
  exact results_row_tmp (p := 4) (q := 5) rfl _ _ (g + 2) 25 (envZ).toArray (0, 0) _ rfl (hW8.at_ 0 rfl) Try.underlying25 rfl (by kernel_rfl)
 | true =>
  cases v2 with
  | false =>
   have HS : Hid (joinE ⟨kind, pay, l.map Ks.s⟩ ⟨kind2, pay2, l2.map Ks.s⟩ = (envR0, 1)) := Lib.hid (joinE_bad2 HV2.out)
   clear HVA
   go_wp2_with (first
    | (refine wl_load_any rfl 25 (.tmp 2) rfl ⟨g, 0, none⟩ rfl (envC kind Ap np cp As ns cc) _ (Cells.sub (hW1.at_ 2 rfl) 0 (fun j u h => by rwa [Nat.zero_add])) Try.underlying25 rfl (by kernel_rfl) ?_)
    | (go_at_call 11; refine hva.mono ?_; clear hva; rintro e w2 ⟨rfl, hb2⟩; have hI := hW1.call hb2; have hvb := HVB.out w2 hI; clear hW1 hb2 HVB)
    | (refine wl_met_load 25 (.tmp 3) rfl ⟨(g + 1), 0, none⟩ rfl (envC kind2 Bp bnp bcp Bs nb bc) _ (Cells.sub (hI.at_ 1 rfl) 0 (fun j u h => by rwa [Nat.zero_add])) Try.underlying25 rfl (by kernel_rfl) rfl ?_)
    | (go_at_call 11; refine hvb.mono ?_; clear hvb; rintro e w3 ⟨rfl, hb3⟩; have hI3 := hI.call hb3; clear hI hb3)
    | (refine wl_build rfl 25 [] rfl _ _ #[(0, 1), (1, 1), (2, 1)] envZ.toArray zero_env Try.underlying25 (fun w => by kernel_rfl) rfl ?_)
    | (refine wl_store_at hI3 0 rfl 25 (.tmp 4) (.tmp 21) rfl (g + 2) _ _ (envZ) rfl rfl rfl rfl (by kernel_rfl) (envC_one _ _ _ _ _ _ _) ⟨by simp [Res.apart], by simp [Res.apart], by simp [Res.apart, Low.kss] <;> omega, by simp [Res.apart, Low.rd] <;> omega, by simp [Res.apart, Low.kss] <;> omega, by simp [Res.apart, Low.rd] <;> omega, by simp [Res.apart] <;> omega, trivial⟩ ?_; intro W8 hW8 hsW8; clear hsW8; simp only [List.set_cons_zero, List.set_cons_succ] at hW8))
   refine bodyPost_ret (v := .tuple #[.agg (envZ).toArray, .int .i64 1]) ?_ rfl ⟨envZ, by rw [HS.out], by rw [HS.out]; exact EnvAt.zero, (hW8.at_ 7 rfl : _ ∧ _).1⟩
   exact results_row_tmp (p := 4) (q := 5) rfl _ _ (g + 2) 25 (envZ).toArray (0, 0) _ rfl (hW8.at_ 0 rfl) Try.underlying25 rfl (by kernel_rfl)
  | true =>
   clear HVA
   go_upto_region 3 with (first
    | (refine wl_load_any rfl 25 (.tmp 2) rfl ⟨g, 0, none⟩ rfl (envC kind Ap np cp As ns cc) _ (Cells.sub (hW1.at_ 2 rfl) 0 (fun j u h => by rwa [Nat.zero_add])) Try.underlying25 rfl (by kernel_rfl) ?_)
    | (go_at_call 11; refine hva.mono ?_; clear hva; rintro e w2 ⟨rfl, hb2⟩; have hI := hW1.call hb2; have hvb := HVB.out w2 hI; clear hW1 hb2 HVB)
    | (refine wl_met_load 25 (.tmp 3) rfl ⟨(g + 1), 0, none⟩ rfl (envC kind2 Bp bnp bcp Bs nb bc) _ (Cells.sub (hI.at_ 1 rfl) 0 (fun j u h => by rwa [Nat.zero_add])) Try.underlying25 rfl (by kernel_rfl) rfl ?_)
    | (go_at_call 11; refine hvb.mono ?_; clear hvb; rintro e w3 ⟨rfl, hb3⟩; have hI3 := hI.call hb3; clear hI hb3))
   obtain ⟨q1, q2, q3⟩ := env_cells kind Ap np cp As ns cc (hI3.at_ 2 rfl)
   obtain ⟨r1, r2, r3⟩ := env_cells kind2 Bp bnp bcp Bs nb bc (hI3.at_ 1 rfl)
   by_cases hkk : kind = kind2
   ·subst hkk
    have heq := bytesEqual_any w3 B Ap Bp np bnp cp bcp pay pay2 (hI3.at_ 4 rfl : Rd w3 B 1 Ap np _ ∧ _).1 (hI3.at_ 6 rfl : Rd w3 B 1 Bp bnp _ ∧ _).1
    by_cases hpp : pay = pay2
    ·rw [decide_eq_true hpp] at heq
     subst hpp
     have hpb : np = bnp := HPN.out.symm.trans HPN2.out
     subst hpb
     go_upto_region 5 with (go_at_call 49; refine heq.mono ?_; clear heq; rintro e w4 ⟨rfl, rfl⟩)
     clear q1 q2 q3 r1 r2 r3
     obtain ⟨m, hm⟩ : ∃ m, msgS kind pay = m := ⟨_, rfl⟩
     have HML : Hid (m.length = 32) := Lib.hid (by rw [← hm]; exact msgS_len _ _)
     have hch := checker_any w3 B kind Ap np cp As ns cc pay (hI3.at_ 4 rfl : Rd w3 B 1 Ap np _ ∧ _).1 (Nat.le_trans HKZ.out.1 (by decide)) (by omega) (hI3.at_ 4 rfl : _ ∧ B ≤ w3.heap.size).2
     rw [hm] at hch
     have HSJ : Hid (∀ acc : List Ks, acc.map Ks.s = accS m l2 nb (l.map Ks.s) → joinE ⟨kind, pay, l.map Ks.s⟩ ⟨kind, pay, l2.map Ks.s⟩ = if 8 < acc.length then (envR0, 3) else (⟨kind, pay, acc.map Ks.s⟩, 0)) := Lib.hid (fun acc ha => joinE_end HV1.out HV2.out (by rw [hm, HN2.out]; exact ha))
     have HF1 := Lib.hid (validR_iff.1 HV1.out)
     have HF2 := Lib.hid (validR_iff.1 HV2.out)
     have HBIG1 : Hid (∀ x ∈ l, x.chain.length ≤ 1000000 ∧ x.path.length ≤ 1000000) := Lib.hid (fun x hx => by
      have h := shG_facts (HF1.out.2.2.2.1 x.s (List.mem_map_of_mem hx))
      have h3 : x.chain.length = 68 := h.2.2.1
      have h4 : x.path.length ≤ 6 := h.2.2.2
      omega)
     have HBIG2 : Hid (∀ x ∈ l2, x.chain.length ≤ 1000000 ∧ x.path.length ≤ 1000000) := Lib.hid (fun x hx => by
      have h := shG_facts (HF2.out.2.2.2.1 x.s (List.mem_map_of_mem hx))
      have h3 : x.chain.length = 68 := h.2.2.1
      have h4 : x.path.length ≤ 6 := h.2.2.2
      omega)
     have hns8 : ns ≤ 8 := by have h : (l.map Ks.s).length ≤ 8 := HF1.out.2.2.1; rw [List.length_map, HN.out] at h; exact h
     have hnb8 : nb ≤ 8 := by have h : (l2.map Ks.s).length ≤ 8 := HF2.out.2.2.1; rw [List.length_map, HN2.out] at h; exact h
     have HSO : Hid (∀ k, SortG (accS m l2 k (l.map Ks.s))) := Lib.hid (fun k => accS_sort HF1.out.2.2.2.2)
     clear hm
     go_upto_region 6 with (first
      | (refine wl_load_any rfl 25 (.tmp 2) rfl ⟨g, 0, none⟩ rfl (envC kind Ap np cp As ns cc) _ (Cells.sub (hI3.at_ 2 rfl) 0 (fun j u h => by rwa [Nat.zero_add])) Try.underlying25 rfl (by kernel_rfl) ?_)
      | (go_at_call 33; refine hch.mono ?_; clear hch; rintro e w4 ⟨gn, gm, rfl, hgn, hgm, hne, hcm, hcn, hb4⟩; have hI4 := hI3.call hb4))
     have hg3 : g + 2 < w3.heap.size := Cells.lt (hI3.at_ 0 rfl)
     have hggm : g + 2 < gm := by omega
     have hJ4 : All w4 (.cells gn 3 [.int .i64 ((0 : Nat) : Int)] :: .cells gm 37 (m.map bv) :: [.cells (g + 2) 25 envZ, .cells (g + 1) 25 (envC kind Bp np bcp Bs nb bc), .cells g 25 (envC kind Ap np cp As ns cc), .low (.kss B As ns l), .low (.rd B 1 Ap np (pay.map bv)), .low (.kss B Bs nb l2), .low (.rd B 1 Bp np (pay.map bv)), .kept w w.heap.size]) := ⟨hcn, hcm, hI4⟩
     have hgs : gn < w4.heap.size := Cells.lt (hJ4.at_ 0 rfl)
     clear hI3 hI4 hcn hcm hgn hgm hb4 hg3
     have hco := copied_any w4 B kind Ap np cp As ns cc pay l (hJ4.at_ 5 rfl : Kss w4 B As ns l ∧ _).1 (hJ4.at_ 6 rfl : Rd w4 B 1 Ap np _ ∧ _).1 (by omega) (by omega) HBIG1.out (hJ4.at_ 5 rfl : _ ∧ B ≤ w4.heap.size).2
     go_upto_region 7 with (first
      | (refine wl_load_any rfl 25 (.tmp 2) rfl ⟨g, 0, none⟩ rfl (envC kind Ap np cp As ns cc) _ (Cells.sub (hJ4.at_ 4 rfl) 0 (fun j u h => by rwa [Nat.zero_add])) Try.underlying25 rfl (by kernel_rfl) ?_)
      | (go_at_call 42; refine hco.mono ?_; clear hco; rintro e w5 ⟨Ap7, cp7, As7, cs7, l7, b7, rfl, hls7, hb71, hb72, hpb7, hD7⟩; have hJ5 := hJ4.call (hD7.at_ 2 rfl : _ ∧ _).1; have hK5 : All w5 (.ksn 64 b7 As7 ns cs7 l7 :: .own w4.heap.size 5 1 Ap7 np cp7 (pay.map bv) :: _) := ⟨hD7.at_ 0 rfl, hD7.at_ 1 rfl, hJ5⟩)
      | (refine wl_store_at (hK5.new (l := envZ) (g := w5.heap.size) _ 25 rfl rfl) 0 rfl 25 (.tmp 8) (.tmp 42) rfl w5.heap.size _ _ (envC kind Ap7 np cp7 As7 ns cs7) rfl rfl rfl rfl (by kernel_rfl) (envC_one _ _ _ _ _ _ _) (hK5.fresh (Nat.le_refl _) rfl) ?_; intro w6 hW6 hs6; clear hs6; simp only [List.set_cons_zero] at hW6))
     obtain ⟨gO, hgO⟩ : ∃ gO, gO = w5.heap.size := ⟨_, rfl⟩
     obtain ⟨s6, hs6⟩ : ∃ s6, s6 = w4.heap.size := ⟨_, rfl⟩
     have hN7 : Nest w5 b7 64 20 As7 ns cs7 (l7.map ksC).flatten 0 (KsF l7) (KsI l7) := hK5.at_ 0 rfl
     have HO7 : Hid (∀ b, ((Value.slice As7 ns cs7).ownBlock = some b ∨ KsF l7 b) → b ≠ gO) := Lib.hid (fun b hb => by
      rw [hgO]
      rcases hb with h | h
      ·have := (hN7.own.lt h).2; omega
      ·have := (hN7.fr b h).2; omega)
     have HL7 : Hid (l7.length = ns) := Lib.hid (by have := congrArg List.length hls7; rw [List.length_map, List.length_map] at this; rw [this]; exact HN.out)
     have HM7 : Hid (l7.map Ks.s = accS m l2 0 (l.map Ks.s)) := Lib.hid (by rw [accS_zero]; exact hls7)
     have HPB7 := Lib.hid hpb7
     simp only [← hgO] at hW6 ⊢
     rw [← hs6] at hW6 hb71 hgs
     have hb7g : b7 ≤ gO := by rw [hgO]; exact hb72
     have hL : All w6 [.ksn 64 b7 As7 ns cs7 (l7), .cells gO 25 (envC kind Ap7 np cp7 As7 ns cs7), .own s6 5 1 Ap7 np cp7 (pay.map bv), .cells gn 3 [.int .i64 ((0 : Nat) : Int)], .cells gm 37 (m.map bv), .cells (g + 2) 25 envZ, .cells (g + 1) 25 (envC kind Bp np bcp Bs nb bc), .cells g 25 (envC kind Ap np cp As ns cc), .low (.kss B Bs nb l2), .kept w w.heap.size] := ⟨hW6.at_ 1 rfl, hW6.at_ 0 rfl, hW6.at_ 2 rfl, hW6.at_ 3 rfl, hW6.at_ 4 rfl, hW6.at_ 5 rfl, hW6.at_ 6 rfl, hW6.at_ 7 rfl, hW6.at_ 10 rfl, hW6.at_ 12 rfl, trivial⟩
     clear hW6 hK5 hJ5 hJ4 hD7 hN7 hls7 hpb7 hb72 hgO hs6
     have q3 := (env_cells kind Bp np bcp Bs nb bc (hL.at_ 6 rfl)).2.2
     go_wp2_with fail
     clear q3
     go_loopw [46] (fun i wr => ∃ (k cnt na ca : Nat) (A : Option Addr) (acc : List Ks), k ≤ nb ∧ i = .int .i64 k ∧ cnt ≤ 2 * k ∧ Hid (acc.length = na) ∧ Hid (acc.map Ks.s = accS m l2 k (l.map Ks.s)) ∧ Hid (∀ b, ((Value.slice A na ca).ownBlock = some b ∨ KsF acc b) → b ≠ gO) ∧ All wr [.ksn 64 b7 A na ca (acc), .cells gO 25 (envC kind Ap7 np cp7 A na ca), .own s6 5 1 Ap7 np cp7 (pay.map bv), .cells gn 3 [.int .i64 ((cnt : Nat) : Int)], .cells gm 37 (m.map bv), .cells (g + 2) 25 envZ, .cells (g + 1) 25 (envC kind Bp np bcp Bs nb bc), .cells g 25 (envC kind Ap np cp As ns cc), .low (.kss B Bs nb l2), .kept w w.heap.size]) (fun i _ => nb - (intOf i).toNat)
     case atStart => exact ⟨0, 0, ns, cs7, As7, l7, by omega, rfl, by omega, HL7, HM7, HO7, hL⟩
     case round =>
      clear hL HL7 HM7 HO7
      obtain ⟨k, cnt, na, ca, A, acc, hk, rfl, hcnt, HLA, HMA, HO, hI⟩ := hrel
      have hna : na ≤ ns + k := by
       have h := accS_len m l2 k (l.map Ks.s)
       rw [← HMA.out, List.length_map, List.length_map, HLA.out, HN.out] at h
       exact h
      by_cases hlt : k < nb
      ·have d1 : decide ((k : Int) < (nb : Int)) = true := by simp; omega
       have hkl : k < l2.length := by rw [HN2.out]; exact hlt
       have hbl := (hI.at_ 8 rfl : Kss wr B Bs nb l2 ∧ B ≤ wr.heap.size)
       obtain ⟨ad, rfl, hadB, hc⟩ := Els.elem hbl.1.els hkl
       have HC := Lib.hid hc
       have hxr := Lib.hid (hbl.1.each _ (List.getElem_mem hkl)).r16
       have HBL : Hid (∀ W, (Kss W B (some ad) nb l2 ∧ B ≤ W.heap.size) → KsOk W B l2[k]) := Lib.hid (fun W hW => hW.1.each _ (List.getElem_mem hkl))
       have hxn := Lib.hid (HBIG2.out _ (List.getElem_mem hkl))
       obtain ⟨id, hid⟩ : ∃ id, idK l2[k] = id := ⟨_, rfl⟩
       obtain ⟨pl, hpl⟩ : ∃ pl, placeK acc id = pl := ⟨_, rfl⟩
       obtain ⟨hh, hhh⟩ : ∃ hh, hasK acc id = hh := ⟨_, rfl⟩
       have hple : pl ≤ na := by rw [← hpl, ← HLA.out]; exact placeK_le acc id
       have HSK : Hid (SortK acc) := Lib.hid (sortK_iff.2 (by rw [HMA.out]; exact HSO.out k))
       have HNEW : Hid (hh = false → ∀ x' : Ks, x'.s = l2[k].s → (acc.take pl ++ x' :: acc.drop pl).map Ks.s = accS m l2 (k + 1) (l.map Ks.s)) := Lib.hid (fun h x' hx => by
        have h1 := jn_new hkl HMA.out (by rw [hid, hhh]; exact h) hx
        rwa [hid, hpl] at h1)
       have HHAD : Hid (hh = true → ∃ hp : pl < acc.length, accS m l2 (k + 1) (l.map Ks.s) = if verG m acc[pl].s = false ∧ verG m l2[k].s = true then (acc.map Ks.s).set pl l2[k].s else acc.map Ks.s) := Lib.hid (fun h => by
        have h0 : placeK acc id < acc.length := jn_place HSK.out (by rw [hhh]; exact h)
        rw [hpl] at h0
        exact ⟨h0, jn_had hkl HMA.out (by rw [hid, hhh]; exact h) (by rw [hid, hpl]) h0⟩)
       have HID : Hid (idS l2[k].h l2[k].r = id) := Lib.hid hid
       have HI32 : Hid (id.length = 32) := Lib.hid (by rw [← hid]; exact idK_len _)
       have HPL := Lib.hid hpl
       have HHH := Lib.hid hhh
       clear hc hbl hid hpl hhh
       generalize l2[k] = x at *
       have hb7O : gO < wr.heap.size := Cells.lt (hI.at_ 1 rfl)
       have hob : ∀ q, (Value.slice A na ca).ownBlock = some q → b7 ≤ q ∧ q < wr.heap.size := fun q hq => (hI.at_ 0 rfl : Nest wr _ _ _ _ _ _ _ _ _ _).own.lt hq
       have hfb : ∀ q, KsF acc q → b7 ≤ q ∧ q < wr.heap.size := fun q hq => (hI.at_ 0 rfl : Nest wr _ _ _ _ _ _ _ _ _ _).fr q hq
       obtain ⟨gx, hgx⟩ : ∃ gx, gx = wr.heap.size := ⟨_, rfl⟩
       rw [← hgx] at hb7O
       have HOB : Hid (∀ q, (Value.slice A na ca).ownBlock = some q → b7 ≤ q ∧ q < gx) := Lib.hid (by rw [hgx]; exact hob)
       have HFB : Hid (∀ q, KsF acc q → b7 ≤ q ∧ q < gx) := Lib.hid (by rw [hgx]; exact hfb)
       have HGX := Lib.hid hgx
       clear hgx hob hfb
       have wk0 : (0 : Int) ≤ (k : Int) := by omega
       have wk1 : (k : Int) < (nb : Int) := by omega
       have wk2 : ((k : Int)).toNat = k := by omega
       have wk4 : IntKind.i64.wrap ((k : Int) + 1) = ((k + 1 : Nat) : Int) := by rw [IntWalk.i64_in _ (by omega)]; omega
       have hzk := zero_ks
       go_upto_region 10 with (first
        | (refine wl_load_any rfl 64 (.tmp 48) rfl (ad.add (k * 20)) rfl (ksC x) _ HC.out Try.underlying64 rfl (by rw [ksC_len hxr.out]; kernel_rfl) ?_)
        | (rw [← HGX.out]; refine wl_store_at (hI.new (l := ksZ) (g := gx) _ 64 HGX.out rfl) 0 rfl 64 (.tmp 10) (.tmp 49) rfl gx _ _ (ksC x) rfl rfl rfl (by rw [ksC_len hxr.out]; rfl) (by rw [ksC_len hxr.out]; kernel_rfl) (ksC_one x) (hI.fresh (by rw [HGX.out]; exact Nat.le_refl _) rfl) ?_; intro W2 hW2 hs2; clear hs2; simp only [List.set_cons_zero] at hW2))
       clear hI HC HGX
       refine wp_region_hops 10 [51, 52, 53, 54, 55, 56, 50, 57, 58, 11] [.cells gx 64 (ksC x), .ksn 64 b7 A na ca (acc), .cells gO 25 (envC kind Ap7 np cp7 A na ca), .own s6 5 1 Ap7 np cp7 (pay.map bv), .cells gn 3 [.int .i64 ((cnt : Nat) : Int)], .cells gm 37 (m.map bv), .cells (g + 2) 25 envZ, .cells (g + 1) 25 (envC kind Bp np bcp (some ad) nb bc), .cells g 25 (envC kind Ap np cp As ns cc), .low (.kss B (some ad) nb l2), .kept w w.heap.size]
        [.eq (.pointer (some ⟨gO, 2, none⟩)), .eq (.slice A na ca), .eq (.pointer (some ⟨gx, 0, none⟩)), .eq (.agg (pkCells x.h x.r).toArray), .eq (.agg (id.map bv).toArray), .eq (.tuple #[.int .i64 pl, .bool hh]), .eq (.tuple #[.int .i64 pl, .bool hh]), .eq (.int .i64 pl), .eq (.bool hh), .eq (.int .i64 pl)]
        (by kernel_rfl) (by kernel_rfl) hW2 rfl ?hops ?fin
       case hops =>
        refine ⟨?_, ?_, ?_, ?_, ?_, ?_, ?_, ?_, ?_, ?_, trivial⟩
        ·intro a W hW hb hd K hK
         have b8 := hb 8 rfl
         go_simp
         exact hK _ _ (World.grownBy.refl _ _) rfl
        ·intro a W hW hb hd K hK
         have b51 : a.tmps[51]?.getD undef = _ := hd ⟨0, .data⟩ (by simp) rfl
         have q1 := (env_cells kind Ap7 np cp7 A na ca (hW.at_ 2 rfl)).2.2
         go_simp
         exact hK _ _ (World.grownBy.refl _ _) rfl
        ·intro a W hW hb hd K hK
         have b10 := hb 10 rfl
         go_simp
         exact hK _ _ (World.grownBy.refl _ _) rfl
        ·intro a W hW hb hd K hK
         have b53 : a.tmps[53]?.getD undef = _ := hd ⟨2, .data⟩ (by simp) rfl
         refine wp_load_any 62 (.tmp 53) rfl ⟨gx, 0, none⟩ (show a.eval (.tmp 53) = _ from by simp only [Act.eval, Array.getD_eq_getD_getElem?]; exact b53) (pkCells x.h x.r) _ (Cells.sub (hW.at_ 0 rfl) 0 (ks_pk x)) Try.underlying62 rfl (by rw [pkLen hxr.out]; kernel_rfl) ?_
         exact hK _ _ (World.grownBy.refl _ _) rfl
        ·intro a W hW hb hd K hK
         have b54 : a.tmps[54]?.getD undef = _ := hd ⟨3, .data⟩ (by simp) rfl
         have hidc := ID_any W x.h x.r hxr.out
         rw [HID.out] at hidc
         go_simp
         refine (hidc).mono ?_
         rintro e w' ⟨rfl, hb'⟩
         exact hK _ _ (grown_of_below hb') rfl
        ·intro a W hW hb hd K hK
         have b52 : a.tmps[52]?.getD undef = _ := hd ⟨1, .data⟩ (by simp) rfl
         have b55 : a.tmps[55]?.getD undef = _ := hd ⟨4, .data⟩ (by simp) rfl
         have hse := searchK_any W W.heap.size A na ca acc id (ksn_kss (hW.at_ 1 rfl) HLA.out) HSK.out HI32.out (by omega) (Nat.le_refl _)
         rw [HPL.out, HHH.out] at hse
         go_simp
         refine (hse).mono ?_
         rintro e w' ⟨rfl, hb'⟩
         exact hK _ _ (grown_of_below hb') rfl
        ·intro a W hW hb hd K hK
         have b56 : a.tmps[56]?.getD undef = _ := hd ⟨5, .data⟩ (by simp) rfl
         go_simp
         exact hK _ _ (World.grownBy.refl _ _) rfl
        ·intro a W hW hb hd K hK
         have b50 : a.tmps[50]?.getD undef = _ := hd ⟨6, .data⟩ (by simp) rfl
         go_simp
         exact hK _ _ (World.grownBy.refl _ _) rfl
        ·intro a W hW hb hd K hK
         have b50 : a.tmps[50]?.getD undef = _ := hd ⟨6, .data⟩ (by simp) rfl
         go_simp
         exact hK _ _ (World.grownBy.refl _ _) rfl
        ·intro a W hW hb hd K hK
         have b57 : a.tmps[57]?.getD undef = _ := hd ⟨7, .data⟩ (by simp) rfl
         go_simp
         exact hK _ _ (World.grownBy.refl _ _) rfl
       case fin =>
        intro vs V3 hV3 hv
        have e7 : vs 7 = _ := hv 7 (by decide)
        have e8 : vs 8 = _ := hv 8 (by decide)
        have e9 : vs 9 = _ := hv 9 (by decide)
        clear hv hW2 HID HI32 HSK HPL HHH
        simp only [putAll, Nat.zero_add, Nat.reduceAdd, List.drop_succ_cons, List.drop_zero, e7, e8, e9, Act.put, List.setIfInBounds_toArray, List.set_cons_succ, List.set_cons_zero]
        clear e7 e8 e9
        cases hh with
        | false =>
         have HNW := Lib.hid (HNEW.out rfl)
         clear HNEW HHAD
         go_upto_region 12 with fail
         refine wp_region_hops 6 [61, 62, 63, 64, 65, 66] [.cells gx 64 (ksC x), .ksn 64 b7 A na ca (acc), .cells gO 25 (envC kind Ap7 np cp7 A na ca), .own s6 5 1 Ap7 np cp7 (pay.map bv), .cells gn 3 [.int .i64 ((cnt : Nat) : Int)], .cells gm 37 (m.map bv), .cells (g + 2) 25 envZ, .cells (g + 1) 25 (envC kind Bp np bcp (some ad) nb bc), .cells g 25 (envC kind Ap np cp As ns cc), .low (.kss B (some ad) nb l2), .kept w w.heap.size]
          [.eq (.pointer (some ⟨gO, 2, none⟩)), .eq (.slice A na ca), .eq (.int .i64 pl), .eq (.agg (ksC x).toArray), .dupK (gx + 1) x.s, .litK 64 (gx + 1) x.s]
          (by kernel_rfl) (by kernel_rfl) hV3 rfl ?hops2 ?fin2
         case hops2 =>
          refine ⟨?_, ?_, ?_, ?_, ?_, ?_, trivial⟩
          ·intro a W hW hb hd K hK
           have b8 := hb 8 rfl
           go_simp
           exact hK _ _ (World.grownBy.refl _ _) rfl
          ·intro a W hW hb hd K hK
           have b61 : a.tmps[61]?.getD undef = _ := hd ⟨0, .data⟩ (by simp) rfl
           have q1 := (env_cells kind Ap7 np cp7 A na ca (hW.at_ 2 rfl)).2.2
           go_simp
           exact hK _ _ (World.grownBy.refl _ _) rfl
          ·intro a W hW hb hd K hK
           have b11 := hb 11 rfl
           go_simp
           exact hK _ _ (World.grownBy.refl _ _) rfl
          ·intro a W hW hb hd K hK
           have b10 := hb 10 rfl
           refine wp_load_any 64 (.tmp 10) rfl ⟨gx, 0, none⟩ (show a.eval (.tmp 10) = _ from by simp only [Act.eval, Array.getD_eq_getD_getElem?]; exact b10) (ksC x) _ (Cells.sub (hW.at_ 0 rfl) 0 (fun j u h => by rwa [Nat.zero_add])) Try.underlying64 rfl (by rw [ksC_len hxr.out]; kernel_rfl) ?_
           exact hK _ _ (World.grownBy.refl _ _) rfl
          ·intro a W hW hb hd K hK
           have b64 : a.tmps[64]?.getD undef = _ := hd ⟨3, .data⟩ (by simp) rfl
           have hsz : gx < W.heap.size := Cells.lt (hW.at_ 0 rfl)
           have hKO := HBL.out W (hW.at_ 9 rfl)
           go_simp
           refine (duplicateK_any W B x hKO (by omega) hxn.out.1 hxn.out.2).mono ?_
           rintro e w' ⟨x', rfl, h1, h2, h3, hb'⟩
           exact hK _ _ (grown_of_below hb') ⟨x', rfl, h1, h2, fun b hb => ⟨by have := (h3 b hb).1; omega, (h3 b hb).2⟩⟩
          ·intro a W hW hb hd K hK
           obtain ⟨x', q65, h1, h2, h3⟩ := (hd ⟨4, .data⟩ (by simp) rfl : VF.ok (.dupK (gx + 1) x.s) (a.tmps[65]?.getD undef) W)
           replace q65 : a.tmps[65]?.getD undef = _ := q65
           have hsz : gx < W.heap.size := Cells.lt (hW.at_ 0 rfl)
           refine wp_lit1 el_ks (.tmp 65) rfl (ksC x') (show a.eval (.tmp 65) = _ from by simp only [Act.eval, Array.getD_eq_getD_getElem?]; exact q65) (ksC_len h2.r16) (by decide) ?_
           exact hK _ _ (grown_alloc _ _) ⟨x', W.heap.size, rfl, hsz, Cells.new _ _ _, h1, h2.grown (grown_alloc _ _), fun b hb => ⟨(h3 b hb).1, by have := (h3 b hb).2; simp; omega, by have := (h3 b hb).2; omega⟩⟩
         case fin2 =>
          intro vs V hV hv
          have e1 : vs 1 = _ := hv 1 (by decide)
          have e2 : vs 2 = _ := hv 2 (by decide)
          obtain ⟨x', g2, e5, hg2, hC2, hxs, hxo, hxb⟩ := (hv 5 (by decide) : VF.ok (.litK 64 (gx + 1) x.s) (vs 5) V)
          clear hv hV3
          simp only [putAll, Nat.zero_add, Nat.reduceAdd, List.drop_succ_cons, List.drop_zero, e1, e2, e5, Act.put, List.setIfInBounds_toArray, List.set_cons_succ, List.set_cons_zero]
          clear e1 e2 e5
          have hVx : gx < V.heap.size := Cells.lt (hV.at_ 0 rfl)
          have hR2 : All V (.ksn 64 b7 A na ca acc :: .cells g2 64 (ksC x') :: [.cells gx 64 (ksC x), .cells gO 25 (envC kind Ap7 np cp7 A na ca), .own s6 5 1 Ap7 np cp7 (pay.map bv), .cells gn 3 [.int .i64 ((cnt : Nat) : Int)], .cells gm 37 (m.map bv), .cells (g + 2) 25 envZ, .cells (g + 1) 25 (envC kind Bp np bcp (some ad) nb bc), .cells g 25 (envC kind Ap np cp As ns cc), .low (.kss B (some ad) nb l2), .kept w w.heap.size]) := ⟨hV.at_ 1 rfl, hC2, hV.at_ 0 rfl, hV.2.2⟩
          have hin := InsertK_any V [.cells gx 64 (ksC x), .cells gO 25 (envC kind Ap7 np cp7 A na ca), .own s6 5 1 Ap7 np cp7 (pay.map bv), .cells gn 3 [.int .i64 ((cnt : Nat) : Int)], .cells gm 37 (m.map bv), .cells (g + 2) 25 envZ, .cells (g + 1) 25 (envC kind Bp np bcp (some ad) nb bc), .cells g 25 (envC kind Ap np cp As ns cc), .low (.kss B (some ad) nb l2), .kept w w.heap.size] b7 A na ca pl g2 acc x' hR2 rfl HLA.out hxo (fun b hb => ⟨by have := (hxb b hb).1; omega, (hxb b hb).2.1, (hxb b hb).2.2, fun e => by have := (HOB.out _ e).2; have := (hxb b hb).1; omega⟩) (fun e => by have := (HOB.out _ e).2; omega) (fun q hq => by
           have h1 := HOB.out q hq
           have h2 := HO.out q (.inl hq)
           exact ⟨by simp [Res.apart] <;> omega, by simp [Res.apart] <;> omega, own_apart HPB7.out h1.1, by simp [Res.apart] <;> omega, by simp [Res.apart] <;> omega, by simp [Res.apart] <;> omega, by simp [Res.apart] <;> omega, by simp [Res.apart] <;> omega, by simp [Res.apart, Low.kss] <;> omega, by simp [Res.apart] <;> omega, trivial⟩) hple (by omega) (by omega)
          have HNX := Lib.hid (HNW.out x' hxs)
          have HXB : Hid (∀ b, KsF [x'] b → gx + 1 ≤ b) := Lib.hid (fun b hb => (hxb b hb).1)
          clear hV hR2 hC2 hxo hxb hxs HNW
          go_upto_region 15 with (go_at_call 43; refine hin.mono ?_; clear hin; rintro e w11 ⟨A9, c9, rfl, hV11, hob9⟩; have q11 := (env_cells kind Ap7 np cp7 A na ca (hV11.at_ 3 rfl)).2.2; have z11 := Cells.frozen (hV11.at_ 3 rfl) 2)
          have HO9 : Hid (∀ b, ((Value.slice A9 (na + 1) c9).ownBlock = some b ∨ KsF (acc.take pl ++ x' :: acc.drop pl) b) → b ≠ gO) := Lib.hid (fun b hb => by
           rcases hb with h | h
           ·rcases hob9 b h with h | h
            ·exact HO.out b (.inl h)
            ·omega
           ·rcases KsF.ins.1 h with h | h
            ·exact HO.out b (.inr h)
            ·have := HXB.out b h; omega)
          refine wp_gen (hV11.store 3 rfl 2 (.slice A9 (na + 1) c9) ⟨fun q hq => (by
           injection hq with hq
           subst hq
           exact ⟨Nat.zero_le _, .inr ⟨fun e => HO9.out _ (.inl e) rfl, fun hF => HO9.out _ (.inr hF) rfl⟩⟩), by simp [Res.apart] <;> omega, by simp [Res.apart] <;> omega, own_apart HPB7.out hb7g, by simp [Res.apart] <;> omega, by simp [Res.apart] <;> omega, by simp [Res.apart] <;> omega, by simp [Res.apart] <;> omega, by simp [Res.apart] <;> omega, by simp [Res.apart, Low.kss] <;> omega, by simp [Res.apart] <;> omega, trivial⟩) ?_
          rw [env_set2]
          intro W12 hW12
          simp only [List.set_cons_zero, List.set_cons_succ] at hW12
          have hJ12 : All W12 [.ksn 64 b7 A9 (na + 1) c9 (acc.take pl ++ x' :: acc.drop pl), .cells gO 25 (envC kind Ap7 np cp7 A9 (na + 1) c9), .own s6 5 1 Ap7 np cp7 (pay.map bv), .cells gn 3 [.int .i64 ((cnt : Nat) : Int)], .cells gm 37 (m.map bv), .cells (g + 2) 25 envZ, .cells (g + 1) 25 (envC kind Bp np bcp (some ad) nb bc), .cells g 25 (envC kind Ap np cp As ns cc), .low (.kss B (some ad) nb l2), .kept w w.heap.size] := ⟨hW12.at_ 0 rfl, hW12.2.2.2⟩
          have HL12 : Hid ((acc.take pl ++ x' :: acc.drop pl).length = na + 1) := Lib.hid (by
           have := HLA.out
           rw [List.length_append, List.length_cons, List.length_take, List.length_drop]; omega)
          clear hV11 hob9 q11 z11 hW12
          generalize acc.take pl ++ x' :: acc.drop pl = acc9 at *
          go_wp2_with fail
          exact ⟨⟨k + 1, cnt, na + 1, c9, A9, acc9, by omega, by go_num, by omega, HL12, HNX, HO9, hJ12⟩, by simp [intOf]; omega⟩
        | true =>
         obtain ⟨hpa, hstep⟩ := HHAD.out rfl
         have hpn1 : pl < na := by rw [← HLA.out]; exact hpa
         clear HNEW HHAD
         obtain ⟨G, rfl, hGb⟩ := own_form (hV3.at_ 1 rfl : Nest V3 b7 64 20 A na ca _ 0 _ _).own (by omega)
         have hGx := (HOB.out G rfl).2
         have hGO := HO.out G (.inl rfl)
         have hHG : ¬ KsF acc G := (hV3.at_ 1 rfl : Nest V3 b7 64 20 (some ⟨G, 0, none⟩) na ca _ 0 (KsF acc) _).ap G rfl
         have HYK : Hid (∀ W, (Res.ksn 64 b7 (some ⟨G, 0, none⟩) na ca acc).ok W → ∀ q s, (ksC acc[pl])[q]? = some s → W.cell? ((⟨G, pl * 20, none⟩ : Addr).add q) = some s) := Lib.hid (fun W hW => by
          obtain ⟨ad', e, _, hc⟩ := Els.elem (ksn_kss hW HLA.out).els hpa
          obtain rfl := Option.some.inj e
          rw [add_litG, Nat.zero_add] at hc
          exact hc)
         have HYI : Hid (∀ W, (Res.ksn 64 b7 (some ⟨G, 0, none⟩) na ca acc).ok W → KsOk W W.heap.size acc[pl]) := Lib.hid (fun W hW => (hW : Nest W b7 64 20 (some ⟨G, 0, none⟩) na ca _ 0 _ (KsI acc)).inn _ (List.getElem_mem hpa))
         have hyr := Lib.hid (HYI.out V3 (hV3.at_ 1 rfl)).r16
         have HST := Lib.hid hstep
         have HPA := Lib.hid hpa
         clear hstep
         have HSET : Hid (∀ x' : Ks, x'.s = x.s → (acc.set pl x').map Ks.s = (acc.map Ks.s).set pl x.s) := Lib.hid (fun x' h => by rw [List.map_set, h])
         generalize acc[pl] = y at *
         clear hpa
         have wp0 : (0 : Int) ≤ (pl : Int) := by omega
         have wp1 : (pl : Int) < (na : Int) := by omega
         have wp2 : ((pl : Int)).toNat = pl := by omega
         have hV4 : All V3 [.cells gn 3 [.int .i64 ((cnt : Nat) : Int)], .cells gm 37 (m.map bv), .ksn 64 b7 (some ⟨G, 0, none⟩) na ca (acc), .cells gx 64 (ksC x), .cells gO 25 (envC kind Ap7 np cp7 (some ⟨G, 0, none⟩) na ca), .own s6 5 1 Ap7 np cp7 (pay.map bv), .cells (g + 2) 25 envZ, .cells (g + 1) 25 (envC kind Bp np bcp (some ad) nb bc), .cells g 25 (envC kind Ap np cp As ns cc), .low (.kss B (some ad) nb l2), .kept w w.heap.size] := ⟨hV3.at_ 4 rfl, hV3.at_ 5 rfl, hV3.at_ 1 rfl, hV3.at_ 0 rfl, hV3.at_ 2 rfl, hV3.at_ 3 rfl, hV3.at_ 6 rfl, hV3.at_ 7 rfl, hV3.at_ 8 rfl, hV3.at_ 9 rfl, hV3.at_ 10 rfl, trivial⟩
         obtain ⟨vy, hvy⟩ : ∃ vy, verG m y.s = vy := ⟨_, rfl⟩
         obtain ⟨vx, hvx⟩ : ∃ vx, verG m x.s = vx := ⟨_, rfl⟩
         have hve := verify_all V3 gn gm cnt y m [.ksn 64 b7 (some ⟨G, 0, none⟩) na ca (acc), .cells gx 64 (ksC x), .cells gO 25 (envC kind Ap7 np cp7 (some ⟨G, 0, none⟩) na ca), .own s6 5 1 Ap7 np cp7 (pay.map bv), .cells (g + 2) 25 envZ, .cells (g + 1) 25 (envC kind Bp np bcp (some ad) nb bc), .cells g 25 (envC kind Ap np cp As ns cc), .low (.kss B (some ad) nb l2), .kept w w.heap.size] (fun W hW => HYI.out W (hW.at_ 0 rfl)) HML.out (by omega) hV4 (by omega) ⟨ksn_below (by omega), by simp [Res.apart] <;> omega, by simp [Res.apart] <;> omega, own_below (by omega), by simp [Res.apart] <;> omega, by simp [Res.apart] <;> omega, by simp [Res.apart] <;> omega, by simp [Res.apart, Low.kss] <;> omega, by simp [Res.apart] <;> omega, trivial⟩
         have HVX : Hid (∀ W, All W [.cells gn 3 [.int .i64 ((cnt + 1 : Nat) : Int)], .cells gm 37 (m.map bv), .ksn 64 b7 (some ⟨G, 0, none⟩) na ca (acc), .cells gx 64 (ksC x), .cells gO 25 (envC kind Ap7 np cp7 (some ⟨G, 0, none⟩) na ca), .own s6 5 1 Ap7 np cp7 (pay.map bv), .cells (g + 2) 25 envZ, .cells (g + 1) 25 (envC kind Bp np bcp (some ad) nb bc), .cells g 25 (envC kind Ap np cp As ns cc), .low (.kss B (some ad) nb l2), .kept w w.heap.size] → Calls Try.prog 55 #[.agg (ksC x).toArray, .pointer (some ⟨gn, 0, none⟩), .pointer (some ⟨gm, 0, none⟩)] W fun e w' => e = .returned (.bool vx) ∧ All w' [.cells gn 3 [.int .i64 ((cnt + 1 + 1 : Nat) : Int)], .cells gm 37 (m.map bv), .ksn 64 b7 (some ⟨G, 0, none⟩) na ca (acc), .cells gx 64 (ksC x), .cells gO 25 (envC kind Ap7 np cp7 (some ⟨G, 0, none⟩) na ca), .own s6 5 1 Ap7 np cp7 (pay.map bv), .cells (g + 2) 25 envZ, .cells (g + 1) 25 (envC kind Bp np bcp (some ad) nb bc), .cells g 25 (envC kind Ap np cp As ns cc), .low (.kss B (some ad) nb l2), .kept w w.heap.size]) := Lib.hid (fun W hW => by
          have h := verify_all W gn gm (cnt + 1) x m [.ksn 64 b7 (some ⟨G, 0, none⟩) na ca (acc), .cells gx 64 (ksC x), .cells gO 25 (envC kind Ap7 np cp7 (some ⟨G, 0, none⟩) na ca), .own s6 5 1 Ap7 np cp7 (pay.map bv), .cells (g + 2) 25 envZ, .cells (g + 1) 25 (envC kind Bp np bcp (some ad) nb bc), .cells g 25 (envC kind Ap np cp As ns cc), .low (.kss B (some ad) nb l2), .kept w w.heap.size] (fun W hW => (HBL.out W (hW.at_ 7 rfl)).mono (hW.at_ 7 rfl : _ ∧ B ≤ W.heap.size).2) HML.out (by omega) hW (by omega) ⟨ksn_below (by omega), by simp [Res.apart] <;> omega, by simp [Res.apart] <;> omega, own_below (by omega), by simp [Res.apart] <;> omega, by simp [Res.apart] <;> omega, by simp [Res.apart] <;> omega, by simp [Res.apart, Low.kss] <;> omega, by simp [Res.apart] <;> omega, trivial⟩
          rwa [hvx] at h)
         rw [hvy] at hve
         rw [hvy, hvx] at HST
         have q3 := (env_cells kind Ap7 np cp7 (some ⟨G, 0, none⟩) na ca (hV4.at_ 4 rfl)).2.2
         clear hV3 hvy hvx
         cases vy with
         | true =>
          have HM2 : Hid (acc.map Ks.s = accS m l2 (k + 1) (l.map Ks.s)) := Lib.hid (by rw [HST.out]; simp)
          clear HVX HST
          go_wp2_with (first
           | (refine wl_load_any rfl 64 (.tmp 73) rfl ⟨G, pl * 20, none⟩ rfl (ksC y) _ (HYK.out V3 (hV4.at_ 2 rfl)) Try.underlying64 rfl (by rw [ksC_len hyr.out]; kernel_rfl) ?_)
           | (go_at_call 55; refine hve.mono ?_; clear hve; rintro e w5 ⟨rfl, hV5⟩; clear hV4))
          exact ⟨⟨k + 1, cnt + 1, na, ca, _, acc, by omega, by go_num, by omega, HLA, HM2, HO, ⟨hV5.at_ 2 rfl, hV5.at_ 4 rfl, hV5.at_ 5 rfl, hV5.at_ 0 rfl, hV5.at_ 1 rfl, hV5.at_ 6 rfl, hV5.at_ 7 rfl, hV5.at_ 8 rfl, hV5.at_ 9 rfl, hV5.at_ 10 rfl, trivial⟩⟩, by simp [intOf]; omega⟩
         | false =>
          cases vx with
          | false =>
           have HM2 : Hid (acc.map Ks.s = accS m l2 (k + 1) (l.map Ks.s)) := Lib.hid (by rw [HST.out]; simp)
           clear HST
           go_wp2_with (first
            | (refine wl_load_any rfl 64 (.tmp 73) rfl ⟨G, pl * 20, none⟩ rfl (ksC y) _ (HYK.out V3 (hV4.at_ 2 rfl)) Try.underlying64 rfl (by rw [ksC_len hyr.out]; kernel_rfl) ?_)
            | (go_at_call 55; refine hve.mono ?_; clear hve; rintro e w5 ⟨rfl, hV5⟩; have hvx2 := HVX.out w5 hV5; clear hV4 HVX)
            | (refine wl_met_load 64 (.tmp 10) rfl ⟨gx, 0, none⟩ rfl (ksC x) _ (Cells.sub (hV5.at_ 3 rfl) 0 (fun j u h => by rwa [Nat.zero_add])) Try.underlying64 rfl (by rw [ksC_len hxr.out]; kernel_rfl) rfl ?_)
            | (go_at_call 55; refine hvx2.mono ?_; clear hvx2; rintro e w6 ⟨rfl, hV6⟩; clear hV5))
           exact ⟨⟨k + 1, cnt + 1 + 1, na, ca, _, acc, by omega, by go_num, by omega, HLA, HM2, HO, ⟨hV6.at_ 2 rfl, hV6.at_ 4 rfl, hV6.at_ 5 rfl, hV6.at_ 0 rfl, hV6.at_ 1 rfl, hV6.at_ 6 rfl, hV6.at_ 7 rfl, hV6.at_ 8 rfl, hV6.at_ 9 rfl, hV6.at_ 10 rfl, trivial⟩⟩, by simp [intOf]; omega⟩
          | true =>
           go_upto_region 14 with (first
            | (refine wl_load_any rfl 64 (.tmp 73) rfl ⟨G, pl * 20, none⟩ rfl (ksC y) _ (HYK.out V3 (hV4.at_ 2 rfl)) Try.underlying64 rfl (by rw [ksC_len hyr.out]; kernel_rfl) ?_)
            | (go_at_call 55; refine hve.mono ?_; clear hve; rintro e w5 ⟨rfl, hV5⟩; have hvx2 := HVX.out w5 hV5; clear hV4 HVX)
            | (refine wl_met_load 64 (.tmp 10) rfl ⟨gx, 0, none⟩ rfl (ksC x) _ (Cells.sub (hV5.at_ 3 rfl) 0 (fun j u h => by rwa [Nat.zero_add])) Try.underlying64 rfl (by rw [ksC_len hxr.out]; kernel_rfl) rfl ?_)
            | (go_at_call 55; refine hvx2.mono ?_; clear hvx2; rintro e w6 ⟨rfl, hV6⟩; clear hV5))
           clear q3
           refine wp_region_hops 5 [82, 83, 84, 85, 86] [.cells gn 3 [.int .i64 ((cnt + 1 + 1 : Nat) : Int)], .cells gm 37 (m.map bv), .ksn 64 b7 (some ⟨G, 0, none⟩) na ca (acc), .cells gx 64 (ksC x), .cells gO 25 (envC kind Ap7 np cp7 (some ⟨G, 0, none⟩) na ca), .own s6 5 1 Ap7 np cp7 (pay.map bv), .cells (g + 2) 25 envZ, .cells (g + 1) 25 (envC kind Bp np bcp (some ad) nb bc), .cells g 25 (envC kind Ap np cp As ns cc), .low (.kss B (some ad) nb l2), .kept w w.heap.size]
            [.eq (.pointer (some ⟨gO, 2, none⟩)), .eq (.slice (some ⟨G, 0, none⟩) na ca), .eq (.int .i64 pl), .eq (.agg (ksC x).toArray), .dupK (gx + 1) x.s]
            (by kernel_rfl) (by kernel_rfl) hV6 rfl ?hops3 ?fin3
           case hops3 =>
             refine ⟨?_, ?_, ?_, ?_, ?_, trivial⟩
             ·intro a W hW hb hd K hK
              have b8 := hb 8 rfl
              go_simp
              exact hK _ _ (World.grownBy.refl _ _) rfl
             ·intro a W hW hb hd K hK
              have b82 : a.tmps[82]?.getD undef = _ := hd ⟨0, .data⟩ (by simp) rfl
              have q1 := (env_cells kind Ap7 np cp7 (some ⟨G, 0, none⟩) na ca (hW.at_ 4 rfl)).2.2
              go_simp
              exact hK _ _ (World.grownBy.refl _ _) rfl
             ·intro a W hW hb hd K hK
              have b11 := hb 11 rfl
              go_simp
              exact hK _ _ (World.grownBy.refl _ _) rfl
             ·intro a W hW hb hd K hK
              have b10 := hb 10 rfl
              refine wp_load_any 64 (.tmp 10) rfl ⟨gx, 0, none⟩ (show a.eval (.tmp 10) = _ from by simp only [Act.eval, Array.getD_eq_getD_getElem?]; exact b10) (ksC x) _ (Cells.sub (hW.at_ 3 rfl) 0 (fun j u h => by rwa [Nat.zero_add])) Try.underlying64 rfl (by rw [ksC_len hxr.out]; kernel_rfl) ?_
              exact hK _ _ (World.grownBy.refl _ _) rfl
             ·intro a W hW hb hd K hK
              have b85 : a.tmps[85]?.getD undef = _ := hd ⟨3, .data⟩ (by simp) rfl
              have hsz : gx < W.heap.size := Cells.lt (hW.at_ 3 rfl)
              have hKO := HBL.out W (hW.at_ 9 rfl)
              go_simp
              refine (duplicateK_any W B x hKO (by omega) hxn.out.1 hxn.out.2).mono ?_
              rintro e w' ⟨x', rfl, h1, h2, h3, hb'⟩
              exact hK _ _ (grown_of_below hb') ⟨x', rfl, h1, h2, fun b hb => ⟨by have := (h3 b hb).1; omega, (h3 b hb).2⟩⟩
           case fin3 =>
            intro vs V hV hv
            have e1 : vs 1 = _ := hv 1 (by decide)
            have e2 : vs 2 = _ := hv 2 (by decide)
            obtain ⟨x', e4, hxs, hxo, hxb⟩ := (hv 4 (by decide) : VF.ok (.dupK (gx + 1) x.s) (vs 4) V)
            clear hv hV6
            simp only [putAll, Nat.zero_add, Nat.reduceAdd, List.drop_succ_cons, List.drop_zero, e1, e2, e4, Act.put, List.setIfInBounds_toArray, List.set_cons_succ, List.set_cons_zero]
            clear e1 e2 e4
            have hN : Nest V b7 64 20 (some ⟨G, 0, none⟩) na ca (acc.map ksC).flatten 0 (KsF acc) (KsI acc) := hV.at_ 2 rfl
            have hXG : ¬ KsF [x'] G := fun h => by have := (hxb _ h).1; omega
            have hlk : ∀ z ∈ acc, (ksC z).length = 20 := fun z hz => ksC_len (hN.inn z hz).r16
            have hV7 : All V (.own b7 64 20 (some ⟨G, 0, none⟩) na ca (acc.map ksC).flatten :: .ksd b7 acc :: .ksd b7 [x'] :: [.cells gn 3 [.int .i64 ((cnt + 1 + 1 : Nat) : Int)], .cells gm 37 (m.map bv), .cells gx 64 (ksC x), .cells gO 25 (envC kind Ap7 np cp7 (some ⟨G, 0, none⟩) na ca), .own s6 5 1 Ap7 np cp7 (pay.map bv), .cells (g + 2) 25 envZ, .cells (g + 1) 25 (envC kind Bp np bcp (some ad) nb bc), .cells g 25 (envC kind Ap np cp As ns cc), .low (.kss B (some ad) nb l2), .kept w w.heap.size]) := ⟨hN.own, ksd_of hN.inn hN.fr, ksd_of (fun y hy => by rw [List.mem_singleton.1 hy]; exact hxo) (fun b hb => ⟨by have := (hxb b hb).1; omega, (hxb b hb).2⟩), hV.at_ 0 rfl, hV.at_ 1 rfl, hV.2.2.2⟩
            have hfl := flat_set hlk HPA.out x'
            have HX20 := Lib.hid (ksC_len hxo.r16)
            have hrl : ((acc.map ksC).flatten).length = na * 20 := (hN.own).1
            have HM2 : Hid ((acc.set pl x').map Ks.s = accS m l2 (k + 1) (l.map Ks.s)) := Lib.hid (by rw [HST.out, HSET.out x' hxs]; simp)
            have HL2 : Hid ((acc.set pl x').length = na) := Lib.hid (by rw [List.length_set]; exact HLA.out)
            have HO2 : Hid (∀ b, ((Value.slice (some ⟨G, 0, none⟩) na ca).ownBlock = some b ∨ KsF (acc.set pl x') b) → b ≠ gO) := Lib.hid (fun b hb => by
             rcases hb with h | h
             ·exact HO.out b (.inl h)
             ·rcases h.set with h | h
              ·exact HO.out b (.inr h)
              ·have := (hxb b h).1; omega)
            clear hV hN hxo hxb hxs HST HSET hlk
            go_upto_region 15 with (refine wl_store_row hV7 0 rfl 64 (.tmp 87) (.tmp 86) rfl (off := pl * 20) rfl (ksC x') (by rw [hrl, HX20.out]; omega) rfl rfl (by rw [HX20.out]; kernel_rfl) (ksC_one x') ⟨ksd_apart hHG, ksd_apart hXG, by simp [Res.apart] <;> omega, by simp [Res.apart] <;> omega, by simp [Res.apart] <;> omega, by simp [Res.apart] <;> omega, own_apart HPB7.out hGb, by simp [Res.apart] <;> omega, by simp [Res.apart] <;> omega, by simp [Res.apart] <;> omega, by simp [Res.apart, Low.kss] <;> omega, by simp [Res.apart] <;> omega, trivial⟩ ?_; intro W8 hW8 hs8; clear hs8; simp only [List.set_cons_zero, List.set_cons_succ] at hW8)
            have hJ8 : All W8 [.ksn 64 b7 (some ⟨G, 0, none⟩) na ca (acc.set pl x'), .cells gO 25 (envC kind Ap7 np cp7 (some ⟨G, 0, none⟩) na ca), .own s6 5 1 Ap7 np cp7 (pay.map bv), .cells gn 3 [.int .i64 ((cnt + 1 + 1 : Nat) : Int)], .cells gm 37 (m.map bv), .cells (g + 2) 25 envZ, .cells (g + 1) 25 (envC kind Bp np bcp (some ad) nb bc), .cells g 25 (envC kind Ap np cp As ns cc), .low (.kss B (some ad) nb l2), .kept w w.heap.size] := ⟨ksn_set (by have h := hW8.at_ 0 rfl; rw [HX20.out, hfl] at h; exact h) (hW8.at_ 1 rfl) (hW8.at_ 2 rfl) hHG hXG, hW8.at_ 6 rfl, hW8.at_ 7 rfl, hW8.at_ 3 rfl, hW8.at_ 4 rfl, hW8.at_ 8 rfl, hW8.at_ 9 rfl, hW8.at_ 10 rfl, hW8.at_ 11 rfl, hW8.at_ 12 rfl, trivial⟩
            clear hV7 hW8 hfl hrl
            generalize acc.set pl x' = acc9 at *
            go_wp2_with fail
            exact ⟨⟨k + 1, cnt + 1 + 1, na, ca, _, acc9, by omega, by go_num, by omega, HL2, HM2, HO2, hJ8⟩, by simp [intOf]; omega⟩
      ·obtain rfl : k = nb := by omega
       have d1 : decide ((k : Int) < (k : Int)) = false := by simp
       have HS := Lib.hid (HSJ.out acc HMA.out)
       rw [HLA.out] at HS
       have q3 := (env_cells kind Ap7 np cp7 A na ca (hI.at_ 1 rfl)).2.2
       by_cases h8 : 8 < na
       ·have d8 : decide ((8 : Int) < (na : Int)) = true := by simp; omega
        have d8' : decide (8 < na) = true := by simp; omega
        have HS3 : Hid (joinE ⟨kind, pay, l.map Ks.s⟩ ⟨kind, pay, l2.map Ks.s⟩ = (envR0, 3)) := Lib.hid (by rw [HS.out, if_pos h8])
        clear h8
        go_wp2_with (first
         | (refine wl_build rfl 25 [] rfl _ _ #[(0, 1), (1, 1), (2, 1)] envZ.toArray zero_env Try.underlying25 (fun w => by kernel_rfl) rfl ?_)
         | (refine wl_store_at hI 5 rfl 25 (.tmp 4) (.tmp 93) rfl (g + 2) _ _ (envZ) rfl rfl rfl rfl (by kernel_rfl) (envC_one _ _ _ _ _ _ _) ⟨ksn_below (by omega), by simp [Res.apart] <;> omega, own_below (by omega), by simp [Res.apart] <;> omega, by simp [Res.apart] <;> omega, by simp [Res.apart] <;> omega, by simp [Res.apart] <;> omega, by simp [Res.apart, Low.kss] <;> omega, by simp [Res.apart] <;> omega, trivial⟩ ?_; intro W8 hW8 hsW8; clear hsW8; simp only [List.set_cons_zero, List.set_cons_succ] at hW8))
        refine bodyPost_ret (v := .tuple #[.agg (envZ).toArray, .int .i64 3]) ?_ rfl ⟨envZ, by rw [HS3.out], by rw [HS3.out]; exact EnvAt.zero, (hW8.at_ 9 rfl : _ ∧ _).1⟩
        exact results_row_tmp (p := 4) (q := 5) rfl _ _ (g + 2) 25 (envZ).toArray (0, 0) _ rfl (hW8.at_ 5 rfl) Try.underlying25 rfl (by kernel_rfl)
       ·have d8 : decide ((8 : Int) < (na : Int)) = false := by simp; omega
        have d8' : decide (8 < na) = false := by simp; omega
        have HS0 : Hid (joinE ⟨kind, pay, l.map Ks.s⟩ ⟨kind, pay, l2.map Ks.s⟩ = (⟨kind, pay, acc.map Ks.s⟩, 0)) := Lib.hid (by rw [HS.out, if_neg h8])
        clear h8
        go_wp2_with (first
         | (refine wl_load_any rfl 25 (.tmp 8) rfl ⟨gO, 0, none⟩ rfl (envC kind Ap7 np cp7 A na ca) _ (Cells.sub (hI.at_ 1 rfl) 0 (fun j u h => by rwa [Nat.zero_add])) Try.underlying25 rfl (by kernel_rfl) ?_)
         | (refine wl_store_at hI 5 rfl 25 (.tmp 4) (.tmp 94) rfl (g + 2) _ _ (envC kind Ap7 np cp7 A na ca) rfl rfl rfl rfl (by kernel_rfl) (envC_one _ _ _ _ _ _ _) ⟨ksn_below (by omega), by simp [Res.apart] <;> omega, own_below (by omega), by simp [Res.apart] <;> omega, by simp [Res.apart] <;> omega, by simp [Res.apart] <;> omega, by simp [Res.apart] <;> omega, by simp [Res.apart, Low.kss] <;> omega, by simp [Res.apart] <;> omega, trivial⟩ ?_; intro W8 hW8 hsW8; clear hsW8; simp only [List.set_cons_zero, List.set_cons_succ] at hW8))
        have hN : Nest W8 b7 64 20 A na ca (acc.map ksC).flatten 0 (KsF acc) (KsI acc) := hW8.at_ 0 rfl
        have hP : Go.Adm.Own W8 s6 5 1 Ap7 np cp7 (pay.map bv) := hW8.at_ 2 rfl
        refine bodyPost_ret (v := .tuple #[.agg (envC kind Ap7 np cp7 A na ca).toArray, .int .i64 0]) ?_ rfl ⟨envC kind Ap7 np cp7 A na ca, by rw [HS0.out], by rw [HS0.out]; exact ⟨Ap7, np, cp7, A, na, ca, acc, rfl, HPN.out, hP.rd, rfl, ksn_kss (hW8.at_ 0 rfl) HLA.out, hP.cap.1, hP.cap.2, hN.own.cap.1, hN.own.cap.2⟩, (hW8.at_ 9 rfl : _ ∧ _).1⟩
        exact results_row_tmp (p := 4) (q := 5) rfl _ _ (g + 2) 25 (envC kind Ap7 np cp7 A na ca).toArray (0, 0) _ rfl (hW8.at_ 5 rfl) Try.underlying25 rfl (by kernel_rfl)
    ·have HS : Hid (joinE ⟨kind, pay, l.map Ks.s⟩ ⟨kind, pay2, l2.map Ks.s⟩ = (envR0, 9)) := Lib.hid (joinE_dif HV1.out HV2.out (.inr hpp))
     rw [decide_eq_false hpp] at heq
     go_wp2_with (first
      | (go_at_call 49; refine heq.mono ?_; clear heq; rintro e w4 ⟨rfl, rfl⟩)
      | (refine wl_build rfl 25 [] rfl _ _ #[(0, 1), (1, 1), (2, 1)] envZ.toArray zero_env Try.underlying25 (fun w => by kernel_rfl) rfl ?_)
      | (refine wl_store_at hI3 0 rfl 25 (.tmp 4) (.tmp 35) rfl (g + 2) _ _ (envZ) rfl rfl rfl rfl (by kernel_rfl) (envC_one _ _ _ _ _ _ _) ⟨by simp [Res.apart], by simp [Res.apart], by simp [Res.apart, Low.kss] <;> omega, by simp [Res.apart, Low.rd] <;> omega, by simp [Res.apart, Low.kss] <;> omega, by simp [Res.apart, Low.rd] <;> omega, by simp [Res.apart] <;> omega, trivial⟩ ?_; intro W8 hW8 hsW8; clear hsW8; simp only [List.set_cons_zero, List.set_cons_succ] at hW8))
     refine bodyPost_ret (v := .tuple #[.agg (envZ).toArray, .int .i64 9]) ?_ rfl ⟨envZ, by rw [HS.out], by rw [HS.out]; exact EnvAt.zero, (hW8.at_ 7 rfl : _ ∧ _).1⟩
     exact results_row_tmp (p := 4) (q := 5) rfl _ _ (g + 2) 25 (envZ).toArray (0, 0) _ rfl (hW8.at_ 0 rfl) Try.underlying25 rfl (by kernel_rfl)
   ·have HS : Hid (joinE ⟨kind, pay, l.map Ks.s⟩ ⟨kind2, pay2, l2.map Ks.s⟩ = (envR0, 9)) := Lib.hid (joinE_dif HV1.out HV2.out (.inl hkk))
    have d1 : ¬ kind.toList = kind2.toList := ba_ne hkk
    have d1' : (kind.toList == kind2.toList) = false := by rw [beq_eq_false_iff_ne]; exact d1
    go_wp2_with (first
     | (refine wl_build rfl 25 [] rfl _ _ #[(0, 1), (1, 1), (2, 1)] envZ.toArray zero_env Try.underlying25 (fun w => by kernel_rfl) rfl ?_)
     | (refine wl_store_at hI3 0 rfl 25 (.tmp 4) (.tmp 35) rfl (g + 2) _ _ (envZ) rfl rfl rfl rfl (by kernel_rfl) (envC_one _ _ _ _ _ _ _) ⟨by simp [Res.apart], by simp [Res.apart], by simp [Res.apart, Low.kss] <;> omega, by simp [Res.apart, Low.rd] <;> omega, by simp [Res.apart, Low.kss] <;> omega, by simp [Res.apart, Low.rd] <;> omega, by simp [Res.apart] <;> omega, trivial⟩ ?_; intro W8 hW8 hsW8; clear hsW8; simp only [List.set_cons_zero, List.set_cons_succ] at hW8))
    refine bodyPost_ret (v := .tuple #[.agg (envZ).toArray, .int .i64 9]) ?_ rfl ⟨envZ, by rw [HS.out], by rw [HS.out]; exact EnvAt.zero, (hW8.at_ 7 rfl : _ ∧ _).1⟩
    exact results_row_tmp (p := 4) (q := 5) rfl _ _ (g + 2) 25 (envZ).toArray (0, 0) _ rfl (hW8.at_ 0 rfl) Try.underlying25 rfl (by kernel_rfl)
end Go.Proofs.Ytfakjamocpamiaa

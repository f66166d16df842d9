/- The law EnvelopeCounts. -/
import Derived.Test.YtfakjamocpamiaaEnvY
set_option linter.unusedSimpArgs false
set_option linter.unusedVariables false
set_option maxRecDepth 100000
namespace Go.Proofs.Ytfakjamocpamiaa
open Go Go.RowKit Go.Adm
set_option maxHeartbeats 6400000 in
theorem walkCounts (w : World) (B : Nat) (Ap : Option Addr) (cp : Nat) (p : List UInt8) (As : Option Addr) (cq : Nat) (q : List UInt8) (sp : Int) (b : UInt8) (hcp : p.length ≤ cp) (hcm : cp ≤ 140737488351232) (hp : Rd w B 1 Ap p.length (p.map bv)) (hcq : q.length ≤ cq) (hcn : cq ≤ 140737488351232) (hq : Rd w B 1 As q.length (q.map bv)) (hs0 : -9223372036854775808 ≤ sp) (hs1 : sp ≤ 9223372036854775807) (more : UInt8) (hB : B ≤ w.heap.size) :
    Calls Try.prog 6 #[.agg (caseC Ap p.length cp As q.length cq sp b).toArray, .int .u8 (more.toNat : Int)] w fun e w' => e = .returned (.bool true) ∧ Below w.heap.size w w' := by
  have hR : All w [.low (.rd B 1 Ap p.length (p.map bv)), .low (.rd B 1 As q.length (q.map bv)), .kept w w.heap.size] := ⟨⟨hp, hB⟩, ⟨hq, hB⟩, ⟨Below.refl _ _, Nat.le_refl _⟩, trivial⟩
  have HCP := Lib.hid (And.intro hcp hcm)
  have HCQ := Lib.hid (Nat.le_trans hcq hcn)
  clear hp hq hcp hcm hcq hcn hs0 hs1
  go_enter Try.func6, Try.ntmps6
  go_upto_region 1 with (fail)
  obtain ⟨g, hg⟩ : ∃ g, g = w.heap.size := ⟨_, rfl⟩
  refine wp_gen (hR.new (l := caseC Ap p.length cp As q.length cq sp b) (g := g) _ 27 hg rfl) ?_
  intro W1 hW1
  simp only [← hg]
  have HBW : Hid (B ≤ g ∧ w.heap.size = g) := Lib.hid ⟨by rw [hg]; exact hB, hg.symm⟩
  clear hR hg hB
  have z1 := Cells.frozen (hW1.at_ 0 rfl) 2
  have q1 := (case_cells (hW1.at_ 0 rfl)).2.2.1
  go_upto_region 2 with (fail)
  refine wp_gen (hW1.store 0 rfl 2 (.int .i64 0) ⟨by simp [Res.apart, Low.rd]; exact HBW.out.1, by simp [Res.apart, Low.rd]; exact HBW.out.1, by simp [Res.apart]; exact Nat.le_of_eq HBW.out.2, trivial⟩) ?_
  rw [show (caseC Ap p.length cp As q.length cq sp b).set 2 (.int .i64 0) = caseC Ap p.length cp As q.length cq 0 b from rfl]
  intro W2 hW2
  simp only [List.set_cons_zero] at hW2
  clear hW1 z1 q1
  have hmade := made_any W2 B Ap p.length cp p As q.length cq q 0 b (hW2.at_ 1 rfl : Rd W2 B 1 Ap _ _ ∧ _).1 rfl HCP.out.1 HCP.out.2 (hW2.at_ 2 rfl : Rd W2 B 1 As _ _ ∧ _).1 rfl HCQ.out (by decide) (hW2.at_ 1 rfl : _ ∧ B ≤ W2.heap.size).2
  go_wp2_with (first
    | (refine wl_load_any rfl 27 (.tmp 2) rfl ⟨g, 0, none⟩ rfl (caseC Ap p.length cp As q.length cq 0 b) _ (Cells.sub (hW2.at_ 0 rfl) 0 (fun j u h => by rwa [Nat.zero_add])) Try.underlying27 rfl (by kernel_rfl) ?_)
    | fail)
  refine hmade.mono ?_
  clear hmade
  rintro e w3 ⟨R, cs, rfl, hE, hM, hb3⟩
  have hR0 := hM.zero spoil_zero
  have HSM := Lib.hid hM.sm
  have HCN : Hid ((signersE R).length = R.sigs.length) := Lib.hid (by rw [hR0]; exact (baseR_ok p q).count)
  obtain ⟨RA, s2, h2, n2, er, hS, hs2, hh2, hn2, hsh, hka, hpa, hsa⟩ := signE_all R (seedM more) 0 0 rfl HSM.out.1 HSM.out.2.1 HSM.out.2.2
  have HONE' : Hid (er = 0 → validR RA = true ∧ RA.kind = R.kind ∧ RA.pay = R.pay ∧ (signersE RA).length = R.sigs.length + 1) := Lib.hid (fun h0 => by
    have h1 := counts_one p q (seedM more)
    rw [← hR0, hS] at h1
    exact h1 h0)
  obtain ⟨Ap1, np1, cp1, As1, cc1, rfl, hpl1, -⟩ := hE.form
  have HPL1 := Lib.hid hpl1
  have HS2 := Lib.hid hs2
  have HRA := Lib.hid (And.intro hka (And.intro hpa hsa))
  have HE1 : Hid (∀ W, EnvAt W W.heap.size R (envC R.kind Ap1 np1 cp1 As1 R.sigs.length cc1) → Calls Try.prog 19 #[.agg (envC R.kind Ap1 np1 cp1 As1 R.sigs.length cc1).toArray, .agg (siCells (seedM more) 0 0).toArray] W (SignPostE (RA, siCells s2 h2 n2, er) W)) := Lib.hid (fun W hW => by
    have h1 := SignE_any W W.heap.size R _ (seedM more) 0 0 hW rfl (Nat.le_trans HSM.out.1 (by decide)) (Nat.le_trans HSM.out.2.1 (by decide)) (Nat.le_trans HSM.out.2.2 (by decide)) (Nat.le_refl _)
    rwa [hS] at h1)
  have HE2 : Hid (∀ W, EnvAt W W.heap.size R (envC R.kind Ap1 np1 cp1 As1 R.sigs.length cc1) → Calls Try.prog 20 #[.agg (envC R.kind Ap1 np1 cp1 As1 R.sigs.length cc1).toArray, .agg (siCells (seedM more) 0 0).toArray] W (SignPostE (RA, siCells s2 h2 n2, er) W)) := Lib.hid (fun W hW => by
    have h1 := refSignE_any W W.heap.size R _ (seedM more) 0 0 hW rfl (Nat.le_trans HSM.out.1 (by decide)) (Nat.le_trans HSM.out.2.1 (by decide)) (Nat.le_trans HSM.out.2.2 (by decide)) (Nat.le_refl _)
    rwa [hS] at h1)
  clear hR0 hM hS hs2 hh2 hn2 hsh hka hpa hsa hpl1
  obtain ⟨ga, hga⟩ : ∃ ga, ga = w3.heap.size := ⟨_, rfl⟩
  rw [← hga] at hE
  have hI3 : All w3 (.low (.env ga R (envC R.kind Ap1 np1 cp1 As1 R.sigs.length cc1)) :: .cells g 27 (caseC Ap p.length cp As q.length cq 0 b) :: [.low (.rd B 1 Ap p.length (p.map bv)), .low (.rd B 1 As q.length (q.map bv)), .kept w w.heap.size]) := ⟨⟨hE, by rw [hga]; exact Nat.le_refl _⟩, hW2.call hb3⟩
  have HGA := Lib.hid hga
  clear hW2 hE hb3 hga
  have hze := zero_env
  have hzs := zero_si
  go_upto_region 3 with (rw [← HGA.out]; refine wl_store_at (hI3.new (l := envZ) (g := ga) _ 25 HGA.out rfl) 0 rfl 25 (.tmp 5) (.tmp 15) rfl ga _ _ (envC R.kind Ap1 np1 cp1 As1 R.sigs.length cc1) rfl rfl rfl rfl (by kernel_rfl) (by simp [envC, Value.oneCell']) (hI3.fresh (by rw [HGA.out]; exact Nat.le_refl _) rfl) ?_; intro W4 hW4 hs4; clear hs4; simp only [List.set_cons_zero] at hW4)
  clear hI3 HGA
  have hsg := SignersE_any W4 ga R _ (hW4.at_ 1 rfl : EnvAt W4 ga R _ ∧ _).1 (Nat.le_trans HSM.out.1 (by decide)) (Nat.le_trans HSM.out.2.1 (by decide)) (Nat.le_trans HSM.out.2.2 (by decide)) (hW4.at_ 1 rfl : _ ∧ ga ≤ W4.heap.size).2
  go_wp2_with (first
    | (refine wl_load_any rfl 25 (.tmp 5) rfl ⟨ga, 0, none⟩ rfl (envC R.kind Ap1 np1 cp1 As1 R.sigs.length cc1) _ (Cells.sub (hW4.at_ 0 rfl) 0 (fun j u h => by rwa [Nat.zero_add])) Try.underlying25 rfl (by kernel_rfl) ?_)
    | fail)
  refine hsg.mono ?_
  clear hsg
  intro e w5 hP
  obtain ⟨A5, c5, rfl, -, hb5⟩ := SgsPost.v hP
  rw [HCN.out]
  have hW5 := hW4.call hb5
  clear hW4 hP hb5
  have hEx := (hW5.at_ 1 rfl : EnvAt w5 ga R _ ∧ ga ≤ w5.heap.size)
  have hsg := HE2.out w5 (hEx.1.mono hEx.2)
  clear hEx
  go_wp2_with (first
    | (refine wl_load_any rfl 25 (.tmp 5) rfl ⟨ga, 0, none⟩ rfl (envC R.kind Ap1 np1 cp1 As1 R.sigs.length cc1) _ (Cells.sub (hW5.at_ 0 rfl) 0 (fun j u h => by rwa [Nat.zero_add])) Try.underlying25 rfl (by kernel_rfl) ?_)
    | (refine wl_build rfl 43 [(0, .tmp 22)] rfl _ _ #[(0, 16), (16, 1), (17, 1)] (siCells (seedM more) 0 0).toArray zero_si Try.underlying43 (fun w => by kernel_rfl) (fill_si1 (seedM more) rfl) ?_)
    | fail)
  refine hsg.mono ?_
  clear hsg
  rintro e w6 ⟨csA, rfl, hEA, hb6⟩
  have HLA := Lib.hid hEA.len
  have HOA := Lib.hid hEA.one
  obtain ⟨gb, hgb⟩ : ∃ gb, gb = w6.heap.size := ⟨_, rfl⟩
  have hI6 := hW5.call hb6
  have HGB := Lib.hid hgb
  clear hW5 hEA hb6 hgb
  go_upto_region 5 with (first
    | (rw [← HGB.out]; refine wl_store_at ((hI6.new (l := envZ) (g := gb) _ 25 HGB.out rfl).new (l := siz) (g := gb + 1) _ 43 (by simp [HGB.out]) rfl) 1 rfl 25 (.tmp 7) (.tmp 25) rfl gb _ _ csA rfl rfl rfl (by rw [HLA.out]; rfl) (by rw [HLA.out]; kernel_rfl) HOA.out ⟨by simp [Res.apart], hI6.fresh (by rw [HGB.out]; exact Nat.le_refl _) rfl⟩ ?_; intro W7 hW7 hs7; clear hs7; simp only [List.set_cons_zero, List.set_cons_succ] at hW7)
    | (refine wl_store_at hW7 0 rfl 43 (.tmp 8) (.tmp 26) rfl (gb + 1) _ _ (siCells s2 h2 n2) rfl rfl rfl (by rw [si_len _ _ _ HS2.out]; rfl) (by rw [si_len _ _ _ HS2.out]; kernel_rfl) (si_one _ _ _) ⟨by simp [Res.apart], hI6.fresh (by rw [HGB.out]; omega) rfl⟩ ?_; intro W8 hW8 hs8; clear hs8; simp only [List.set_cons_zero, List.set_cons_succ] at hW8))
  have hI8 : All W8 (.cells ga 25 (envC R.kind Ap1 np1 cp1 As1 R.sigs.length cc1) :: .low (.env ga R (envC R.kind Ap1 np1 cp1 As1 R.sigs.length cc1)) :: .cells g 27 (caseC Ap p.length cp As q.length cq 0 b) :: [.low (.rd B 1 Ap p.length (p.map bv)), .low (.rd B 1 As q.length (q.map bv)), .kept w w.heap.size]) := hW8.2.2
  clear hI6 hW7 hW8 HGB
  by_cases h0 : er = 0
  · subst h0
    obtain ⟨hva, hka, hpa, hca⟩ := HONE'.out rfl
    have HVA := Lib.hid hva
    have HKA := Lib.hid hka
    have HPA := Lib.hid hpa
    have HCA := Lib.hid hca
    clear hva hka hpa hca
    have hEx := (hI8.at_ 1 rfl : EnvAt W8 ga R _ ∧ ga ≤ W8.heap.size)
    have hsg := HE1.out W8 (hEx.1.mono hEx.2)
    clear hEx
    go_upto_region 7 with fail
    go_wp2_with (first
      | (refine wl_load_any rfl 25 (.tmp 5) rfl ⟨ga, 0, none⟩ rfl (envC R.kind Ap1 np1 cp1 As1 R.sigs.length cc1) _ (Cells.sub (hI8.at_ 0 rfl) 0 (fun j u h => by rwa [Nat.zero_add])) Try.underlying25 rfl (by kernel_rfl) ?_)
      | (refine wl_build rfl 43 [(0, .tmp 34)] rfl _ _ #[(0, 16), (16, 1), (17, 1)] (siCells (seedM more) 0 0).toArray zero_si Try.underlying43 (fun w => by kernel_rfl) (fill_si1 (seedM more) rfl) ?_)
      | fail)
    refine hsg.mono ?_
    clear hsg
    rintro e w9 ⟨csB, rfl, hEB, hb9⟩
    obtain ⟨Ap3, np3, cp3, As3, cc3, rfl, hpl3, -⟩ := hEB.form
    have HPL3 := Lib.hid hpl3
    obtain ⟨gc, hgc⟩ : ∃ gc, gc = w9.heap.size := ⟨_, rfl⟩
    rw [← hgc] at hEB
    have hI9 : All w9 (.low (.env gc RA (envC RA.kind Ap3 np3 cp3 As3 RA.sigs.length cc3)) :: .cells ga 25 (envC R.kind Ap1 np1 cp1 As1 R.sigs.length cc1) :: .low (.env ga R (envC R.kind Ap1 np1 cp1 As1 R.sigs.length cc1)) :: .cells g 27 (caseC Ap p.length cp As q.length cq 0 b) :: [.low (.rd B 1 Ap p.length (p.map bv)), .low (.rd B 1 As q.length (q.map bv)), .kept w w.heap.size]) := ⟨⟨hEB, by rw [hgc]; exact Nat.le_refl _⟩, hI8.call hb9⟩
    have HGC := Lib.hid hgc
    clear hI8 hEB hb9 hgc hpl3
    go_upto_region 8 with (first
      | (rw [← HGC.out]; refine wl_store_at ((hI9.new (l := envZ) (g := gc) _ 25 HGC.out rfl).new (l := siz) (g := gc + 1) _ 43 (by simp [HGC.out]) rfl) 1 rfl 25 (.tmp 10) (.tmp 37) rfl gc _ _ (envC RA.kind Ap3 np3 cp3 As3 RA.sigs.length cc3) rfl rfl rfl rfl (by kernel_rfl) (by simp [envC, Value.oneCell']) ⟨by simp [Res.apart], hI9.fresh (by rw [HGC.out]; exact Nat.le_refl _) rfl⟩ ?_; intro W10 hW10 hs10; clear hs10; simp only [List.set_cons_zero, List.set_cons_succ] at hW10)
      | (refine wl_store_at hW10 0 rfl 43 (.tmp 11) (.tmp 38) rfl (gc + 1) _ _ (siCells s2 h2 n2) rfl rfl rfl (by rw [si_len _ _ _ HS2.out]; rfl) (by rw [si_len _ _ _ HS2.out]; kernel_rfl) (si_one _ _ _) ⟨by simp [Res.apart], hI9.fresh (by rw [HGC.out]; omega) rfl⟩ ?_; intro W11 hW11 hs11; clear hs11; simp only [List.set_cons_zero, List.set_cons_succ] at hW11))
    have hI11 : All W11 (.cells gc 25 (envC RA.kind Ap3 np3 cp3 As3 RA.sigs.length cc3) :: .low (.env gc RA (envC RA.kind Ap3 np3 cp3 As3 RA.sigs.length cc3)) :: .cells ga 25 (envC R.kind Ap1 np1 cp1 As1 R.sigs.length cc1) :: .low (.env ga R (envC R.kind Ap1 np1 cp1 As1 R.sigs.length cc1)) :: .cells g 27 (caseC Ap p.length cp As q.length cq 0 b) :: [.low (.rd B 1 Ap p.length (p.map bv)), .low (.rd B 1 As q.length (q.map bv)), .kept w w.heap.size]) := hW11.2
    clear hI9 hW10 hW11 HGC
    have q2 := (env_cells R.kind Ap1 np1 cp1 As1 R.sigs.length cc1 (hI11.at_ 2 rfl)).2.2
    have hsg := SignersE_any W11 gc RA _ (hI11.at_ 1 rfl : EnvAt W11 gc RA _ ∧ _).1 (Nat.le_trans HRA.out.1 (by decide)) (Nat.le_trans HRA.out.2.1 (by decide)) (Nat.le_trans HRA.out.2.2 (by decide)) (hI11.at_ 1 rfl : _ ∧ gc ≤ W11.heap.size).2
    obtain ⟨N, hN⟩ : ∃ N, R.sigs.length = N := ⟨_, rfl⟩
    have HN12 : Hid (N ≤ 12) := Lib.hid (by rw [← hN]; exact HSM.out.2.2)
    have wk4 : IntKind.i64.wrap ((N : Int) + 1) = ((N + 1 : Nat) : Int) := by rw [IntWalk.i64_in _ (by have := HN12.out; omega)]; omega
    rw [hN] at HCA hI11 q2 ⊢
    clear hN
    go_wp2_with (first
      | (refine wl_met_load 25 (.tmp 10) rfl ⟨gc, 0, none⟩ rfl (envC RA.kind Ap3 np3 cp3 As3 RA.sigs.length cc3) _ (Cells.sub (hI11.at_ 0 rfl) 0 (fun j u h => by rwa [Nat.zero_add])) Try.underlying25 rfl (by kernel_rfl) rfl ?_)
      | (go_at_call 14; refine hsg.mono ?_; clear hsg; intro e w12 hP; obtain ⟨A12, c12, rfl, -, hb12⟩ := SgsPost.v hP; rw [HCA.out]; have hI12 := hI11.call hb12; clear hP hb12 hI11)
      | fail)
    go_upto_region 10 with fail
    obtain ⟨m, hm⟩ : ∃ m, msgS R.kind R.pay = m := ⟨_, rfl⟩
    have HML : Hid (m.length = 32) := Lib.hid (by rw [← hm]; exact msgS_len _ _)
    have HM1 : Hid (∀ W, All W (.cells gc 25 (envC RA.kind Ap3 np3 cp3 As3 RA.sigs.length cc3) :: .low (.env gc RA (envC RA.kind Ap3 np3 cp3 As3 RA.sigs.length cc3)) :: .cells ga 25 (envC R.kind Ap1 np1 cp1 As1 N cc1) :: .low (.env ga R (envC R.kind Ap1 np1 cp1 As1 N cc1)) :: .cells g 27 (caseC Ap p.length cp As q.length cq 0 b) :: [.low (.rd B 1 Ap p.length (p.map bv)), .low (.rd B 1 As q.length (q.map bv)), .kept w w.heap.size]) → Calls Try.prog 17 #[.string RA.kind, .slice Ap3 np3 cp3] W fun e w' => e = .returned (.agg (m.map bv).toArray) ∧ Below W.heap.size W w') := Lib.hid (fun W hW => by
      have h1 := Message_any W gc RA.kind Ap3 np3 cp3 RA.pay (EnvAt.pay (hW.at_ 1 rfl : EnvAt W gc RA (envC RA.kind Ap3 np3 cp3 As3 RA.sigs.length cc3) ∧ _).1) (Nat.le_trans HRA.out.1 (by decide)) (by rw [← HPL3.out]; exact Nat.le_trans HRA.out.2.1 (by decide)) (hW.at_ 1 rfl : _ ∧ gc ≤ W.heap.size).2
      rw [HPA.out, HKA.out, hm] at h1
      rw [HKA.out]
      exact h1)
    have HM2 : Hid (∀ W, All W (.cells gc 25 (envC RA.kind Ap3 np3 cp3 As3 RA.sigs.length cc3) :: .low (.env gc RA (envC RA.kind Ap3 np3 cp3 As3 RA.sigs.length cc3)) :: .cells ga 25 (envC R.kind Ap1 np1 cp1 As1 N cc1) :: .low (.env ga R (envC R.kind Ap1 np1 cp1 As1 N cc1)) :: .cells g 27 (caseC Ap p.length cp As q.length cq 0 b) :: [.low (.rd B 1 Ap p.length (p.map bv)), .low (.rd B 1 As q.length (q.map bv)), .kept w w.heap.size]) → Calls Try.prog 17 #[.string R.kind, .slice Ap1 np1 cp1] W fun e w' => e = .returned (.agg (m.map bv).toArray) ∧ Below W.heap.size W w') := Lib.hid (fun W hW => by
      have h1 := Message_any W ga R.kind Ap1 np1 cp1 R.pay (EnvAt.pay (hW.at_ 3 rfl : EnvAt W ga R (envC R.kind Ap1 np1 cp1 As1 N cc1) ∧ _).1) (Nat.le_trans HSM.out.1 (by decide)) (by rw [← HPL1.out]; exact Nat.le_trans HSM.out.2.1 (by decide)) (hW.at_ 3 rfl : _ ∧ ga ≤ W.heap.size).2
      rw [hm] at h1
      skip
      exact h1)
    have HV1 : Hid (∀ W, All W (.cells gc 25 (envC RA.kind Ap3 np3 cp3 As3 RA.sigs.length cc3) :: .low (.env gc RA (envC RA.kind Ap3 np3 cp3 As3 RA.sigs.length cc3)) :: .cells ga 25 (envC R.kind Ap1 np1 cp1 As1 N cc1) :: .low (.env ga R (envC R.kind Ap1 np1 cp1 As1 N cc1)) :: .cells g 27 (caseC Ap p.length cp As q.length cq 0 b) :: [.low (.rd B 1 Ap p.length (p.map bv)), .low (.rd B 1 As q.length (q.map bv)), .kept w w.heap.size]) → Calls Try.prog 11 #[.agg (envC RA.kind Ap3 np3 cp3 As3 RA.sigs.length cc3).toArray] W fun e w' => e = .returned (.bool true) ∧ Below W.heap.size W w') := Lib.hid (fun W hW => by
      have h1 := ValidE_at W gc RA _ (hW.at_ 1 rfl : EnvAt W gc RA _ ∧ _).1 (Nat.le_trans HRA.out.1 (by decide)) (Nat.le_trans HRA.out.2.1 (by decide)) (Nat.le_trans HRA.out.2.2 (by decide)) (hW.at_ 1 rfl : _ ∧ gc ≤ W.heap.size).2
      rwa [HVA.out] at h1)
    have heq : ∀ W, (binOp .eql 37 (.agg (m.map bv).toArray) (.agg (m.map bv).toArray)).run Try.prog W = .ok (.bool true) W := fun W => by rw [eq_dg W m m HML.out HML.out]; simp
    clear hm q2 wk4
    refine wp_region_hops 17 [57, 58, 59, 60, 61, 62, 63, 64, 65, 66, 67, 68, 69, 70, 71, 72, 73] (.cells gc 25 (envC RA.kind Ap3 np3 cp3 As3 RA.sigs.length cc3) :: .low (.env gc RA (envC RA.kind Ap3 np3 cp3 As3 RA.sigs.length cc3)) :: .cells ga 25 (envC R.kind Ap1 np1 cp1 As1 N cc1) :: .low (.env ga R (envC R.kind Ap1 np1 cp1 As1 N cc1)) :: .cells g 27 (caseC Ap p.length cp As q.length cq 0 b) :: [.low (.rd B 1 Ap p.length (p.map bv)), .low (.rd B 1 As q.length (q.map bv)), .kept w w.heap.size])
      [.eq (.bool true), .eq (.bool true), .eq (.agg (envC RA.kind Ap3 np3 cp3 As3 RA.sigs.length cc3).toArray), .eq (.bool true), .eq (.bool true), .eq (.bool true), .eq (.pointer (some ⟨gc, 0, none⟩)), .eq (.string RA.kind), .eq (.pointer (some ⟨gc, 1, none⟩)), .eq (.slice Ap3 np3 cp3), .eq (.agg (m.map bv).toArray), .eq (.pointer (some ⟨ga, 0, none⟩)), .eq (.string R.kind), .eq (.pointer (some ⟨ga, 1, none⟩)), .eq (.slice Ap1 np1 cp1), .eq (.agg (m.map bv).toArray), .eq (.bool true)]
      (by kernel_rfl) (by kernel_rfl) hI12 rfl ?hops ?fin
    case hops =>
      refine ⟨?_, ?_, ?_, ?_, ?_, ?_, ?_, ?_, ?_, ?_, ?_, ?_, ?_, ?_, ?_, ?_, ?_, trivial⟩
      · intro a W hW hb hd K hK
        have haw := awakeE_any W
        go_simp
        refine (haw).mono ?_
        rintro e w' ⟨rfl, hb'⟩
        exact hK _ _ (grown_of_below hb') rfl
      · intro a W hW hb hd K hK
        have b57 : a.tmps[57]?.getD undef = _ := hd ⟨0, .data⟩ (by simp) rfl
        go_simp
        exact hK _ _ (World.grownBy.refl _ _) rfl
      · refine Or.inl ⟨fun v w h => h, ?_⟩
        intro a W hW hb hd K hK
        have b10 := hb 10 rfl
        refine wp_load_any 25 (.tmp 10) rfl ⟨gc, 0, none⟩ (show a.eval (.tmp 10) = _ from by simp only [Act.eval, Array.getD_eq_getD_getElem?]; exact b10) (envC RA.kind Ap3 np3 cp3 As3 RA.sigs.length cc3) _ (Cells.sub (hW.at_ 0 rfl) 0 (fun j u h => by rwa [Nat.zero_add])) Try.underlying25 rfl (by kernel_rfl) ?_
        exact hK _ _ (World.grownBy.refl _ _) rfl
      · refine Or.inl ⟨fun v w h => h, ?_⟩
        intro a W hW hb hd K hK
        have b59 : a.tmps[59]?.getD undef = _ := hd ⟨2, .data⟩ (by simp) rfl
        go_simp
        refine (HV1.out W hW).mono ?_
        rintro e w' ⟨rfl, hb'⟩
        exact hK _ _ (grown_of_below hb') rfl
      · intro a W hW hb hd K hK
        have b58 : a.tmps[58]?.getD undef = _ := hd ⟨1, .data⟩ (by simp) rfl
        have b60 : a.tmps[60]?.getD undef = _ := hd ⟨3, .data⟩ (by simp) rfl
        go_simp
        exact hK _ _ (World.grownBy.refl _ _) rfl
      · intro a W hW hb hd K hK
        have b61 : a.tmps[61]?.getD undef = _ := hd ⟨4, .data⟩ (by simp) rfl
        go_simp
        exact hK _ _ (World.grownBy.refl _ _) rfl
      · refine Or.inl ⟨fun v w h => h, ?_⟩
        intro a W hW hb hd K hK
        have b10 := hb 10 rfl
        go_simp
        exact hK _ _ (World.grownBy.refl _ _) rfl
      · refine Or.inl ⟨fun v w h => h, ?_⟩
        intro a W hW hb hd K hK
        have b63 : a.tmps[63]?.getD undef = _ := hd ⟨6, .data⟩ (by simp) rfl
        have q0 := (env_cells RA.kind Ap3 np3 cp3 As3 RA.sigs.length cc3 (hW.at_ 0 rfl)).1
        go_simp
        exact hK _ _ (World.grownBy.refl _ _) rfl
      · refine Or.inl ⟨fun v w h => h, ?_⟩
        intro a W hW hb hd K hK
        have b10 := hb 10 rfl
        go_simp
        exact hK _ _ (World.grownBy.refl _ _) rfl
      · refine Or.inl ⟨fun v w h => h, ?_⟩
        intro a W hW hb hd K hK
        have b65 : a.tmps[65]?.getD undef = _ := hd ⟨8, .data⟩ (by simp) rfl
        have q0 := (env_cells RA.kind Ap3 np3 cp3 As3 RA.sigs.length cc3 (hW.at_ 0 rfl)).2.1
        go_simp
        exact hK _ _ (World.grownBy.refl _ _) rfl
      · refine Or.inl ⟨fun v w h => h, ?_⟩
        intro a W hW hb hd K hK
        have b64 : a.tmps[64]?.getD undef = _ := hd ⟨7, .data⟩ (by simp) rfl
        have b66 : a.tmps[66]?.getD undef = _ := hd ⟨9, .data⟩ (by simp) rfl
        go_simp
        refine (HM1.out W hW).mono ?_
        rintro e w' ⟨rfl, hb'⟩
        exact hK _ _ (grown_of_below hb') rfl
      · refine Or.inl ⟨fun v w h => h, ?_⟩
        intro a W hW hb hd K hK
        have b5 := hb 5 rfl
        go_simp
        exact hK _ _ (World.grownBy.refl _ _) rfl
      · refine Or.inl ⟨fun v w h => h, ?_⟩
        intro a W hW hb hd K hK
        have b68 : a.tmps[68]?.getD undef = _ := hd ⟨11, .data⟩ (by simp) rfl
        have q0 := (env_cells R.kind Ap1 np1 cp1 As1 N cc1 (hW.at_ 2 rfl)).1
        go_simp
        exact hK _ _ (World.grownBy.refl _ _) rfl
      · refine Or.inl ⟨fun v w h => h, ?_⟩
        intro a W hW hb hd K hK
        have b5 := hb 5 rfl
        go_simp
        exact hK _ _ (World.grownBy.refl _ _) rfl
      · refine Or.inl ⟨fun v w h => h, ?_⟩
        intro a W hW hb hd K hK
        have b70 : a.tmps[70]?.getD undef = _ := hd ⟨13, .data⟩ (by simp) rfl
        have q0 := (env_cells R.kind Ap1 np1 cp1 As1 N cc1 (hW.at_ 2 rfl)).2.1
        go_simp
        exact hK _ _ (World.grownBy.refl _ _) rfl
      · refine Or.inl ⟨fun v w h => h, ?_⟩
        intro a W hW hb hd K hK
        have b69 : a.tmps[69]?.getD undef = _ := hd ⟨12, .data⟩ (by simp) rfl
        have b71 : a.tmps[71]?.getD undef = _ := hd ⟨14, .data⟩ (by simp) rfl
        go_simp
        refine (HM2.out W hW).mono ?_
        rintro e w' ⟨rfl, hb'⟩
        exact hK _ _ (grown_of_below hb') rfl
      · refine Or.inl ⟨fun v w h => h, ?_⟩
        intro a W hW hb hd K hK
        have b67 : a.tmps[67]?.getD undef = _ := hd ⟨10, .data⟩ (by simp) rfl
        have b72 : a.tmps[72]?.getD undef = _ := hd ⟨15, .data⟩ (by simp) rfl
        go_simp
        exact hK _ _ (World.grownBy.refl _ _) rfl
    case fin =>
      intro vs V hV hv
      have e62 : vs 5 = .bool true := hv 5 (by decide)
      have e73 : vs 16 = .bool true := hv 16 (by decide)
      clear hv hI12 HV1 HM1 HM2
      simp only [putAll, Nat.zero_add, Nat.reduceAdd, List.drop_succ_cons, List.drop_zero, e62, e73, Act.put, List.setIfInBounds_toArray, List.set_cons_succ, List.set_cons_zero]
      clear e62 e73
      go_wp2_with fail
      go_ret
      exact ⟨rfl, (hV.at_ 7 rfl : _ ∧ _).1⟩
  · have d0 : (er != 0) = true := by simp [h0]
    have haw := awakeE_any W8
    have hk9 := (hI8.at_ 5 rfl : _ ∧ w.heap.size ≤ W8.heap.size)
    go_wp2_with (go_at_call 16; refine haw.mono ?_; clear haw; rintro e w9 ⟨rfl, hb9⟩)
    go_ret
    exact ⟨rfl, hk9.1.trans (hb9.mono hk9.2)⟩
end Go.Proofs.Ytfakjamocpamiaa

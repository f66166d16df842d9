/- The law EnvelopeUnites. -/
import Derived.Test.YtfakjamocpamiaaEnvUb
import Derived.Test.YtfakjamocpamiaaEnvJb
import Derived.Test.YtfakjamocpamiaaFreU
import Derived.Test.YtfakjamocpamiaaSamU
set_option linter.unusedSimpArgs false
set_option linter.unusedVariables false
set_option maxRecDepth 100000
namespace Go.Proofs.Ytfakjamocpamiaa
open Go Go.RowKit Go.Adm
set_option maxHeartbeats 12800000 in
theorem walkUnites (w : World) (B : Nat) (Ap : Option Addr) (cp : Nat) (p : List UInt8) (As : Option Addr) (cq : Nat) (q : List UInt8) (sp : Int) (b : UInt8) (hcp : p.length ≤ cp) (hcm : cp ≤ 140737488351232) (hp : Rd w B 1 Ap p.length (p.map bv)) (hcq : q.length ≤ cq) (hcn : cq ≤ 140737488351232) (hq : Rd w B 1 As q.length (q.map bv)) (hs0 : -9223372036854775808 ≤ sp) (hs1 : sp ≤ 9223372036854775807) (Ap2 : Option Addr) (cp2 : Nat) (p2 : List UInt8) (As2 : Option Addr) (cq2 : Nat) (q2 : List UInt8) (sp2 : Int) (b2 : UInt8) (hcp2 : p2.length ≤ cp2) (hcm2 : cp2 ≤ 140737488351232) (hp2 : Rd w B 1 Ap2 p2.length (p2.map bv)) (hcq2 : q2.length ≤ cq2) (hcn2 : cq2 ≤ 140737488351232) (hq2 : Rd w B 1 As2 q2.length (q2.map bv)) (hs02 : -9223372036854775808 ≤ sp2) (hs12 : sp2 ≤ 9223372036854775807) (hB : B ≤ w.heap.size) :
  Calls Try.prog 8 #[.agg (caseC Ap p.length cp As q.length cq (sp) b).toArray, .agg (caseC Ap2 p2.length cp2 As2 q2.length cq2 sp2 b2).toArray] w fun e w' => e = .returned (.bool true) ∧ Below w.heap.size w w' := by
 have hR : All w [.low (.rd B 1 Ap p.length (p.map bv)), .low (.rd B 1 As q.length (q.map bv)), .low (.rd B 1 As2 q2.length (q2.map bv)), .kept w w.heap.size] := ⟨⟨hp, hB⟩, ⟨hq, hB⟩, ⟨hq2, hB⟩, ⟨Below.refl _ _, Nat.le_refl _⟩, trivial⟩
 have HCP := Lib.hid (And.intro hcp hcm)
 have HCQ := Lib.hid (Nat.le_trans hcq hcn)
 have HCQ2 := Lib.hid (Nat.le_trans hcq2 hcn2)
 clear hp hq hp2 hq2 hcp hcm hcq hcn hcp2 hcm2 hcq2 hcn2 hs0 hs1 hs02 hs12
 go_enter Try.func8, Try.ntmps8
 go_upto_region 1 with (fail)
 obtain ⟨g, hg⟩ : ∃ g, g = w.heap.size := ⟨_, rfl⟩
 refine wp_gen ((hR.new (l := caseC Ap p.length cp As q.length cq (sp) b) (g := g) _ 27 hg rfl).new (l := caseC Ap2 p2.length cp2 As2 q2.length cq2 sp2 b2) (g := g + 1) _ 27 (by simp [hg]) rfl) ?_
 intro W1 hW1
 simp only [← hg]
 have HBW : Hid (B ≤ g ∧ w.heap.size = g) := Lib.hid ⟨by rw [hg]; exact hB, hg.symm⟩
 clear hR hg hB
 have qq1 := (case_cells (hW1.at_ 1 rfl)).1
 have qq2 := (case_cells (hW1.at_ 0 rfl)).1
 have zz2 := Cells.frozen (hW1.at_ 0 rfl) 0
 go_upto_region 2 with fail
 refine wp_gen (hW1.store 0 rfl 0 (.slice Ap p.length cp) ⟨by simp [Res.apart], by simp [Res.apart, Low.rd]; have := HBW.out; omega, by simp [Res.apart, Low.rd]; have := HBW.out; omega, by simp [Res.apart, Low.rd]; have := HBW.out; omega, by simp [Res.apart]; have := HBW.out; omega, trivial⟩) ?_
 rw [show (caseC Ap2 p2.length cp2 As2 q2.length cq2 sp2 b2).set 0 (.slice Ap p.length cp) = caseC Ap p.length cp As2 q2.length cq2 (sp2) b2 from rfl]
 intro W2 hW2
 simp only [List.set_cons_zero] at hW2
 clear hW1 qq1 qq2 zz2
 refine wp_region_order [18, 19, 20, 21, 22, 23, 24, 1007, 25, 1009]
  (fun L W => All W [.cells (g + 1) 27 (caseC Ap p.length cp As2 q2.length cq2 (if L 9 = true then sp2 % 2 else sp2) b2), .cells g 27 (caseC Ap p.length cp As q.length cq (if L 7 = true then sp % 2 else sp) b), .low (.rd B 1 Ap p.length (p.map bv)), .low (.rd B 1 As q.length (q.map bv)), .low (.rd B 1 As2 q2.length (q2.map bv)), .kept w w.heap.size])
  (fun k => [.pointer (some ⟨g, 2, none⟩), .int .i64 sp, .int .i64 (sp % 2), .pointer (some ⟨g + 1, 2, none⟩), .int .i64 sp2, .int .i64 (sp2 % 2), .pointer (some ⟨g, 2, none⟩), undef, .pointer (some ⟨g + 1, 2, none⟩), undef].getD k undef)
  (by kernel_rfl) (by kernel_rfl) (by simp) ?hev hW2.drew rfl ?hops ?fin
 case hev =>
  intro k t hk ht
  have h2 : k < 10 := (List.getElem?_eq_some_iff.1 hk).1
  rcases (by omega : k = 0 ∨ k = 1 ∨ k = 2 ∨ k = 3 ∨ k = 4 ∨ k = 5 ∨ k = 6 ∨ k = 7 ∨ k = 8 ∨ k = 9) with rfl | rfl | rfl | rfl | rfl | rfl | rfl | rfl | rfl | rfl
  all_goals first | rfl | (simp at hk; omega)
 case hops =>
  refine ⟨?_, ?_, ?_, ?_, ?_, ?_, ?_, ?_, ?_, ?_, trivial⟩
  ·refine ⟨rfl, ?_⟩
   intro a W L hJ hk hcl hold hb K hK
   have b2 := hold 2 rfl
   go_simp
   exact hK _ hJ
  ·refine ⟨rfl, ?_⟩
   intro a W L hJ hk hcl hold hb K hK
   have b18 : a.tmps[18]?.getD undef = _ := (hb ⟨0, .data⟩ (by simp) rfl).2
   have h7 : L 7 = false := by
    cases h : L 7 with
    | false => rfl
    | true =>
     have h2 := hcl 7 _ rfl h ⟨1, .phase⟩ (by simp) rfl
     rw [hk] at h2
     cases h2
   have qc := (case_cells (hJ.at_ 1 rfl)).2.2.1
   simp only [h7, Bool.false_eq_true, if_false] at qc
   go_simp
   exact hK _ hJ
  ·refine ⟨rfl, ?_⟩
   intro a W L hJ hk hcl hold hb K hK
   have b19 : a.tmps[19]?.getD undef = _ := (hb ⟨1, .data⟩ (by simp) rfl).2
   go_simp
   simp only [i64_and1]
   exact hK _ hJ
  ·refine ⟨rfl, ?_⟩
   intro a W L hJ hk hcl hold hb K hK
   have b3 := hold 3 rfl
   go_simp
   exact hK _ hJ
  ·refine ⟨rfl, ?_⟩
   intro a W L hJ hk hcl hold hb K hK
   have b21 : a.tmps[21]?.getD undef = _ := (hb ⟨3, .data⟩ (by simp) rfl).2
   have h9 : L 9 = false := by
    cases h : L 9 with
    | false => rfl
    | true =>
     have h2 := hcl 9 _ rfl h ⟨4, .phase⟩ (by simp) rfl
     rw [hk] at h2
     cases h2
   have qc := (case_cells (hJ.at_ 0 rfl)).2.2.1
   simp only [h9, Bool.false_eq_true, if_false] at qc
   go_simp
   exact hK _ hJ
  ·refine ⟨rfl, ?_⟩
   intro a W L hJ hk hcl hold hb K hK
   have b22 : a.tmps[22]?.getD undef = _ := (hb ⟨4, .data⟩ (by simp) rfl).2
   go_simp
   simp only [i64_and1]
   exact hK _ hJ
  ·refine ⟨rfl, ?_⟩
   intro a W L hJ hk hcl hold hb K hK
   have b2 := hold 2 rfl
   go_simp
   exact hK _ hJ
  ·refine ⟨rfl, ?_⟩
   intro a W L hJ hk hcl hold hb K hK
   have b24 : a.tmps[24]?.getD undef = _ := (hb ⟨6, .data⟩ (by simp) rfl).2
   have b20 : a.tmps[20]?.getD undef = _ := (hb ⟨2, .data⟩ (by simp) rfl).2
   simp only [hk, Bool.false_eq_true, if_false] at hJ
   have zc := Cells.frozen (hJ.at_ 1 rfl) 2
   have qc := (case_cells (hJ.at_ 1 rfl)).2.2.1
   go_simp
   have hA := hJ.store 1 rfl 2 (.int .i64 (sp % 2)) ⟨by simp [Res.apart], by simp [Res.apart, Low.rd]; have := HBW.out; omega, by simp [Res.apart, Low.rd]; have := HBW.out; omega, by simp [Res.apart, Low.rd]; have := HBW.out; omega, by simp [Res.apart]; have := HBW.out; omega, trivial⟩
   simp only [List.set_cons_zero, List.set_cons_succ] at hA
   refine hK _ ?_
   have m1 : Go.Adm.mark L 7 7 = true := rfl
   have m2 : Go.Adm.mark L 7 9 = L 9 := rfl
   simp only [m1, m2, if_true]
   exact hA
  ·refine ⟨rfl, ?_⟩
   intro a W L hJ hk hcl hold hb K hK
   have b3 := hold 3 rfl
   go_simp
   exact hK _ hJ
  ·refine ⟨rfl, ?_⟩
   intro a W L hJ hk hcl hold hb K hK
   have b25 : a.tmps[25]?.getD undef = _ := (hb ⟨8, .data⟩ (by simp) rfl).2
   have b23 : a.tmps[23]?.getD undef = _ := (hb ⟨5, .data⟩ (by simp) rfl).2
   simp only [hk, Bool.false_eq_true, if_false] at hJ
   have zc := Cells.frozen (hJ.at_ 0 rfl) 2
   have qc := (case_cells (hJ.at_ 0 rfl)).2.2.1
   go_simp
   have hA := hJ.store 0 rfl 2 (.int .i64 (sp2 % 2)) ⟨by simp [Res.apart], by simp [Res.apart, Low.rd]; have := HBW.out; omega, by simp [Res.apart, Low.rd]; have := HBW.out; omega, by simp [Res.apart, Low.rd]; have := HBW.out; omega, by simp [Res.apart]; have := HBW.out; omega, trivial⟩
   simp only [List.set_cons_zero, List.set_cons_succ] at hA
   refine hK _ ?_
   have m1 : Go.Adm.mark L 9 9 = true := rfl
   have m2 : Go.Adm.mark L 9 7 = L 7 := rfl
   simp only [m1, m2, if_true]
   exact hA
 case fin =>
  intro W3 L hJ hall
  have h7 := hall 7 (by decide)
  have h9 := hall 9 (by decide)
  simp only [h7, h9, if_true] at hJ
  clear hall hW2 h7 h9
  simp only [putAll, Nat.zero_add, Nat.reduceAdd, Act.put, List.setIfInBounds_toArray, List.set_cons_succ, List.set_cons_zero]
  go_upto_region 3 with fail
  have HMA : Hid (∀ W, All W [.cells (g + 1) 27 (caseC Ap p.length cp As2 q2.length cq2 (sp2 % 2) b2), .cells g 27 (caseC Ap p.length cp As q.length cq (sp % 2) b), .low (.rd B 1 Ap p.length (p.map bv)), .low (.rd B 1 As q.length (q.map bv)), .low (.rd B 1 As2 q2.length (q2.map bv)), .kept w w.heap.size] → Calls Try.prog 10 #[.agg (caseC Ap p.length cp As q.length cq (sp % 2) b).toArray] W (MdPost p q (sp % 2) W)) := Lib.hid (fun W hW => made_any W B Ap p.length cp p As q.length _ q (sp % 2) _ (hW.at_ 2 rfl : Rd W B 1 Ap _ _ ∧ _).1 rfl HCP.out.1 HCP.out.2 (hW.at_ 3 rfl : Rd W B 1 As _ _ ∧ _).1 rfl HCQ.out (by omega) (hW.at_ 2 rfl : _ ∧ B ≤ W.heap.size).2)
  have HMB : Hid (∀ W, All W [.cells (g + 1) 27 (caseC Ap p.length cp As2 q2.length cq2 (sp2 % 2) b2), .cells g 27 (caseC Ap p.length cp As q.length cq (sp % 2) b), .low (.rd B 1 Ap p.length (p.map bv)), .low (.rd B 1 As q.length (q.map bv)), .low (.rd B 1 As2 q2.length (q2.map bv)), .kept w w.heap.size] → Calls Try.prog 10 #[.agg (caseC Ap p.length cp As2 q2.length cq2 (sp2 % 2) b2).toArray] W (MdPost p q2 (sp2 % 2) W)) := Lib.hid (fun W hW => made_any W B Ap p.length cp p As2 q2.length _ q2 (sp2 % 2) _ (hW.at_ 2 rfl : Rd W B 1 Ap _ _ ∧ _).1 rfl HCP.out.1 HCP.out.2 (hW.at_ 4 rfl : Rd W B 1 As2 _ _ ∧ _).1 rfl HCQ2.out (by omega) (hW.at_ 2 rfl : _ ∧ B ≤ W.heap.size).2)
  refine wp_region_cut 6 [26, 27, 28, 29, 5, 6] (JTwo 4 5 [.cells (g + 1) 27 (caseC Ap p.length cp As2 q2.length cq2 (sp2 % 2) b2), .cells g 27 (caseC Ap p.length cp As q.length cq (sp % 2) b), .low (.rd B 1 Ap p.length (p.map bv)), .low (.rd B 1 As q.length (q.map bv)), .low (.rd B 1 As2 q2.length (q2.map bv)), .kept w w.heap.size] [.eq (.agg (caseC Ap p.length cp As q.length cq (sp % 2) b).toArray), .made p q (sp % 2), .eq (.agg (caseC Ap p.length cp As2 q2.length cq2 (sp2 % 2) b2).toArray), .made p q2 (sp2 % 2), .box (g + 2) 25 envZ, .box (g + 2) 25 envZ])
   (by kernel_rfl) (by kernel_rfl) (JTwo.start hJ.drew) rfl ?hops3 ?fin3
  case hops3 =>
   refine ⟨?_, ?_, ?_, ?_, ?_, ?_, trivial⟩
   ·refine ⟨rfl, ?_⟩
    intro a W L vs hJ hk hold hb K hK
    have b2 := hold 2 rfl
    refine wp_load_any 27 (.tmp 2) rfl ⟨g, 0, none⟩ (show a.eval (.tmp 2) = _ from by simp only [Act.eval, Array.getD_eq_getD_getElem?]; exact b2) (caseC Ap p.length cp As q.length cq (sp % 2) b) _ (Cells.sub (hJ.1.at_ 1 rfl) 0 (fun j u h => by rwa [Nat.zero_add])) Try.underlying27 rfl (by kernel_rfl) ?_
    exact hK _ _ (hJ.quiet (World.grownBy.refl _ _) (by decide) (by decide) rfl)
   ·refine ⟨rfl, ?_⟩
    intro a W L vs hJ hk hold hb K hK
    have hx := hb ⟨0, .data⟩ (by simp) rfl
    have hy : vs 0 = .agg (caseC Ap p.length cp As q.length cq (sp % 2) b).toArray := hJ.2.1 0 hx.1
    have b26 : a.tmps[26]?.getD undef = .agg (caseC Ap p.length cp As q.length cq (sp % 2) b).toArray := hx.2.trans hy
    go_simp
    refine (HMA.out W hJ.1).mono ?_
    rintro e w' ⟨R, cs, rfl, hE, hM, hb'⟩
    exact hK _ _ (hJ.quiet (grown_of_below hb') (by decide) (by decide) ⟨R, cs, rfl, hE, hM⟩)
   ·refine ⟨rfl, ?_⟩
    intro a W L vs hJ hk hold hb K hK
    have b3 := hold 3 rfl
    refine wp_load_any 27 (.tmp 3) rfl ⟨g + 1, 0, none⟩ (show a.eval (.tmp 3) = _ from by simp only [Act.eval, Array.getD_eq_getD_getElem?]; exact b3) (caseC Ap p.length cp As2 q2.length cq2 (sp2 % 2) b2) _ (Cells.sub (hJ.1.at_ 0 rfl) 0 (fun j u h => by rwa [Nat.zero_add])) Try.underlying27 rfl (by kernel_rfl) ?_
    exact hK _ _ (hJ.quiet (World.grownBy.refl _ _) (by decide) (by decide) rfl)
   ·refine ⟨rfl, ?_⟩
    intro a W L vs hJ hk hold hb K hK
    have hx := hb ⟨2, .data⟩ (by simp) rfl
    have hy : vs 2 = .agg (caseC Ap p.length cp As2 q2.length cq2 (sp2 % 2) b2).toArray := hJ.2.1 2 hx.1
    have b28 : a.tmps[28]?.getD undef = .agg (caseC Ap p.length cp As2 q2.length cq2 (sp2 % 2) b2).toArray := hx.2.trans hy
    go_simp
    refine (HMB.out W hJ.1).mono ?_
    rintro e w' ⟨R, cs, rfl, hE, hM, hb'⟩
    exact hK _ _ (hJ.quiet (grown_of_below hb') (by decide) (by decide) ⟨R, cs, rfl, hE, hM⟩)
   ·refine ⟨rfl, ?_⟩
    intro a W L vs hJ hk hold hb K hK
    have hgw : g + 1 < W.heap.size := Cells.lt (hJ.1.at_ 0 rfl)
    go_simp
    exact hK _ _ (hJ.fst (by decide) (grown_alloc _ _) ⟨W.heap.size, rfl, by omega, Cells.new _ _ _⟩ (fun u hu e => by
     obtain ⟨gx, e2, _, hc⟩ := (hu : VF.ok (.box (g + 2) 25 envZ) u W)
     rw [← e] at e2
     injection e2 with e2
     injection e2 with e2
     injection e2 with e2
     have := hc.lt
     omega))
   ·refine ⟨rfl, ?_⟩
    intro a W L vs hJ hk hold hb K hK
    have hgw : g + 1 < W.heap.size := Cells.lt (hJ.1.at_ 0 rfl)
    go_simp
    exact hK _ _ (hJ.snd (by decide) (grown_alloc _ _) ⟨W.heap.size, rfl, by omega, Cells.new _ _ _⟩ (fun u hu e => by
     obtain ⟨gx, e2, _, hc⟩ := (hu : VF.ok (.box (g + 2) 25 envZ) u W)
     rw [← e] at e2
     injection e2 with e2
     injection e2 with e2
     injection e2 with e2
     have := hc.lt
     omega))
  case fin3 =>
   intro vs V L3 hJ3 hall
   obtain ⟨RP, csP, e1, hEP, hMP⟩ := (hJ3.2.1 1 (hall 1 (by decide)) : VF.ok (.made p q (sp % 2)) (vs 1) V)
   obtain ⟨RQ, csQ, e3, hEQ, hMQ⟩ := (hJ3.2.1 3 (hall 3 (by decide)) : VF.ok (.made p q2 (sp2 % 2)) (vs 3) V)
   obtain ⟨g5, e4, hg5, hc5⟩ := (hJ3.2.1 4 (hall 4 (by decide)) : VF.ok (.box (g + 2) 25 envZ) (vs 4) V)
   obtain ⟨g6, e5, hg6, hc6⟩ := (hJ3.2.1 5 (hall 5 (by decide)) : VF.ok (.box (g + 2) 25 envZ) (vs 5) V)
   have h56 : g5 ≠ g6 := fun e => hJ3.2.2 (hall 4 (by decide)) (hall 5 (by decide)) (by rw [e4, e5, e])
   have hV : All V [.cells g5 25 envZ, .cells g6 25 envZ, .envo g5 g6 V.heap.size RP csP, .envo g5 g6 V.heap.size RQ csQ, .kept w w.heap.size] := ⟨hc5, hc6, envo_of hEP hc5 hc6, envo_of hEQ hc5 hc6, hJ3.1.at_ 5 rfl, trivial⟩
   have HLP := Lib.hid hEP.len
   have HOP := Lib.hid hEP.one
   have HLQ := Lib.hid hEQ.len
   have HOQ := Lib.hid hEQ.one
   have HSP := Lib.hid hMP.sm
   have HSQ := Lib.hid hMQ.sm
   obtain ⟨vP, kP, yP⟩ := hMP.val (spoil_even sp)
   obtain ⟨vQ, kQ, yQ⟩ := hMQ.val (spoil_even sp2)
   have hlen : RP.sigs.length + RQ.sigs.length ≤ 8 := by have := hMP.len; have := hMQ.len; omega
   obtain ⟨X, Y, hX, hY, hsX, hsY, hXk, hXp, hXl, hYk, hYp, hYl⟩ := unites vP vQ (kP.trans kQ.symm) (yP.trans yQ.symm) hlen
   have HD6 : Hid ((signersE RP).length ≤ 12 ∧ (signersE RQ).length ≤ 12) := Lib.hid ⟨Nat.le_trans (signers_len RP) HSP.out.2.2, Nat.le_trans (signers_len RQ) HSQ.out.2.2⟩
   have HD32 : Hid ((∀ d ∈ signersE RP, d.length = 32) ∧ (∀ d ∈ signersE RQ, d.length = 32)) := Lib.hid ⟨signers_32 RP, signers_32 RQ⟩
   have HSX : Hid (X.kind.size ≤ 300 ∧ X.pay.length ≤ 100000 ∧ X.sigs.length ≤ 12) := Lib.hid ⟨by rw [hXk]; exact HSP.out.1, by rw [hXp]; exact HSP.out.2.1, by omega⟩
   have HSY : Hid (Y.kind.size ≤ 300 ∧ Y.pay.length ≤ 100000 ∧ Y.sigs.length ≤ 12) := Lib.hid ⟨by rw [hYk]; exact HSP.out.1, by rw [hYp]; exact HSP.out.2.1, by omega⟩
   have HJ1 : Hid (∀ W b, (EnvAt W b RP csP ∧ b ≤ W.heap.size) → (EnvAt W b RQ csQ ∧ b ≤ W.heap.size) → Calls Try.prog 22 #[.agg csP.toArray, .agg csQ.toArray] W (JoinPost (X, 0) W)) := Lib.hid (fun W b h1 h2 => by
    have h := JoinE_any W b RP RQ csP csQ h1.1 h2.1 HSP.out HSQ.out h1.2
    rwa [hX] at h)
   have HJ2 : Hid (∀ W b, (EnvAt W b RP csP ∧ b ≤ W.heap.size) → (EnvAt W b RQ csQ ∧ b ≤ W.heap.size) → Calls Try.prog 22 #[.agg csQ.toArray, .agg csP.toArray] W (JoinPost (Y, 0) W)) := Lib.hid (fun W b h1 h2 => by
    have h := JoinE_any W b RQ RP csQ csP h2.1 h1.1 HSQ.out HSP.out h1.2
    rwa [hY] at h)
   obtain ⟨dsP, hdP⟩ : ∃ d, signersE RP = d := ⟨_, rfl⟩
   obtain ⟨dsQ, hdQ⟩ : ∃ d, signersE RQ = d := ⟨_, rfl⟩
   rw [hdP, hdQ] at HD6 HD32 hsX hsY
   have HDP := Lib.hid hdP
   have HDQ := Lib.hid hdQ
   have HXS := Lib.hid hsX
   have HYS := Lib.hid hsY
   clear hall hc5 hc6 hEP hEQ hMP hMQ vP kP yP vQ kQ yQ hX hY hsX hsY hXk hXp hXl hYk hYp hYl hdP hdQ hlen HMA HMB hJ
   have hJ3' := hJ3.1
   clear hJ3
   simp only [putAll, Nat.zero_add, Nat.reduceAdd, List.drop_succ_cons, List.drop_zero, e1, e3, e4, e5, Act.put, List.setIfInBounds_toArray, List.set_cons_succ, List.set_cons_zero]
   clear e1 e3 e4 e5 hJ3'
   have hgw := HBW.out.2
   go_upto_region 4 with (first
    | (refine wl_store_at hV 0 rfl 25 (.tmp 5) (.tmp 27) rfl g5 _ _ csP rfl rfl rfl (by rw [HLP.out]; rfl) (by rw [HLP.out]; kernel_rfl) HOP.out ⟨by simp [Res.apart]; exact fun e => h56 e.symm, envo_apart (.inl rfl), envo_apart (.inl rfl), by simp [Res.apart]; omega, trivial⟩ ?_; intro V1 hV1 hs1; clear hs1; simp only [List.set_cons_zero] at hV1)
    | (refine wl_store_at hV1 1 rfl 25 (.tmp 6) (.tmp 29) rfl g6 _ _ csQ rfl rfl rfl (by rw [HLQ.out]; rfl) (by rw [HLQ.out]; kernel_rfl) HOQ.out ⟨by simp [Res.apart]; exact h56, envo_apart (.inr rfl), envo_apart (.inr rfl), by simp [Res.apart]; omega, trivial⟩ ?_; intro V2 hV2 hs2; clear hs2; simp only [List.set_cons_zero, List.set_cons_succ] at hV2))
   obtain ⟨B5, hB5⟩ : ∃ b, b = V.heap.size := ⟨_, rfl⟩
   rw [← hB5] at hV2
   have hoP := (hV2.at_ 2 rfl : Nest V2 0 0 1 none 0 0 [] 0 _ (EnvO g5 g6 B5 RP csP)).inn
   have hoQ := (hV2.at_ 3 rfl : Nest V2 0 0 1 none 0 0 [] 0 _ (EnvO g5 g6 B5 RQ csQ)).inn
   have hI4 : All V2 [.cells g6 25 csQ, .cells g5 25 csP, .low (.env B5 RQ csQ), .low (.env B5 RP csP), .kept w w.heap.size] := ⟨hV2.at_ 1 rfl, hV2.at_ 0 rfl, ⟨hoQ.at_, hoQ.1⟩, ⟨hoP.at_, hoP.1⟩, hV2.at_ 4 rfl, trivial⟩
   clear hV hV1 hV2 hoP hoQ hB5 hgw
   have hze := zero_env
   have hsg := HJ1.out V2 B5 (hI4.at_ 3 rfl) (hI4.at_ 2 rfl)
   go_wp2_with (first
    | (refine wl_load_any rfl 25 (.tmp 5) rfl ⟨g5, 0, none⟩ rfl csP _ (Cells.sub (hI4.at_ 1 rfl) 0 (fun j u h => by rwa [Nat.zero_add])) Try.underlying25 rfl (by rw [HLP.out]; kernel_rfl) ?_)
    | (refine wl_load_any rfl 25 (.tmp 6) rfl ⟨g6, 0, none⟩ rfl csQ _ (Cells.sub (hI4.at_ 0 rfl) 0 (fun j u h => by rwa [Nat.zero_add])) Try.underlying25 rfl (by rw [HLQ.out]; kernel_rfl) ?_)
    | fail)
   refine hsg.mono ?_
   clear hsg
   rintro e w4 ⟨csX, rfl, hEX, hb4⟩
   have HLX := Lib.hid hEX.len
   have HOX := Lib.hid hEX.one
   obtain ⟨e8, he8⟩ : ∃ e, e = w4.heap.size := ⟨_, rfl⟩
   obtain ⟨g8, hg8⟩ : ∃ e, e = w4.heap.size := ⟨_, rfl⟩
   rw [← he8] at hEX
   have hI5 : All w4 (.low (.env e8 X csX) :: [.cells g6 25 csQ, .cells g5 25 csP, .low (.env B5 RQ csQ), .low (.env B5 RP csP), .kept w w.heap.size]) := ⟨⟨hEX, by rw [he8]; exact Nat.le_refl _⟩, hI4.call hb4⟩
   have HG8 := Lib.hid hg8
   clear hI4 hEX hb4 hg8 he8
   go_upto_region 5 with (rw [← HG8.out]; refine wl_store_at (hI5.new (l := envZ) (g := g8) _ 25 HG8.out rfl) 0 rfl 25 (.tmp 7) (.tmp 34) rfl g8 _ _ csX rfl rfl rfl (by rw [HLX.out]; rfl) (by rw [HLX.out]; kernel_rfl) HOX.out (hI5.fresh (by rw [HG8.out]; exact Nat.le_refl _) rfl) ?_; intro W6 hW6 hs6; clear hs6; simp only [List.set_cons_zero] at hW6)
   clear hI5 HG8
   have hsg := HJ2.out W6 B5 (hW6.at_ 5 rfl) (hW6.at_ 4 rfl)
   go_wp2_with (first
    | (refine wl_load_any rfl 25 (.tmp 6) rfl ⟨g6, 0, none⟩ rfl csQ _ (Cells.sub (hW6.at_ 2 rfl) 0 (fun j u h => by rwa [Nat.zero_add])) Try.underlying25 rfl (by rw [HLQ.out]; kernel_rfl) ?_)
    | (refine wl_load_any rfl 25 (.tmp 5) rfl ⟨g5, 0, none⟩ rfl csP _ (Cells.sub (hW6.at_ 3 rfl) 0 (fun j u h => by rwa [Nat.zero_add])) Try.underlying25 rfl (by rw [HLP.out]; kernel_rfl) ?_)
    | fail)
   refine hsg.mono ?_
   clear hsg
   rintro e w7 ⟨csY, rfl, hEY, hb7⟩
   have HLY := Lib.hid hEY.len
   have HOY := Lib.hid hEY.one
   obtain ⟨e9, he9⟩ : ∃ e, e = w7.heap.size := ⟨_, rfl⟩
   obtain ⟨g9, hg9⟩ : ∃ e, e = w7.heap.size := ⟨_, rfl⟩
   rw [← he9] at hEY
   have hI7 : All w7 (.low (.env e9 Y csY) :: .cells g8 25 csX :: .low (.env e8 X csX) :: [.cells g6 25 csQ, .cells g5 25 csP, .low (.env B5 RQ csQ), .low (.env B5 RP csP), .kept w w.heap.size]) := ⟨⟨hEY, by rw [he9]; exact Nat.le_refl _⟩, hW6.call hb7⟩
   have HG9 := Lib.hid hg9
   clear hW6 hEY hb7 hg9 he9 HJ1 HJ2
   go_upto_region 9 with (rw [← HG9.out]; refine wl_store_at (hI7.new (l := envZ) (g := g9) _ 25 HG9.out rfl) 0 rfl 25 (.tmp 9) (.tmp 40) rfl g9 _ _ csY rfl rfl rfl (by rw [HLY.out]; rfl) (by rw [HLY.out]; kernel_rfl) HOY.out (hI7.fresh (by rw [HG9.out]; exact Nat.le_refl _) rfl) ?_; intro W8 hW8 hs8; clear hs8; simp only [List.set_cons_zero] at hW8)
   clear hI7 HG9
   have hI8 : All W8 [.cells g9 25 csY, .cells g8 25 csX, .low (.env e9 Y csY), .low (.env e8 X csX), .cells g6 25 csQ, .cells g5 25 csP, .low (.env B5 RQ csQ), .low (.env B5 RP csP), .kept w w.heap.size] := ⟨hW8.at_ 0 rfl, hW8.at_ 2 rfl, hW8.at_ 1 rfl, hW8.at_ 3 rfl, hW8.at_ 4 rfl, hW8.at_ 5 rfl, hW8.at_ 6 rfl, hW8.at_ 7 rfl, hW8.at_ 8 rfl, trivial⟩
   clear hW8
   refine wp_region_all [48, 49, 50, 51, 52, 53, 54] [.cells g9 25 csY, .cells g8 25 csX, .low (.env e9 Y csY), .low (.env e8 X csX), .cells g6 25 csQ, .cells g5 25 csP, .low (.env B5 RQ csQ), .low (.env B5 RP csP), .kept w w.heap.size]
    [.eq (.agg csP.toArray), .digs dsP, .eq (.agg csQ.toArray), .digs dsQ, .dg2 dsP dsQ, .eq (.int .i64 ((2 : Nat) : Int)), .eq (.int .i64 0)]
    (by kernel_rfl) (by kernel_rfl) (by simp) (by kernel_rfl) hI8 rfl ?hops9 ?fin9
   case hops9 =>
    refine ⟨?_, ?_, ?_, ?_, ?_, ?_, ?_, trivial⟩
    ·intro a W hW hb hd K hK
     have b5 := hb 5 rfl
     refine wp_load_any 25 (.tmp 5) rfl ⟨g5, 0, none⟩ (show a.eval (.tmp 5) = _ from by simp only [Act.eval, Array.getD_eq_getD_getElem?]; exact b5) (csP) _ (Cells.sub (hW.at_ 5 rfl) 0 (fun j u h => by rwa [Nat.zero_add])) Try.underlying25 rfl (by rw [HLP.out]; kernel_rfl) ?_
     exact hK _ _ (World.grownBy.refl _ _) rfl
    ·intro a W hW hb hd K hK
     have b48 : a.tmps[48]?.getD undef = _ := hd ⟨0, .data⟩ (by simp) rfl
     have hsg := SignersE_any W B5 RP csP (hW.at_ 7 rfl : EnvAt W B5 RP csP ∧ _).1 (Nat.le_trans HSP.out.1 (by decide)) (Nat.le_trans HSP.out.2.1 (by decide)) (Nat.le_trans HSP.out.2.2 (by decide)) (hW.at_ 7 rfl : _ ∧ B5 ≤ W.heap.size).2
     go_simp
     refine hsg.mono ?_
     intro e w' hP
     obtain ⟨A1, c1, rfl, hD, hb'⟩ := SgsPost.v hP
     rw [HDP.out] at hD ⊢
     exact hK _ _ (grown_of_below hb') ⟨A1, c1, rfl, hD⟩
    ·intro a W hW hb hd K hK
     have b6 := hb 6 rfl
     refine wp_load_any 25 (.tmp 6) rfl ⟨g6, 0, none⟩ (show a.eval (.tmp 6) = _ from by simp only [Act.eval, Array.getD_eq_getD_getElem?]; exact b6) (csQ) _ (Cells.sub (hW.at_ 4 rfl) 0 (fun j u h => by rwa [Nat.zero_add])) Try.underlying25 rfl (by rw [HLQ.out]; kernel_rfl) ?_
     exact hK _ _ (World.grownBy.refl _ _) rfl
    ·intro a W hW hb hd K hK
     have b50 : a.tmps[50]?.getD undef = _ := hd ⟨2, .data⟩ (by simp) rfl
     have hsg := SignersE_any W B5 RQ csQ (hW.at_ 6 rfl : EnvAt W B5 RQ csQ ∧ _).1 (Nat.le_trans HSQ.out.1 (by decide)) (Nat.le_trans HSQ.out.2.1 (by decide)) (Nat.le_trans HSQ.out.2.2 (by decide)) (hW.at_ 6 rfl : _ ∧ B5 ≤ W.heap.size).2
     go_simp
     refine hsg.mono ?_
     intro e w' hP
     obtain ⟨A1, c1, rfl, hD, hb'⟩ := SgsPost.v hP
     rw [HDQ.out] at hD ⊢
     exact hK _ _ (grown_of_below hb') ⟨A1, c1, rfl, hD⟩
    ·intro a W hW hb hd K hK
     obtain ⟨A1, c1, b49, hD1⟩ := (hd ⟨1, .data⟩ (by simp) rfl : VF.ok (.digs dsP) (a.tmps[49]?.getD undef) W)
     obtain ⟨A2, c2, b51, hD2⟩ := (hd ⟨3, .data⟩ (by simp) rfl : VF.ok (.digs dsQ) (a.tmps[51]?.getD undef) W)
     refine wp_lit2s el_dds (.tmp 49) (.tmp 51) rfl (.slice A1 dsP.length c1) (.slice A2 dsQ.length c2) (show a.eval (.tmp 49) = _ from by simp only [Act.eval, Array.getD_eq_getD_getElem?]; exact b49) (show a.eval (.tmp 51) = _ from by simp only [Act.eval, Array.getD_eq_getD_getElem?]; exact b51) rfl rfl ?_
     exact hK _ _ (grown_alloc _ _) ⟨⟨W.heap.size, 0, none⟩, A1, c1, A2, c2, rfl, rd2_new, (hD1.keep fun p hp => World.cell?_of_block (w := W) ((grown_alloc W _).block _ hp (by simp))).mono (grown_alloc W _).size, (hD2.keep fun p hp => World.cell?_of_block (w := W) ((grown_alloc W _).block _ hp (by simp))).mono (grown_alloc W _).size⟩
    ·intro a W hW hb hd K hK
     obtain ⟨ad, A1, c1, A2, c2, b52, -, -, -⟩ := (hd ⟨4, .data⟩ (by simp) rfl : VF.ok (.dg2 dsP dsQ) (a.tmps[52]?.getD undef) W)
     replace b52 : a.tmps[52]?.getD undef = _ := b52
     go_simp
     exact hK _ _ (World.grownBy.refl _ _) rfl
    ·intro a W hW hb hd K hK
     go_simp
     exact hK _ _ (World.grownBy.refl _ _) rfl
   case fin9 =>
    intro vs V9 hV9 hv
    obtain ⟨ad, A1, c1, A2, c2, e4, hrd, hD1, hD2⟩ := (hv 4 (by decide) : VF.ok (.dg2 dsP dsQ) (vs 4) V9)
    have e5 : vs 5 = .int .i64 2 := hv 5 (by decide)
    have e6 : vs 6 = _ := hv 6 (by decide)
    clear hv hI8
    simp only [putAll, Nat.zero_add, Nat.reduceAdd, List.drop_succ_cons, List.drop_zero, e4, e5, e6, Act.put, List.setIfInBounds_toArray, List.set_cons_succ, List.set_cons_zero]
    clear e4 e5 e6
    obtain ⟨B9, hB9⟩ : ∃ b, b = V9.heap.size := ⟨_, rfl⟩
    have HB9 := Lib.hid hB9
    rw [← hB9] at hrd hD1 hD2
    have hI0 : All V9 [.low (.digs 0 none 0 []), .low (.rd B9 1 (some ad) 2 [.slice A1 dsP.length c1, .slice A2 dsQ.length c2]), .low (.digs B9 A1 dsP.length dsP), .low (.digs B9 A2 dsQ.length dsQ), .cells g9 25 csY, .cells g8 25 csX, .low (.env e9 Y csY), .low (.env e8 X csX), .kept w w.heap.size] := ⟨⟨Digs.nil, Nat.zero_le _⟩, ⟨hrd, by rw [hB9]; exact Nat.le_refl _⟩, ⟨hD1, by rw [hB9]; exact Nat.le_refl _⟩, ⟨hD2, by rw [hB9]; exact Nat.le_refl _⟩, hV9.at_ 0 rfl, hV9.at_ 1 rfl, hV9.at_ 2 rfl, hV9.at_ 3 rfl, hV9.at_ 8 rfl, trivial⟩
    clear hV9 hrd hD1 hD2 hB9 HB9
    have HA0 : Hid (([] : List (List UInt8)) = ([dsP, dsQ].take 0).foldl addsD []) := Lib.hid rfl
    go_wp2_with fail
    go_loopw [11, 54] (fun o i wr => ∃ (j n c Ba : Nat) (A : Option Addr) (acc : List (List UInt8)), j ≤ 2 ∧ o = .slice A n c ∧ i = .int .i64 j ∧ n ≤ c ∧ c ≤ maxLen ∧ Hid (acc = ([dsP, dsQ].take j).foldl addsD []) ∧ All wr [.low (.digs Ba A n acc), .low (.rd B9 1 (some ad) 2 [.slice A1 dsP.length c1, .slice A2 dsQ.length c2]), .low (.digs B9 A1 dsP.length dsP), .low (.digs B9 A2 dsQ.length dsQ), .cells g9 25 csY, .cells g8 25 csX, .low (.env e9 Y csY), .low (.env e8 X csX), .kept w w.heap.size]) (fun _ i _ => 2 - (intOf i).toNat)
    case atStart => exact ⟨0, 0, 0, 0, none, [], by omega, rfl, rfl, by omega, by omega, HA0, hI0⟩
    case round =>
     clear hI0 HA0
     obtain ⟨j, n, c, Ba, A, acc, hj, rfl, rfl, hnc, hcx, HAC, hI⟩ := hrel
     by_cases hlt : j < 2
     ·have d1 : decide ((j : Int) < 2) = true := by simp; omega
      have wj0 : (0 : Int) ≤ (j : Int) := by omega
      have wj1 : (j : Int) < 2 := by omega
      have wj2 : ((j : Int)).toNat = j := by omega
      have hx : ∃ Aj nj cj ds, [(.slice A1 dsP.length c1 : Value), .slice A2 dsQ.length c2][j]? = some (.slice Aj nj cj) ∧ [dsP, dsQ][j]? = some ds ∧ ds.length = nj ∧ nj ≤ 12 ∧ (∀ d ∈ ds, d.length = 32) ∧ ∀ W, All W [.low (.digs Ba A n acc), .low (.rd B9 1 (some ad) 2 [.slice A1 dsP.length c1, .slice A2 dsQ.length c2]), .low (.digs B9 A1 dsP.length dsP), .low (.digs B9 A2 dsQ.length dsQ), .cells g9 25 csY, .cells g8 25 csX, .low (.env e9 Y csY), .low (.env e8 X csX), .kept w w.heap.size] → All W [.low (.digs Ba A n acc), .low (.digs B9 Aj nj ds), .low (.rd B9 1 (some ad) 2 [.slice A1 dsP.length c1, .slice A2 dsQ.length c2]), .low (.digs B9 A1 dsP.length dsP), .low (.digs B9 A2 dsQ.length dsQ), .cells g9 25 csY, .cells g8 25 csX, .low (.env e9 Y csY), .low (.env e8 X csX), .kept w w.heap.size] := by
       match j, hlt with
       | 0, _ => exact ⟨A1, dsP.length, c1, dsP, rfl, rfl, rfl, HD6.out.1, HD32.out.1, fun W hW => ⟨hW.at_ 0 rfl, hW.at_ 2 rfl, hW.2⟩⟩
       | 1, _ => exact ⟨A2, dsQ.length, c2, dsQ, rfl, rfl, rfl, HD6.out.2, HD32.out.2, fun W hW => ⟨hW.at_ 0 rfl, hW.at_ 3 rfl, hW.2⟩⟩
      obtain ⟨Aj, nj, cj, ds, hv1, hv2, hdl, hn12, hd32, hall⟩ := hx
      have hrd := (hI.at_ 1 rfl : Rd wr B9 1 (some ad) 2 _ ∧ B9 ≤ wr.heap.size)
      have qj : wr.cell? (ad.add j) = some (.slice Aj nj cj) := by
       obtain ⟨ad', e, _, hc⟩ := hrd.1.at_ (by omega)
       obtain rfl := Option.some.inj e
       exact hc j _ hv1
      have HACN : Hid (addsD acc ds = ([dsP, dsQ].take (j + 1)).foldl addsD []) := Lib.hid (by
       rw [List.take_add_one, List.foldl_append, ← HAC.out, hv2]; rfl)
      have HAL : Hid (acc.length ≤ 12 ∧ ∀ d ∈ acc, d.length = 32) := Lib.hid (by
       rw [HAC.out]
       match j, hlt with
       | 0, _ => exact ⟨Nat.zero_le _, fun d hd => by cases hd⟩
       | 1, _ => exact ⟨by have h := addsD_len dsP []; have := HD6.out.1; show (addsD [] dsP).length ≤ 12; simp at h; omega, addsD_32 dsP [] (fun d hd => by cases hd) HD32.out.1⟩)
      have HDL := Lib.hid hdl
      have HD3 := Lib.hid hd32
      have hI1 := hall wr hI
      clear hv1 hv2 hrd hall hd32 hdl hI HAC
      have HA1 : Hid (acc = addsD acc (ds.take 0)) := Lib.hid rfl
      go_wp2_with fail
      clear qj d1
      go_loopw [11, 14] (fun o i wr => ∃ (k n c Ba : Nat) (A : Option Addr) (acc2 : List (List UInt8)), k ≤ nj ∧ o = .slice A n c ∧ i = .int .i64 k ∧ n ≤ c ∧ c ≤ maxLen ∧ Hid (acc2 = addsD acc (ds.take k)) ∧ All wr [.low (.digs Ba A n acc2), .low (.digs B9 Aj nj ds), .low (.rd B9 1 (some ad) 2 [.slice A1 dsP.length c1, .slice A2 dsQ.length c2]), .low (.digs B9 A1 dsP.length dsP), .low (.digs B9 A2 dsQ.length dsQ), .cells g9 25 csY, .cells g8 25 csX, .low (.env e9 Y csY), .low (.env e8 X csX), .kept w w.heap.size]) (fun _ i _ => nj - (intOf i).toNat)
      case atStart => exact ⟨0, n, c, Ba, A, acc, by omega, rfl, rfl, hnc, hcx, HA1, hI1⟩
      case round =>
       clear hI1 hnc hcx HA1
       obtain ⟨k, n, c, Ba, A, acc2, hk, rfl, rfl, hnc, hcx, HAC, hI⟩ := hrel
       by_cases hlk : k < nj
       ·have d1 : decide ((k : Int) < (nj : Int)) = true := by simp; omega
        have hkl : k < ds.length := by rw [HDL.out]; exact hlk
        have hdd := (hI.at_ 1 rfl : Digs wr B9 Aj nj ds ∧ B9 ≤ wr.heap.size)
        obtain ⟨aj, rfl, hajB, hc⟩ := hdd.1.elem hkl
        have HC := Lib.hid hc
        have H32 : Hid (ds[k].length = 32) := Lib.hid (HD3.out _ (List.getElem_mem hkl))
        have HACN2 : Hid (addD acc2 ds[k] = addsD acc (ds.take (k + 1))) := Lib.hid (by rw [addsD_succ hkl, HAC.out])
        have hda := (hI.at_ 0 rfl : Digs wr Ba A n acc2 ∧ Ba ≤ wr.heap.size)
        have hn24 : n ≤ 1000 := by
         have h := addsD_len (ds.take k) acc
         rw [← HAC.out, hda.1.len, List.length_take] at h
         have := HAL.out.1
         have := HDL.out
         omega
        clear hc hdd HAC
        generalize ds[k] = d at *
        have had := Add_any wr wr.heap.size A n c acc2 d (hda.1.mono hda.2) H32.out (by omega) hnc hcx (Nat.le_refl _)
        have wk0 : (0 : Int) ≤ (k : Int) := by omega
        have wk1 : (k : Int) < (nj : Int) := by omega
        have wk2 : ((k : Int)).toNat = k := by omega
        have wk4 : IntKind.i64.wrap ((k : Int) + 1) = ((k + 1 : Nat) : Int) := by rw [IntWalk.i64_in _ (by omega)]; omega
        clear hda
        go_wp2_with (first
         | (refine wl_load_any rfl 37 (.tmp 67) rfl (aj.add (k * 32)) rfl (d.map bv) _ HC.out Try.underlying37 rfl (by rw [List.length_map, H32.out]; kernel_rfl) ?_)
         | fail)
        refine had.mono ?_
        clear had
        rintro e w9 ⟨A', n', c', rfl, hD9, hnc9, hcm9, hb9, -⟩
        have hI9 := hI.call hb9
        have hJ9 : All w9 [.low (.digs w9.heap.size A' n' (addD acc2 d)), .low (.digs B9 (some aj) nj ds), .low (.rd B9 1 (some ad) 2 [.slice A1 dsP.length c1, .slice A2 dsQ.length c2]), .low (.digs B9 A1 dsP.length dsP), .low (.digs B9 A2 dsQ.length dsQ), .cells g9 25 csY, .cells g8 25 csX, .low (.env e9 Y csY), .low (.env e8 X csX), .kept w w.heap.size] := ⟨⟨hD9, Nat.le_refl _⟩, hI9.2⟩
        clear hI hI9 hD9 hb9
        generalize addD acc2 d = acc3 at *
        go_wp2_with fail
        exact ⟨⟨k + 1, n', c', w9.heap.size, A', acc3, by omega, rfl, by go_num, hnc9, hcm9, HACN2, hJ9⟩, by simp [intOf]; omega⟩
       ·obtain rfl : k = nj := by omega
        have d1 : decide ((k : Int) < (k : Int)) = false := by simp
        have HACF : Hid (acc2 = ([dsP, dsQ].take (j + 1)).foldl addsD []) := Lib.hid (by
         rw [HAC.out, List.take_of_length_le (by rw [HDL.out]; exact Nat.le_refl _), HACN.out])
        have wk4 : IntKind.i64.wrap ((j : Int) + 1) = ((j + 1 : Nat) : Int) := by rw [IntWalk.i64_in _ (by omega)]; omega
        have hJ2 : All _ [.low (.digs Ba A n acc2), .low (.rd B9 1 (some ad) 2 [.slice A1 dsP.length c1, .slice A2 dsQ.length c2]), .low (.digs B9 A1 dsP.length dsP), .low (.digs B9 A2 dsQ.length dsQ), .cells g9 25 csY, .cells g8 25 csX, .low (.env e9 Y csY), .low (.env e8 X csX), .kept w w.heap.size] := ⟨hI.at_ 0 rfl, hI.2.2⟩
        clear hI
        go_wp2_with fail
        exact ⟨⟨j + 1, n, c, Ba, A, acc2, by omega, rfl, by go_num, hnc, hcx, HACF, hJ2⟩, by simp [intOf]; omega⟩
     ·obtain rfl : j = 2 := by omega
      have hAF : acc = addsD (addsD [] dsP) dsQ := HAC.out
      have hn2 : n ≤ 1000 := by
       have h1 := addsD_len dsP []
       have h2 := addsD_len dsQ (addsD [] dsP)
       have h3 := (hI.at_ 0 rfl : Digs wr Ba A n acc ∧ _).1.len
       have := HD6.out
       rw [hAF] at h3
       simp at h1
       omega
      rw [← hAF] at HXS HYS
      clear hAF HAC hlt
      have HIN : Hid (acc.length = n) := Lib.hid (hI.at_ 0 rfl : Digs wr Ba A n acc ∧ _).1.len
      have haw := awakeE_any wr
      have HS1 : Hid (∀ W, All W [.low (.digs Ba A n acc), .low (.rd B9 1 (some ad) 2 [.slice A1 dsP.length c1, .slice A2 dsQ.length c2]), .low (.digs B9 A1 dsP.length dsP), .low (.digs B9 A2 dsQ.length dsQ), .cells g9 25 csY, .cells g8 25 csX, .low (.env e9 Y csY), .low (.env e8 X csX), .kept w w.heap.size] → Calls Try.prog 14 #[.agg csX.toArray] W fun e w' => ∃ A c, e = .returned (.slice A n c) ∧ Digs w' w'.heap.size A n acc ∧ Below W.heap.size W w') := Lib.hid (fun W hW => (SignersE_any W e8 X csX (hW.at_ 7 rfl : EnvAt W e8 X csX ∧ _).1 (Nat.le_trans HSX.out.1 (by decide)) (Nat.le_trans HSX.out.2.1 (by decide)) (Nat.le_trans HSX.out.2.2 (by decide)) (hW.at_ 7 rfl : _ ∧ e8 ≤ W.heap.size).2).mono fun e w' h => by
       obtain ⟨A', c', h1, h2, h3⟩ := SgsPost.v h
       rw [HXS.out, HIN.out] at h1 h2
       exact ⟨A', c', h1, h2, h3⟩)
      have HS2 : Hid (∀ W, All W [.low (.digs Ba A n acc), .low (.rd B9 1 (some ad) 2 [.slice A1 dsP.length c1, .slice A2 dsQ.length c2]), .low (.digs B9 A1 dsP.length dsP), .low (.digs B9 A2 dsQ.length dsQ), .cells g9 25 csY, .cells g8 25 csX, .low (.env e9 Y csY), .low (.env e8 X csX), .kept w w.heap.size] → Calls Try.prog 14 #[.agg csY.toArray] W fun e w' => ∃ A c, e = .returned (.slice A n c) ∧ Digs w' w'.heap.size A n acc ∧ Below W.heap.size W w') := Lib.hid (fun W hW => (SignersE_any W e9 Y csY (hW.at_ 6 rfl : EnvAt W e9 Y csY ∧ _).1 (Nat.le_trans HSY.out.1 (by decide)) (Nat.le_trans HSY.out.2.1 (by decide)) (Nat.le_trans HSY.out.2.2 (by decide)) (hW.at_ 6 rfl : _ ∧ e9 ≤ W.heap.size).2).mono fun e w' h => by
       obtain ⟨A', c', h1, h2, h3⟩ := SgsPost.v h
       rw [HYS.out, HIN.out] at h1 h2
       exact ⟨A', c', h1, h2, h3⟩)
      have HSM : Hid (∀ W A' c', All W [.low (.digs Ba A n acc), .low (.rd B9 1 (some ad) 2 [.slice A1 dsP.length c1, .slice A2 dsQ.length c2]), .low (.digs B9 A1 dsP.length dsP), .low (.digs B9 A2 dsQ.length dsQ), .cells g9 25 csY, .cells g8 25 csX, .low (.env e9 Y csY), .low (.env e8 X csX), .kept w w.heap.size] → Digs W W.heap.size A' n acc → Calls Try.prog 13 #[.slice A' n c', .slice A n c] W fun e w' => e = .returned (.bool true) ∧ Below W.heap.size W w') := Lib.hid (fun W A' c' hW hD => SameDigsU_true W W.heap.size A' A n c' c acc hD ((hW.at_ 0 rfl : Digs W Ba A n acc ∧ _).1.mono (hW.at_ 0 rfl : _ ∧ Ba ≤ W.heap.size).2) (by omega) (Nat.le_refl _))
      go_wp2_with (first
       | (go_at_call 16; refine haw.mono ?_; clear haw; rintro e w1 ⟨rfl, hb1⟩; have hJ1 := hI.call hb1; have hs1 := HS1.out w1 hJ1; clear hI hb1)
       | (refine wl_met_load 25 (.tmp 7) rfl ⟨g8, 0, none⟩ rfl csX _ (Cells.sub (hJ1.at_ 5 rfl) 0 (fun j u h => by rwa [Nat.zero_add])) Try.underlying25 rfl (by rw [HLX.out]; kernel_rfl) rfl ?_)
       | (go_at_call 14; refine hs1.mono ?_; clear hs1; rintro e w2 ⟨A3, c3, rfl, hD3, hb2⟩; have hJ2 := hJ1.call hb2; have hm1 := HSM.out w2 A3 c3 hJ2 hD3; clear hJ1 hb2 hD3)
       | (go_at_call 13; refine hm1.mono ?_; clear hm1; rintro e w3 ⟨rfl, hb3⟩; have hJ3 := hJ2.call hb3; have hs2 := HS2.out w3 hJ3; clear hJ2 hb3)
       | (refine wl_met_load 25 (.tmp 9) rfl ⟨g9, 0, none⟩ rfl csY _ (Cells.sub (hJ3.at_ 4 rfl) 0 (fun j u h => by rwa [Nat.zero_add])) Try.underlying25 rfl (by rw [HLY.out]; kernel_rfl) rfl ?_)
       | (go_at_call 14; refine hs2.mono ?_; clear hs2; rintro e w4 ⟨A4, c4, rfl, hD4, hb4⟩; have hJ4 := hJ3.call hb4; have hm2 := HSM.out w4 A4 c4 hJ4 hD4; clear hJ3 hb4 hD4)
       | (go_at_call 13; refine hm2.mono ?_; clear hm2; rintro e w5 ⟨rfl, hb5⟩; have hJ5 := hJ4.call hb5; clear hJ4 hb5))
      go_ret
      exact ⟨rfl, (hJ5.at_ 8 rfl : _ ∧ _).1⟩
end Go.Proofs.Ytfakjamocpamiaa

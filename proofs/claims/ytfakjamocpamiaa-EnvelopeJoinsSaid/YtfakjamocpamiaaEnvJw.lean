/- The law EnvelopeJoins. -/
import Derived.Test.YtfakjamocpamiaaEnvJd
set_option linter.unusedSimpArgs false
set_option linter.unusedVariables false
set_option maxRecDepth 100000
namespace Go.Proofs.Ytfakjamocpamiaa
open Go Go.RowKit Go.Adm
set_option maxHeartbeats 6400000 in
theorem walkJoins (w : World) (B : Nat) (R0 : EnvR) (cs0 : List Value) (hE : EnvAt w B R0 cs0) (hk : R0.kind.size ≤ 140737488355328) (hpl : R0.pay.length ≤ 140737488351232) (hsl : R0.sigs.length ≤ 140737488351232) (hsz : ∀ s ∈ R0.sigs, s.chain.length ≤ 140737488351232 ∧ s.path.length ≤ 140737488351232) (Ap : Option Addr) (cp : Nat) (p : List UInt8) (As : Option Addr) (cq : Nat) (q : List UInt8) (sp : Int) (b : UInt8) (hcp : p.length ≤ cp) (hcm : cp ≤ 140737488351232) (hp : Rd w B 1 Ap p.length (p.map bv)) (hcq : q.length ≤ cq) (hcn : cq ≤ 140737488351232) (hq : Rd w B 1 As q.length (q.map bv)) (hs0 : -9223372036854775808 ≤ sp) (hs1 : sp ≤ 9223372036854775807) (Ap2 : Option Addr) (cp2 : Nat) (p2 : List UInt8) (As2 : Option Addr) (cq2 : Nat) (q2 : List UInt8) (sp2 : Int) (b2 : UInt8) (hcp2 : p2.length ≤ cp2) (hcm2 : cp2 ≤ 140737488351232) (hp2 : Rd w B 1 Ap2 p2.length (p2.map bv)) (hcq2 : q2.length ≤ cq2) (hcn2 : cq2 ≤ 140737488351232) (hq2 : Rd w B 1 As2 q2.length (q2.map bv)) (hs02 : -9223372036854775808 ≤ sp2) (hs12 : sp2 ≤ 9223372036854775807) (hB : B ≤ w.heap.size) :
  Calls Try.prog 7 #[.agg cs0.toArray, .agg (caseC Ap p.length cp As q.length cq sp b).toArray, .agg (caseC Ap2 p2.length cp2 As2 q2.length cq2 sp2 b2).toArray] w fun e w' => e = .returned (.bool true) ∧ Below w.heap.size w w' := by
 have hR : All w [.low (.env B R0 cs0), .low (.rd B 1 Ap p.length (p.map bv)), .low (.rd B 1 As q.length (q.map bv)), .low (.rd B 1 As2 q2.length (q2.map bv)), .kept w w.heap.size] := ⟨⟨hE, hB⟩, ⟨hp, hB⟩, ⟨hq, hB⟩, ⟨hq2, hB⟩, ⟨Below.refl _ _, Nat.le_refl _⟩, trivial⟩
 have HL3 := Lib.hid hE.len
 have HONE := Lib.hid hE.one
 have HCP := Lib.hid (And.intro hcp hcm)
 have HCQ := Lib.hid (Nat.le_trans hcq hcn)
 have HCQ2 := Lib.hid (Nat.le_trans hcq2 hcn2)
 have HSP := Lib.hid (And.intro hs0 hs1)
 have HSP2 := Lib.hid (And.intro hs02 hs12)
 have HSZ := Lib.hid (And.intro (And.intro hk hpl) (And.intro hsl hsz))
 clear hE hp hq hp2 hq2 hcp hcm hcq hcn hcp2 hcm2 hcq2 hcn2 hs0 hs1 hs02 hs12 hk hpl hsl hsz
 go_enter Try.func7, Try.ntmps7
 go_upto_region 1 with (fail)
 obtain ⟨g, hg⟩ : ∃ g, g = w.heap.size := ⟨_, rfl⟩
 refine wp_gen (((hR.new (l := cs0) (g := g) _ 25 hg rfl).new (l := caseC Ap p.length cp As q.length cq sp b) (g := g + 1) _ 27 (by simp [hg]) rfl).new (l := caseC Ap2 p2.length cp2 As2 q2.length cq2 sp2 b2) (g := g + 2) _ 27 (by simp [hg]) rfl) ?_
 intro W1 hW1
 simp only [← hg]
 have HBW : Hid (B ≤ g ∧ w.heap.size = g) := Lib.hid ⟨by rw [hg]; exact hB, hg.symm⟩
 clear hR hg hB
 have hlight := lightE_any W1 B R0 cs0 (hW1.at_ 3 rfl : EnvAt W1 B _ _ ∧ _).1 HSZ.out.1.1 (Nat.le_trans HSZ.out.1.2 (by decide)) (Nat.le_trans HSZ.out.2.1 (by decide)) (fun s hs => ⟨Nat.le_trans (HSZ.out.2.2 s hs).1 (by decide), Nat.le_trans (HSZ.out.2.2 s hs).2 (by decide)⟩) (hW1.at_ 3 rfl : _ ∧ B ≤ W1.heap.size).2
 go_wp2_with (first
  | (refine wl_load_any rfl 25 (.tmp 3) rfl ⟨g, 0, none⟩ rfl cs0 _ (Cells.sub (hW1.at_ 2 rfl) 0 (fun j u h => by rwa [Nat.zero_add])) Try.underlying25 rfl (by rw [HL3.out]; kernel_rfl) ?_)
  | fail)
 refine hlight.mono ?_
 intro e w2 hP
 obtain ⟨v, rfl, hLR, hb2⟩ := LitPost.v hP
 have hW2 := hW1.call hb2
 clear hW1 hlight hP hb2
 cases v with
 | false =>
  clear hLR
  go_wp2_with fail
  go_ret
  exact ⟨rfl, (hW2.at_ 7 rfl : _ ∧ _).1⟩
 | true =>
  have HLR := Lib.hid (hLR rfl)
  clear hLR
  have qq1 := (case_cells (hW2.at_ 1 rfl)).1
  have qq2 := (case_cells (hW2.at_ 0 rfl)).1
  have zz2 := Cells.frozen (hW2.at_ 0 rfl) 0
  go_upto_region 4 with fail
  refine wp_gen (hW2.store 0 rfl 0 (.slice Ap p.length cp) ⟨by simp [Res.apart], by simp [Res.apart], by simp [Res.apart, Low.env]; have := HBW.out; omega, by simp [Res.apart, Low.rd]; have := HBW.out; omega, by simp [Res.apart, Low.rd]; have := HBW.out; omega, by simp [Res.apart, Low.rd]; have := HBW.out; omega, by simp [Res.apart]; have := HBW.out; omega, trivial⟩) ?_
  rw [show (caseC Ap2 p2.length cp2 As2 q2.length cq2 sp2 b2).set 0 (.slice Ap p.length cp) = caseC Ap p.length cp As2 q2.length cq2 sp2 b2 from rfl]
  intro W3 hW3
  simp only [List.set_cons_zero] at hW3
  clear hW2 qq1 qq2 zz2
  have HMA : Hid (∀ W, All W [.cells (g + 2) 27 (caseC Ap p.length cp As2 q2.length cq2 sp2 b2), .cells (g + 1) 27 (caseC Ap p.length cp As q.length cq sp b), .cells g 25 cs0, .low (.env B R0 cs0), .low (.rd B 1 Ap p.length (p.map bv)), .low (.rd B 1 As q.length (q.map bv)), .low (.rd B 1 As2 q2.length (q2.map bv)), .kept w w.heap.size] → Calls Try.prog 10 #[.agg (caseC Ap p.length cp As q.length cq sp b).toArray] W (MdPost p q sp W)) := Lib.hid (fun W hW => made_any W B Ap p.length cp p As q.length cq q sp _ (hW.at_ 4 rfl : Rd W B 1 Ap _ _ ∧ _).1 rfl HCP.out.1 HCP.out.2 (hW.at_ 5 rfl : Rd W B 1 As _ _ ∧ _).1 rfl HCQ.out HSP.out (hW.at_ 4 rfl : _ ∧ B ≤ W.heap.size).2)
  have HMB : Hid (∀ W, All W [.cells (g + 2) 27 (caseC Ap p.length cp As2 q2.length cq2 sp2 b2), .cells (g + 1) 27 (caseC Ap p.length cp As q.length cq sp b), .cells g 25 cs0, .low (.env B R0 cs0), .low (.rd B 1 Ap p.length (p.map bv)), .low (.rd B 1 As q.length (q.map bv)), .low (.rd B 1 As2 q2.length (q2.map bv)), .kept w w.heap.size] → Calls Try.prog 10 #[.agg (caseC Ap p.length cp As2 q2.length cq2 sp2 b2).toArray] W (MdPost p q2 sp2 W)) := Lib.hid (fun W hW => made_any W B Ap p.length cp p As2 q2.length cq2 q2 sp2 _ (hW.at_ 4 rfl : Rd W B 1 Ap _ _ ∧ _).1 rfl HCP.out.1 HCP.out.2 (hW.at_ 6 rfl : Rd W B 1 As2 _ _ ∧ _).1 rfl HCQ2.out HSP2.out (hW.at_ 4 rfl : _ ∧ B ≤ W.heap.size).2)
  refine wp_region_all [19, 20, 21, 22, 23, 24, 25, 26, 27, 28, 29, 30, 31, 32, 33, 34] _
   [.eq (.agg (caseC Ap p.length cp As q.length cq sp b).toArray), .made p q sp, .eq (.agg (caseC Ap p.length cp As2 q2.length cq2 sp2 b2).toArray), .made p q2 sp2, .pr2, .eq (.agg cs0.toArray), .eq (.agg (caseC Ap p.length cp As2 q2.length cq2 sp2 b2).toArray), .made p q2 sp2, .pr2, .eq (.agg (caseC Ap p.length cp As q.length cq sp b).toArray), .made p q sp, .eq (.agg cs0.toArray), .pr2, .pr3, .eq (.int .i64 ((3 : Nat) : Int)), .eq (.int .i64 0)]
   (by kernel_rfl) (by kernel_rfl) (by simp) (by kernel_rfl) hW3 rfl ?hops ?fin
  case hops =>
   refine ⟨?_, ?_, ?_, ?_, ?_, ?_, ?_, ?_, ?_, ?_, ?_, ?_, ?_, ?_, ?_, ?_, trivial⟩
   ·intro a W hW hb hd K hK
    have b4 := hb 4 rfl
    refine wp_load_any 27 (.tmp 4) rfl ⟨g + 1, 0, none⟩ (show a.eval (.tmp 4) = _ from by simp only [Act.eval, Array.getD_eq_getD_getElem?]; exact b4) (caseC Ap p.length cp As q.length cq sp b) _ (Cells.sub (hW.at_ 1 rfl) 0 (fun j u h => by rwa [Nat.zero_add])) Try.underlying27 rfl (by kernel_rfl) ?_
    exact hK _ _ (World.grownBy.refl _ _) rfl
   ·intro a W hW hb hd K hK
    have b19 : a.tmps[19]?.getD undef = _ := hd ⟨0, .data⟩ (by simp) rfl
    go_simp
    refine (HMA.out W hW).mono ?_
    rintro e w' ⟨R, cs, rfl, hE, hM, hb'⟩
    exact hK _ _ (grown_of_below hb') ⟨R, cs, rfl, hE, hM⟩
   ·intro a W hW hb hd K hK
    have b5 := hb 5 rfl
    refine wp_load_any 27 (.tmp 5) rfl ⟨g + 2, 0, none⟩ (show a.eval (.tmp 5) = _ from by simp only [Act.eval, Array.getD_eq_getD_getElem?]; exact b5) (caseC Ap p.length cp As2 q2.length cq2 sp2 b2) _ (Cells.sub (hW.at_ 0 rfl) 0 (fun j u h => by rwa [Nat.zero_add])) Try.underlying27 rfl (by kernel_rfl) ?_
    exact hK _ _ (World.grownBy.refl _ _) rfl
   ·intro a W hW hb hd K hK
    have b21 : a.tmps[21]?.getD undef = _ := hd ⟨2, .data⟩ (by simp) rfl
    go_simp
    refine (HMB.out W hW).mono ?_
    rintro e w' ⟨R, cs, rfl, hE, hM, hb'⟩
    exact hK _ _ (grown_of_below hb') ⟨R, cs, rfl, hE, hM⟩
   ·intro a W hW hb hd K hK
    obtain ⟨R1, c1, b20, hE1, hM1⟩ := (hd ⟨1, .data⟩ (by simp) rfl : VF.ok (.made p q sp) (a.tmps[20]?.getD undef) W)
    obtain ⟨R2, c2, b22, hE2, hM2⟩ := (hd ⟨3, .data⟩ (by simp) rfl : VF.ok (.made p q2 sp2) (a.tmps[22]?.getD undef) W)
    refine wp_arr2 50 25 2 (.tmp 20) (.tmp 22) rfl c1 c2 (show a.eval (.tmp 20) = _ from by simp only [Act.eval, Array.getD_eq_getD_getElem?]; exact b20) (show a.eval (.tmp 22) = _ from by simp only [Act.eval, Array.getD_eq_getD_getElem?]; exact b22) hE1.len hE2.len Try.underlying50 (by kernel_rfl) (by kernel_rfl) ?_
    exact hK _ _ (World.grownBy.refl _ _) ⟨⟨R1, c1, R2, c2⟩, rfl, ⟨hE1, hE2, hM1.sm, hM2.sm⟩⟩
   ·intro a W hW hb hd K hK
    have b3 := hb 3 rfl
    refine wp_load_any 25 (.tmp 3) rfl ⟨g, 0, none⟩ (show a.eval (.tmp 3) = _ from by simp only [Act.eval, Array.getD_eq_getD_getElem?]; exact b3) (cs0) _ (Cells.sub (hW.at_ 2 rfl) 0 (fun j u h => by rwa [Nat.zero_add])) Try.underlying25 rfl (by rw [HL3.out]; kernel_rfl) ?_
    exact hK _ _ (World.grownBy.refl _ _) rfl
   ·intro a W hW hb hd K hK
    have b5 := hb 5 rfl
    refine wp_load_any 27 (.tmp 5) rfl ⟨g + 2, 0, none⟩ (show a.eval (.tmp 5) = _ from by simp only [Act.eval, Array.getD_eq_getD_getElem?]; exact b5) (caseC Ap p.length cp As2 q2.length cq2 sp2 b2) _ (Cells.sub (hW.at_ 0 rfl) 0 (fun j u h => by rwa [Nat.zero_add])) Try.underlying27 rfl (by kernel_rfl) ?_
    exact hK _ _ (World.grownBy.refl _ _) rfl
   ·intro a W hW hb hd K hK
    have b25 : a.tmps[25]?.getD undef = _ := hd ⟨6, .data⟩ (by simp) rfl
    go_simp
    refine (HMB.out W hW).mono ?_
    rintro e w' ⟨R, cs, rfl, hE, hM, hb'⟩
    exact hK _ _ (grown_of_below hb') ⟨R, cs, rfl, hE, hM⟩
   ·intro a W hW hb hd K hK
    have b24 : a.tmps[24]?.getD undef = _ := hd ⟨5, .data⟩ (by simp) rfl
    obtain ⟨R2, c2, b26, hE2, hM2⟩ := (hd ⟨7, .data⟩ (by simp) rfl : VF.ok (.made p q2 sp2) (a.tmps[26]?.getD undef) W)
    have hE0 := (hW.at_ 3 rfl : EnvAt W B R0 cs0 ∧ B ≤ W.heap.size)
    refine wp_arr2 50 25 2 (.tmp 24) (.tmp 26) rfl cs0 c2 (show a.eval (.tmp 24) = _ from by simp only [Act.eval, Array.getD_eq_getD_getElem?]; exact b24) (show a.eval (.tmp 26) = _ from by simp only [Act.eval, Array.getD_eq_getD_getElem?]; exact b26) HL3.out hE2.len Try.underlying50 (by kernel_rfl) (by kernel_rfl) ?_
    exact hK _ _ (World.grownBy.refl _ _) ⟨⟨R0, cs0, R2, c2⟩, rfl, ⟨hE0.1.mono hE0.2, hE2, HLR.out.sm, hM2.sm⟩⟩
   ·intro a W hW hb hd K hK
    have b4 := hb 4 rfl
    refine wp_load_any 27 (.tmp 4) rfl ⟨g + 1, 0, none⟩ (show a.eval (.tmp 4) = _ from by simp only [Act.eval, Array.getD_eq_getD_getElem?]; exact b4) (caseC Ap p.length cp As q.length cq sp b) _ (Cells.sub (hW.at_ 1 rfl) 0 (fun j u h => by rwa [Nat.zero_add])) Try.underlying27 rfl (by kernel_rfl) ?_
    exact hK _ _ (World.grownBy.refl _ _) rfl
   ·intro a W hW hb hd K hK
    have b28 : a.tmps[28]?.getD undef = _ := hd ⟨9, .data⟩ (by simp) rfl
    go_simp
    refine (HMA.out W hW).mono ?_
    rintro e w' ⟨R, cs, rfl, hE, hM, hb'⟩
    exact hK _ _ (grown_of_below hb') ⟨R, cs, rfl, hE, hM⟩
   ·intro a W hW hb hd K hK
    have b3 := hb 3 rfl
    refine wp_load_any 25 (.tmp 3) rfl ⟨g, 0, none⟩ (show a.eval (.tmp 3) = _ from by simp only [Act.eval, Array.getD_eq_getD_getElem?]; exact b3) (cs0) _ (Cells.sub (hW.at_ 2 rfl) 0 (fun j u h => by rwa [Nat.zero_add])) Try.underlying25 rfl (by rw [HL3.out]; kernel_rfl) ?_
    exact hK _ _ (World.grownBy.refl _ _) rfl
   ·intro a W hW hb hd K hK
    have b30 : a.tmps[30]?.getD undef = _ := hd ⟨11, .data⟩ (by simp) rfl
    obtain ⟨R1, c1, b29, hE1, hM1⟩ := (hd ⟨10, .data⟩ (by simp) rfl : VF.ok (.made p q sp) (a.tmps[29]?.getD undef) W)
    have hE0 := (hW.at_ 3 rfl : EnvAt W B R0 cs0 ∧ B ≤ W.heap.size)
    refine wp_arr2 50 25 2 (.tmp 29) (.tmp 30) rfl c1 cs0 (show a.eval (.tmp 29) = _ from by simp only [Act.eval, Array.getD_eq_getD_getElem?]; exact b29) (show a.eval (.tmp 30) = _ from by simp only [Act.eval, Array.getD_eq_getD_getElem?]; exact b30) hE1.len HL3.out Try.underlying50 (by kernel_rfl) (by kernel_rfl) ?_
    exact hK _ _ (World.grownBy.refl _ _) ⟨⟨R1, c1, R0, cs0⟩, rfl, ⟨hE1, hE0.1.mono hE0.2, hM1.sm, HLR.out.sm⟩⟩
   ·intro a W hW hb hd K hK
    obtain ⟨x1, b23, hx1⟩ := (hd ⟨4, .data⟩ (by simp) rfl : VF.ok .pr2 (a.tmps[23]?.getD undef) W)
    obtain ⟨x2, b27, hx2⟩ := (hd ⟨8, .data⟩ (by simp) rfl : VF.ok .pr2 (a.tmps[27]?.getD undef) W)
    obtain ⟨x3, b31, hx3⟩ := (hd ⟨12, .data⟩ (by simp) rfl : VF.ok .pr2 (a.tmps[31]?.getD undef) W)
    refine wp_lit3 el_prs (.tmp 23) (.tmp 27) (.tmp 31) rfl x1.cells x2.cells x3.cells (show a.eval (.tmp 23) = _ from by simp only [Act.eval, Array.getD_eq_getD_getElem?]; exact b23) (show a.eval (.tmp 27) = _ from by simp only [Act.eval, Array.getD_eq_getD_getElem?]; exact b27) (show a.eval (.tmp 31) = _ from by simp only [Act.eval, Array.getD_eq_getD_getElem?]; exact b31) hx1.len hx2.len hx3.len (by decide) ?_
    exact hK _ _ (grown_alloc _ _) ⟨⟨W.heap.size, 0, none⟩, [x1, x2, x3], rfl, els3_new hx1.len hx2.len hx3.len, fun x hx => by
     simp only [List.mem_cons, List.mem_nil_iff, or_false] at hx
     rcases hx with rfl | rfl | rfl
     ·exact hx1.grown (grown_alloc _ _)
     ·exact hx2.grown (grown_alloc _ _)
     ·exact hx3.grown (grown_alloc _ _)⟩
   ·intro a W hW hb hd K hK
    obtain ⟨ad, L, b32, -, -⟩ := (hd ⟨13, .data⟩ (by simp) rfl : VF.ok .pr3 (a.tmps[32]?.getD undef) W)
    replace b32 : a.tmps[32]?.getD undef = _ := b32
    go_simp
    exact hK _ _ (World.grownBy.refl _ _) rfl
   ·intro a W hW hb hd K hK
    go_simp
    exact hK _ _ (World.grownBy.refl _ _) rfl
  case fin =>
   intro vs V hV hv
   obtain ⟨ad, L, e13, hels, hok⟩ := (hv 13 (by decide) : VF.ok .pr3 (vs 13) V)
   have e14 : vs 14 = .int .i64 3 := hv 14 (by decide)
   have e15 : vs 15 = _ := hv 15 (by decide)
   clear hv HMA HMB hW3
   simp only [putAll, Nat.zero_add, Nat.reduceAdd, List.drop_succ_cons, List.drop_zero, e13, e14, e15, Act.put, List.setIfInBounds_toArray, List.set_cons_succ, List.set_cons_zero]
   clear e13 e14 e15
   have hI0 : All V [.low (.prs V.heap.size (some ad) 3 L), .kept w w.heap.size] := ⟨⟨⟨hels, hok⟩, Nat.le_refl _⟩, hV.at_ 7 rfl, trivial⟩
   have HLL : Hid (L.length = 3) := Lib.hid (by have := hels.len; rwa [List.length_map] at this)
   clear hels hok hV
   obtain ⟨B5, hB5⟩ : ∃ b, b = V.heap.size := ⟨_, rfl⟩
   rw [← hB5] at hI0
   clear hB5
   go_wp2_with fail
   go_loopw [34] (fun i wr => ∃ k : Nat, k ≤ 3 ∧ i = .int .i64 k ∧ All wr [.low (.prs B5 (some ad) 3 L), .kept w w.heap.size]) (fun i _ => 3 - (intOf i).toNat)
   case atStart => exact ⟨0, by omega, rfl, hI0⟩
   case round =>
    clear hI0
    obtain ⟨k, hk, rfl, hI⟩ := hrel
    by_cases hlt : k < 3
    ·have d1 : decide ((k : Int) < 3) = true := by simp; omega
     have wk0 : (0 : Int) ≤ (k : Int) := by omega
     have wk1 : (k : Int) < 3 := by omega
     have wk2 : ((k : Int)).toNat = k := by omega
     have hkl : k < L.length := by rw [HLL.out]; exact hlt
     obtain ⟨⟨hels, hok⟩, hBw⟩ := (hI.at_ 0 rfl : (Els wr B5 6 (some ad) 3 (L.map PrE.cells) ∧ ∀ x ∈ L, PrOk wr B5 x) ∧ B5 ≤ wr.heap.size)
     obtain ⟨ad', hA', hadB, hc⟩ := Els.at_ hels (k := k) (by rw [List.length_map]; exact hkl)
     obtain rfl : ad = ad' := by injection hA'
     rw [List.getElem_map] at hc
     have hx := hok _ (List.getElem_mem hkl)
     have HEX : Hid (∀ W, All W [.low (.prs B5 (some ad) 3 L), .kept w w.heap.size] → PrOk W W.heap.size L[k]) := Lib.hid (fun W hW => ((hW.at_ 0 rfl : (_ ∧ ∀ x ∈ L, PrOk W B5 x) ∧ B5 ≤ W.heap.size).1.2 _ (List.getElem_mem hkl)).mono (hW.at_ 0 rfl : _ ∧ B5 ≤ W.heap.size).2)
     have HC := Lib.hid hc
     have HC6 := Lib.hid hx.len
     have HCO := Lib.hid hx.one
     have HCL := Lib.hid (And.intro hx.e1.len hx.e2.len)
     have HSM := Lib.hid (And.intro hx.s1 hx.s2)
     clear hc hx hels hok hA' hadB
     generalize L[k] = x at *
     have HC1 : Hid (∀ j u, x.c1[j]? = some u → x.cells[0 + j]? = some u) := Lib.hid (fun j u hu => by
      unfold PrE.cells
      rw [Nat.zero_add, List.getElem?_append_left (List.getElem?_eq_some_iff.1 hu).1]; exact hu)
     have HC2 : Hid (∀ j u, x.c2[j]? = some u → x.cells[3 + j]? = some u) := Lib.hid (fun j u hu => by
      unfold PrE.cells
      have := HCL.out.1
      rw [List.getElem?_append_right (by omega), this, Nat.add_sub_cancel_left]; exact hu)
     obtain ⟨RA, er, hS, hsh, hka, hpa, hsa⟩ := joinE_all x.R1 x.R2 HSM.out.1
     have HSH := Lib.hid hsh
     have HRA := Lib.hid (And.intro hka (And.intro hpa hsa))
     have HE1 : Hid (∀ W, PrOk W W.heap.size x → Calls Try.prog 22 #[.agg x.c1.toArray, .agg x.c2.toArray] W (JoinPost (RA, er) W)) := Lib.hid (fun W hW => by
      have h1 := JoinE_any W W.heap.size x.R1 x.R2 x.c1 x.c2 hW.e1 hW.e2 HSM.out.1 HSM.out.2 (Nat.le_refl _)
      rwa [hS] at h1)
     have HE2 : Hid (∀ W, PrOk W W.heap.size x → Calls Try.prog 23 #[.agg x.c1.toArray, .agg x.c2.toArray] W (JoinPost (RA, er) W)) := Lib.hid (fun W hW => by
      have h1 := refJoinE_any W W.heap.size x.R1 x.R2 x.c1 x.c2 hW.e1 hW.e2 HSM.out.1 HSM.out.2 (Nat.le_refl _)
      rwa [hS] at h1)
     clear hS hsh hka hpa hsa
     obtain ⟨gx, hgx⟩ : ∃ gx, gx = wr.heap.size := ⟨_, rfl⟩
     have HGX := Lib.hid hgx
     clear hgx hBw
     have hze := zero_env
     have hza := zero_env2
     go_upto_region 7 with (first
      | (refine wl_load_any rfl 50 (.tmp 36) rfl (ad.add (k * 6)) rfl x.cells _ HC.out Try.underlying50 rfl (by rw [HC6.out]; kernel_rfl) ?_)
      | (rw [← HGX.out]; refine wl_store_at (hI.new (l := envZ ++ envZ) (g := gx) _ 50 HGX.out rfl) 0 rfl 50 (.tmp 8) (.tmp 37) rfl gx _ _ x.cells rfl rfl rfl (by rw [HC6.out]; rfl) (by rw [HC6.out]; kernel_rfl) HCO.out (hI.fresh (by rw [HGX.out]; exact Nat.le_refl _) rfl) ?_; intro W3 hW3 hs3; clear hs3; simp only [List.set_cons_zero] at hW3))
     clear hI HC HGX d1
     have hsg := HE1.out W3 (HEX.out W3 hW3.2)
     go_wp2_with (first
      | (refine wl_load_any rfl 25 (.tmp 39) rfl ⟨gx, 0, none⟩ rfl x.c1 _ (Cells.sub (hW3.at_ 0 rfl) 0 HC1.out) Try.underlying25 rfl (by rw [HCL.out.1]; kernel_rfl) ?_)
      | (refine wl_load_any rfl 25 (.tmp 41) rfl ⟨gx, 3, none⟩ rfl x.c2 _ (Cells.sub (hW3.at_ 0 rfl) 3 HC2.out) Try.underlying25 rfl (by rw [HCL.out.2]; kernel_rfl) ?_)
      | fail)
     refine hsg.mono ?_
     clear hsg
     rintro e w4 ⟨csA, rfl, hEA, hb4⟩
     have HLA := Lib.hid hEA.len
     have HOA := Lib.hid hEA.one
     obtain ⟨ga, hga⟩ : ∃ ga, ga = w4.heap.size := ⟨_, rfl⟩
     rw [← hga] at hEA
     have hI4 : All w4 (.low (.env ga RA csA) :: .cells gx 50 x.cells :: [.low (.prs B5 (some ad) 3 L), .kept w w.heap.size]) := ⟨⟨hEA, by rw [hga]; exact Nat.le_refl _⟩, hW3.call hb4⟩
     have HGA := Lib.hid hga
     clear hW3 hEA hb4 hga
     go_upto_region 8 with (rw [← HGA.out]; refine wl_store_at (hI4.new (l := envZ) (g := ga) _ 25 HGA.out rfl) 0 rfl 25 (.tmp 9) (.tmp 44) rfl ga _ _ csA rfl rfl rfl (by rw [HLA.out]; rfl) (by rw [HLA.out]; kernel_rfl) HOA.out (hI4.fresh (by rw [HGA.out]; exact Nat.le_refl _) rfl) ?_; intro W6 hW6 hs6; clear hs6; simp only [List.set_cons_zero] at hW6)
     clear hI4 HGA
     have hsg := HE2.out W6 (HEX.out W6 hW6.2.2.2)
     go_wp2_with (first
      | (refine wl_load_any rfl 25 (.tmp 47) rfl ⟨gx, 0, none⟩ rfl x.c1 _ (Cells.sub (hW6.at_ 2 rfl) 0 HC1.out) Try.underlying25 rfl (by rw [HCL.out.1]; kernel_rfl) ?_)
      | (refine wl_load_any rfl 25 (.tmp 49) rfl ⟨gx, 3, none⟩ rfl x.c2 _ (Cells.sub (hW6.at_ 2 rfl) 3 HC2.out) Try.underlying25 rfl (by rw [HCL.out.2]; kernel_rfl) ?_)
      | fail)
     refine hsg.mono ?_
     clear hsg
     rintro e w7 ⟨csB, rfl, hEB, hb7⟩
     have HLB := Lib.hid hEB.len
     have HOB := Lib.hid hEB.one
     obtain ⟨gb, hgb⟩ : ∃ gb, gb = w7.heap.size := ⟨_, rfl⟩
     rw [← hgb] at hEB
     have hI7 : All w7 (.low (.env gb RA csB) :: .cells ga 25 csA :: .low (.env ga RA csA) :: .cells gx 50 x.cells :: [.low (.prs B5 (some ad) 3 L), .kept w w.heap.size]) := ⟨⟨hEB, by rw [hgb]; exact Nat.le_refl _⟩, hW6.call hb7⟩
     have HGB := Lib.hid hgb
     clear hW6 hEB hb7 hgb
     go_upto_region 9 with (rw [← HGB.out]; refine wl_store_at (hI7.new (l := envZ) (g := gb) _ 25 HGB.out rfl) 0 rfl 25 (.tmp 11) (.tmp 52) rfl gb _ _ csB rfl rfl rfl (by rw [HLB.out]; rfl) (by rw [HLB.out]; kernel_rfl) HOB.out (hI7.fresh (by rw [HGB.out]; exact Nat.le_refl _) rfl) ?_; intro W9 hW9 hs9; clear hs9; simp only [List.set_cons_zero] at hW9)
     clear hI7 HGB
     have hsame := SameE_true W9 W9.heap.size RA csA csB ((hW9.at_ 3 rfl : EnvAt W9 ga RA csA ∧ ga ≤ W9.heap.size).1.mono (hW9.at_ 3 rfl : _ ∧ ga ≤ W9.heap.size).2) ((hW9.at_ 1 rfl : EnvAt W9 gb RA csB ∧ gb ≤ W9.heap.size).1.mono (hW9.at_ 1 rfl : _ ∧ gb ≤ W9.heap.size).2) HSH.out (Nat.le_trans HRA.out.1 (by decide)) (Nat.le_trans HRA.out.2.1 (by decide)) (Nat.le_trans HRA.out.2.2 (by decide)) (Nat.le_refl _)
     have wk4 : IntKind.i64.wrap ((k : Int) + 1) = ((k + 1 : Nat) : Int) := by rw [IntWalk.i64_in _ (by omega)]; omega
     go_wp2_with (first
      | (refine wl_met_load 25 (.tmp 9) rfl ⟨ga, 0, none⟩ rfl csA _ (Cells.sub (hW9.at_ 2 rfl) 0 (fun j u h => by rwa [Nat.zero_add])) Try.underlying25 rfl (by rw [HLA.out]; kernel_rfl) rfl ?_)
      | (refine wl_met_load 25 (.tmp 11) rfl ⟨gb, 0, none⟩ rfl csB _ (Cells.sub (hW9.at_ 0 rfl) 0 (fun j u h => by rwa [Nat.zero_add])) Try.underlying25 rfl (by rw [HLB.out]; kernel_rfl) rfl ?_)
      | (go_at_call 21; refine hsame.mono ?_; clear hsame; rintro e w10 ⟨rfl, hb10⟩; have hW10 := hW9.call hb10; clear hW9))
     exact ⟨⟨k + 1, by omega, by go_num, hW10.2.2.2.2.2⟩, by simp [intOf]; omega⟩
    ·obtain rfl : k = 3 := by omega
     have haw := awakeE_any wr
     have hk9 := (hI.at_ 1 rfl : _ ∧ w.heap.size ≤ wr.heap.size)
     go_wp2_with (go_at_call 16; refine haw.mono ?_; clear haw; rintro e w9 ⟨rfl, hb9⟩)
     go_ret
     exact ⟨rfl, hk9.1.trans (hb9.mono hk9.2)⟩
end Go.Proofs.Ytfakjamocpamiaa

/- The law EnvelopeSigns. -/
import Derived.Test.YtfakjamocpamiaaEnvY
import Derived.Deep.Cut
import Derived.Deep.CutRange
import Derived.Deep.DeepCutAuto
set_option linter.unusedSimpArgs false
set_option linter.unusedVariables false
set_option maxRecDepth 100000
namespace Go.Proofs.Ytfakjamocpamiaa
open Go Go.RowKit Go.Adm
set_option maxHeartbeats 6400000 in
theorem walkSigns (w : World) (B : Nat) (R0 : EnvR) (cs0 : List Value) (hE : EnvAt w B R0 cs0) (hk : R0.kind.size ≤ 140737488355328) (hpl : R0.pay.length ≤ 140737488351232) (hsl : R0.sigs.length ≤ 140737488351232) (hsz : ∀ s ∈ R0.sigs, s.chain.length ≤ 140737488351232 ∧ s.path.length ≤ 140737488351232) (Ap : Option Addr) (cp : Nat) (p : List UInt8) (As : Option Addr) (cq : Nat) (q : List UInt8) (sp : Int) (b : UInt8) (hcp : p.length ≤ cp) (hcm : cp ≤ 140737488351232) (hp : Rd w B 1 Ap p.length (p.map bv)) (hcq : q.length ≤ cq) (hcn : cq ≤ 140737488351232) (hq : Rd w B 1 As q.length (q.map bv)) (hs0 : -9223372036854775808 ≤ sp) (hs1 : sp ≤ 9223372036854775807) (seed : List UInt8) (h n : Int) (hs : seed.length = 16) (hB : B ≤ w.heap.size) :
    Calls Try.prog 5 #[.agg cs0.toArray, .agg (caseC Ap p.length cp As q.length cq sp b).toArray, .agg (siCells seed h n).toArray] w fun e w' => e = .returned (.bool true) ∧ Below w.heap.size w w' := by
  have hR : All w [.low (.env B R0 cs0), .low (.rd B 1 Ap p.length (p.map bv)), .low (.rd B 1 As q.length (q.map bv)), .kept w w.heap.size] := ⟨⟨hE, hB⟩, ⟨hp, hB⟩, ⟨hq, hB⟩, ⟨Below.refl _ _, Nat.le_refl _⟩, trivial⟩
  have HL3 := Lib.hid hE.len
  have HONE := Lib.hid hE.one
  have HCP := Lib.hid (And.intro hcp hcm)
  have HCQ := Lib.hid (Nat.le_trans hcq hcn)
  have HSP := Lib.hid (And.intro hs0 hs1)
  have HSZ := Lib.hid (And.intro (And.intro hk hpl) (And.intro hsl hsz))
  clear hE hp hq hcp hcm hcq hcn hs0 hs1 hk hpl hsl hsz
  have HS16 := Lib.hid hs
  clear hs
  go_enter Try.func5, Try.ntmps5
  go_upto_region 1 with (fail)
  obtain ⟨g, hg⟩ : ∃ g, g = w.heap.size := ⟨_, rfl⟩
  refine wp_gen (((hR.new (l := cs0) (g := g) _ 25 hg rfl).new (l := caseC Ap p.length cp As q.length cq sp b) (g := g + 1) _ 27 (by simp [hg]) rfl).new (l := siCells seed h n) (g := g + 2) _ 43 (by simp [hg]) rfl) ?_
  intro W1 hW1
  simp only [← hg]
  have HBW : Hid (B ≤ g ∧ w.heap.size = g) := Lib.hid ⟨by rw [hg]; exact hB, hg.symm⟩
  clear hR hg hB
  have hlight := lightE_any W1 B R0 cs0 (hW1.at_ 3 rfl : EnvAt W1 B _ _ ∧ _).1 HSZ.out.1.1 (Nat.le_trans HSZ.out.1.2 (by decide)) (Nat.le_trans HSZ.out.2.1 (by decide)) (fun s hs => ⟨Nat.le_trans (HSZ.out.2.2 s hs).1 (by decide), Nat.le_trans (HSZ.out.2.2 s hs).2 (by decide)⟩) (hW1.at_ 3 rfl : _ ∧ B ≤ W1.heap.size).2
  go_wp2_with (first
    | (refine wl_load_any rfl 25 (.tmp 3) rfl ⟨g, 0, none⟩ rfl cs0 _ (Cells.sub (hW1.at_ 2 rfl) 0 (fun j u h => by rwa [Nat.zero_add])) Try.underlying25 rfl (by rw [HL3.out]; kernel_rfl) ?_)
    | fail)
  refine hlight.mono ?_
  intro e w2 hP
  obtain ⟨v, rfl, hLR, hb2⟩ := LitPost.v hP
  have hW2 := hW1.call hb2
  clear hW1 hlight hP hb2
  cases v with
  | false =>
    clear hLR
    go_wp2_with fail
    go_ret
    exact ⟨rfl, (hW2.at_ 6 rfl : _ ∧ _).1⟩
  | true =>
    have HLR := Lib.hid (hLR rfl)
    clear hLR
    have c16 := si_at16 HS16.out (hW2.at_ 0 rfl)
    go_upto_region 3 with fail
    obtain ⟨tb, htb⟩ : ∃ tb : Bool, decide (1 < h ∧ h ≤ 6) = tb := ⟨_, rfl⟩
    have HTB := Lib.hid htb
    clear htb
    go_cut [25] from 18 to 26 (fun t wx => t = .bool tb ∧ wx = w2)
    case first =>
      by_cases c1 : 1 < h
      · have d1 : decide ((1 : Int) < h) = true := by simp; omega
        by_cases c2 : h ≤ 6
        · have d2 : decide (h ≤ 6) = true := by simp; omega
          have d3 : decide (1 < h ∧ h ≤ 6) = true := decide_eq_true ⟨c1, c2⟩
          clear c1 c2
          go_wp2_with fail
          go_meet
          exact ⟨by rw [← HTB.out, d3], rfl⟩
        · have d2 : decide (h ≤ 6) = false := by simp; omega
          have d3 : decide (1 < h ∧ h ≤ 6) = false := decide_eq_false (fun h => c2 h.2)
          clear c1 c2
          go_wp2_with fail
          go_meet
          exact ⟨by rw [← HTB.out, d3], rfl⟩
      · have d1 : decide ((1 : Int) < h) = false := by simp; omega
        have d3 : decide (1 < h ∧ h ≤ 6) = false := decide_eq_false (fun h => c1 h.1)
        clear c1
        go_wp2_with fail
        go_meet
        exact ⟨by rw [← HTB.out, d3], rfl⟩
    case rest =>
    obtain ⟨rfl, rfl⟩ := hcut
    go_upto_if 25 with fail
    go_cut [26] from 26 to 27 (fun t wx => ∃ h' : Int, All wx [.cells (g + 2) 43 (siCells seed h' n), .cells (g + 1) 27 (caseC Ap p.length cp As q.length cq sp b), .cells g 25 cs0, .low (.env B R0 cs0), .low (.rd B 1 Ap p.length (p.map bv)), .low (.rd B 1 As q.length (q.map bv)), .kept w w.heap.size])
    case first =>
      cases tb with
      | true =>
        have z0 := Cells.frozen (hW2.at_ 0 rfl) 16
        go_wp2_with fail
        go_meet
        have hst := hW2.store 0 rfl 16 (.int .i64 1) ⟨by simp [Res.apart], by simp [Res.apart], by simp [Res.apart, Low.env]; have := HBW.out; omega, by simp [Res.apart, Low.rd]; have := HBW.out; omega, by simp [Res.apart, Low.rd]; have := HBW.out; omega, by simp [Res.apart]; have := HBW.out; omega, trivial⟩
        rw [si_set16 HS16.out] at hst
        exact ⟨1, hst⟩
      | false =>
        go_wp2_with fail
        go_meet
        exact ⟨h, hW2⟩
    case rest =>
    obtain ⟨h', hW3⟩ := hcut
    clear hW2 c16
    have HMD : Hid (∀ W, All W [.cells (g + 2) 43 (siCells seed h' n), .cells (g + 1) 27 (caseC Ap p.length cp As q.length cq sp b), .cells g 25 cs0, .low (.env B R0 cs0), .low (.rd B 1 Ap p.length (p.map bv)), .low (.rd B 1 As q.length (q.map bv)), .kept w w.heap.size] → Calls Try.prog 10 #[.agg (caseC Ap p.length cp As q.length cq sp b).toArray] W (MdPost p q sp W)) := Lib.hid (fun W hW => made_any W B Ap p.length cp p As q.length cq q sp b (hW.at_ 4 rfl : Rd W B 1 Ap _ _ ∧ _).1 rfl HCP.out.1 HCP.out.2 (hW.at_ 5 rfl : Rd W B 1 As _ _ ∧ _).1 rfl HCQ.out HSP.out (hW.at_ 4 rfl : _ ∧ B ≤ W.heap.size).2)
    go_upto_region 5 with fail
    refine wp_region_all [27, 28, 29, 30, 31, 32] _
      [.eq (.agg cs0.toArray), .eq (.agg (caseC Ap p.length cp As q.length cq sp b).toArray), .made p q sp, .pair p q sp cs0, .eq (.int .i64 ((2 : Nat) : Int)), .eq (.int .i64 0)]
      (by kernel_rfl) (by kernel_rfl) (by simp) (by kernel_rfl) hW3 rfl ?hops ?fin
    case hops =>
      refine ⟨?_, ?_, ?_, ?_, ?_, ?_, trivial⟩
      · intro a W hW hb hd K hK
        have b3 := hb 3 rfl
        refine wp_load_any 25 (.tmp 3) rfl ⟨g, 0, none⟩ (show a.eval (.tmp 3) = _ from by simp only [Act.eval, Array.getD_eq_getD_getElem?]; exact b3) (cs0) _ (Cells.sub (hW.at_ 2 rfl) 0 (fun j u h => by rwa [Nat.zero_add])) Try.underlying25 rfl (by rw [HL3.out]; kernel_rfl) ?_
        exact hK _ _ (World.grownBy.refl _ _) rfl
      · intro a W hW hb hd K hK
        have b4 := hb 4 rfl
        refine wp_load_any 27 (.tmp 4) rfl ⟨g + 1, 0, none⟩ (show a.eval (.tmp 4) = _ from by simp only [Act.eval, Array.getD_eq_getD_getElem?]; exact b4) (caseC Ap p.length cp As q.length cq sp b) _ (Cells.sub (hW.at_ 1 rfl) 0 (fun j u h => by rwa [Nat.zero_add])) Try.underlying27 rfl (by kernel_rfl) ?_
        exact hK _ _ (World.grownBy.refl _ _) rfl
      · intro a W hW hb hd K hK
        have b28 : a.tmps[28]?.getD undef = _ := hd ⟨1, .data⟩ (by simp) rfl
        go_simp
        refine (HMD.out W hW).mono ?_
        rintro e w' ⟨R, cs, rfl, hE, hM, hb'⟩
        exact hK _ _ (grown_of_below hb') ⟨R, cs, rfl, hE, hM⟩
      · intro a W hW hb hd K hK
        have b27 : a.tmps[27]?.getD undef = _ := hd ⟨0, .data⟩ (by simp) rfl
        obtain ⟨R, cs, b29, hE, hM⟩ := (hd ⟨2, .data⟩ (by simp) rfl : VF.ok (.made p q sp) (a.tmps[29]?.getD undef) W)
        refine wp_lit2 el_env (.tmp 27) (.tmp 29) rfl cs0 cs (show a.eval (.tmp 27) = _ from by simp only [Act.eval, Array.getD_eq_getD_getElem?]; exact b27) (show a.eval (.tmp 29) = _ from by simp only [Act.eval, Array.getD_eq_getD_getElem?]; exact b29) HL3.out hE.len (by decide) ?_
        exact hK _ _ (grown_alloc _ _) ⟨⟨W.heap.size, 0, none⟩, R, cs, rfl, pair_els HL3.out hE.len, hE.grown (grown_alloc _ _), hM⟩
      · intro a W hW hb hd K hK
        obtain ⟨ad, R, cs, b30, -, -, -⟩ := (hd ⟨3, .data⟩ (by simp) rfl : VF.ok (.pair p q sp cs0) (a.tmps[30]?.getD undef) W)
        replace b30 : a.tmps[30]?.getD undef = _ := b30
        go_simp
        exact hK _ _ (World.grownBy.refl _ _) rfl
      · intro a W hW hb hd K hK
        go_simp
        exact hK _ _ (World.grownBy.refl _ _) rfl
    case fin =>
      intro vs V hV hv
      obtain ⟨ad, R1, cs1, e13, hels, hE1, hM1⟩ := (hv 3 (by decide) : VF.ok (.pair p q sp cs0) (vs 3) V)
      have e14 : vs 4 = .int .i64 2 := hv 4 (by decide)
      have e15 : vs 5 = _ := hv 5 (by decide)
      clear hv HMD hW3
      simp only [putAll, Nat.zero_add, Nat.reduceAdd, List.drop_succ_cons, List.drop_zero, e13, e14, e15, Act.put, List.setIfInBounds_toArray, List.set_cons_succ, List.set_cons_zero]
      clear e13 e14 e15
      have hI0 : All V [.cells (g + 2) 43 (siCells seed h' n), .low (.els V.heap.size 3 (some ad) 2 [cs0, cs1]), .low (.env V.heap.size R1 cs1), .low (.env B R0 cs0), .kept w w.heap.size] := ⟨hV.at_ 0 rfl, ⟨hels, Nat.le_refl _⟩, ⟨hE1, Nat.le_refl _⟩, hV.at_ 3 rfl, hV.at_ 6 rfl, trivial⟩
      have HLEN1 := Lib.hid hE1.len
      have HONE1 := Lib.hid hE1.one
      have HSM1 := Lib.hid hM1.sm
      clear hels hE1 hM1 hV
      obtain ⟨B5, hB5⟩ : ∃ b, b = V.heap.size := ⟨_, rfl⟩
      rw [← hB5] at hI0
      clear hB5
      go_wp2_with fail
      go_loopw [32] (fun i wr => ∃ k : Nat, k ≤ 2 ∧ i = .int .i64 k ∧ All wr [.cells (g + 2) 43 (siCells seed h' n), .low (.els B5 3 (some ad) 2 [cs0, cs1]), .low (.env B5 R1 cs1), .low (.env B R0 cs0), .kept w w.heap.size]) (fun i _ => 2 - (intOf i).toNat)
      case atStart => exact ⟨0, by omega, rfl, hI0⟩
      case round =>
        clear hI0
        obtain ⟨k, hk, rfl, hI⟩ := hrel
        by_cases hlt : k < 2
        · have d1 : decide ((k : Int) < 2) = true := by simp; omega
          have wk0 : (0 : Int) ≤ (k : Int) := by omega
          have wk1 : (k : Int) < 2 := by omega
          have wk2 : ((k : Int)).toNat = k := by omega
          have hbl := (hI.at_ 1 rfl : Els wr B5 3 (some ad) 2 [cs0, cs1] ∧ B5 ≤ wr.heap.size)
          have hx : ∃ R cs, [cs0, cs1][k]? = some cs ∧ SmR R ∧ cs.length = 3 ∧ (∀ v ∈ cs, v.oneCell' = true) ∧ ∀ W, All W [.cells (g + 2) 43 (siCells seed h' n), .low (.els B5 3 (some ad) 2 [cs0, cs1]), .low (.env B5 R1 cs1), .low (.env B R0 cs0), .kept w w.heap.size] → EnvAt W W.heap.size R cs := by
            match k, hlt with
            | 0, _ => exact ⟨R0, cs0, rfl, HLR.out.sm, HL3.out, HONE.out, fun W hW => (hW.at_ 3 rfl : EnvAt W B R0 cs0 ∧ B ≤ W.heap.size).1.mono (hW.at_ 3 rfl : _ ∧ B ≤ W.heap.size).2⟩
            | 1, _ => exact ⟨R1, cs1, rfl, HSM1.out, HLEN1.out, HONE1.out, fun W hW => (hW.at_ 2 rfl : EnvAt W B5 R1 cs1 ∧ B5 ≤ W.heap.size).1.mono (hW.at_ 2 rfl : _ ∧ B5 ≤ W.heap.size).2⟩
          obtain ⟨R, cs, hcs, hsm, hl3, hone, hEx⟩ := hx
          obtain ⟨ad', hA', hadB, hc⟩ := Els.at_ hbl.1 (k := k) (by simpa using hlt)
          obtain rfl : ad = ad' := by injection hA'
          have hce : [cs0, cs1][k]'(by simpa using hlt) = cs := by
            have := List.getElem?_eq_getElem (l := [cs0, cs1]) (i := k) (by simpa using hlt)
            rw [hcs] at this
            exact (Option.some.inj this).symm
          rw [hce] at hc
          have HC := Lib.hid hc
          have HCL := Lib.hid hl3
          have HCO := Lib.hid hone
          have HEX := Lib.hid hEx
          obtain ⟨RA, s2, h2, n2, er, hS, hs2, hh2, hn2, hsh, hka, hpa, hsa⟩ := signE_all R seed h' n HS16.out hsm.1 hsm.2.1 hsm.2.2
          have HS2 := Lib.hid hs2
          have HH2 := Lib.hid (And.intro hh2 hn2)
          have HSH := Lib.hid hsh
          have HRA := Lib.hid (And.intro hka (And.intro hpa hsa))
          have HE1 : Hid (∀ W, EnvAt W W.heap.size R cs → Calls Try.prog 19 #[.agg cs.toArray, .agg (siCells seed h' n).toArray] W (SignPostE (RA, siCells s2 h2 n2, er) W)) := Lib.hid (fun W hW => by
            have h1 := SignE_any W W.heap.size R cs seed h' n hW HS16.out (Nat.le_trans hsm.1 (by decide)) (Nat.le_trans hsm.2.1 (by decide)) (Nat.le_trans hsm.2.2 (by decide)) (Nat.le_refl _)
            rwa [hS] at h1)
          have HE2 : Hid (∀ W, EnvAt W W.heap.size R cs → Calls Try.prog 20 #[.agg cs.toArray, .agg (siCells seed h' n).toArray] W (SignPostE (RA, siCells s2 h2 n2, er) W)) := Lib.hid (fun W hW => by
            have h1 := refSignE_any W W.heap.size R cs seed h' n hW HS16.out (Nat.le_trans hsm.1 (by decide)) (Nat.le_trans hsm.2.1 (by decide)) (Nat.le_trans hsm.2.2 (by decide)) (Nat.le_refl _)
            rwa [hS] at h1)
          clear hc hl3 hone hEx hsm hcs hce hbl hA' hadB hS hs2 hh2 hn2 hsh hka hpa hsa
          obtain ⟨gx, hgx⟩ : ∃ gx, gx = wr.heap.size := ⟨_, rfl⟩
          have hg2x : g + 2 < gx := by rw [hgx]; exact Cells.lt (hI.at_ 0 rfl)
          have HGX := Lib.hid hgx
          clear hgx
          have hze := zero_env
          have hzs := zero_si
          go_upto_region 8 with (first
            | (refine wl_load_any rfl 25 (.tmp 34) rfl (ad.add (k * 3)) rfl cs _ HC.out Try.underlying25 rfl (by rw [HCL.out]; kernel_rfl) ?_)
            | (rw [← HGX.out]; refine wl_store_at (hI.new (l := envZ) (g := gx) _ 25 HGX.out rfl) 0 rfl 25 (.tmp 8) (.tmp 35) rfl gx _ envZ cs rfl rfl rfl (by rw [HCL.out]; rfl) (by rw [HCL.out]; kernel_rfl) HCO.out (hI.fresh (by rw [HGX.out]; exact Nat.le_refl _) rfl) ?_; intro W3 hW3 hs3; clear hs3; simp only [List.set_cons_zero] at hW3))
          clear hI HC HGX d1
          have hsg := HE1.out W3 (HEX.out W3 hW3.2)
          go_wp2_with (first
            | (refine wl_load_any rfl 25 (.tmp 8) rfl ⟨gx, 0, none⟩ rfl cs _ (Cells.sub (hW3.at_ 0 rfl) 0 (fun j u h => by rwa [Nat.zero_add])) Try.underlying25 rfl (by rw [HCL.out]; kernel_rfl) ?_)
            | (refine wl_load_any rfl 43 (.tmp 5) rfl ⟨g + 2, 0, none⟩ rfl (siCells seed h' n) _ (Cells.sub (hW3.at_ 1 rfl) 0 (fun j u h => by rwa [Nat.zero_add])) Try.underlying43 rfl (by rw [si_len _ _ _ HS16.out]; kernel_rfl) ?_)
            | fail)
          refine hsg.mono ?_
          clear hsg
          rintro e w4 ⟨csA, rfl, hEA, hb4⟩
          have HLA := Lib.hid hEA.len
          have HOA := Lib.hid hEA.one
          obtain ⟨ga, hga⟩ : ∃ ga, ga = w4.heap.size := ⟨_, rfl⟩
          rw [← hga] at hEA
          have hI4 : All w4 (.low (.env ga RA csA) :: .cells gx 25 cs :: [.cells (g + 2) 43 (siCells seed h' n), .low (.els B5 3 (some ad) 2 [cs0, cs1]), .low (.env B5 R1 cs1), .low (.env B R0 cs0), .kept w w.heap.size]) := ⟨⟨hEA, by rw [hga]; exact Nat.le_refl _⟩, hW3.call hb4⟩
          have hgxa : gx < ga := by rw [hga]; exact Cells.lt (hI4.at_ 1 rfl)
          have HGA := Lib.hid hga
          clear hW3 hEA hb4 hga
          go_upto_region 9 with (first
            | (rw [← HGA.out]; refine wl_store_at ((hI4.new (l := envZ) (g := ga) _ 25 HGA.out rfl).new (l := siz) (g := ga + 1) _ 43 (by simp [HGA.out]) rfl) 1 rfl 25 (.tmp 9) (.tmp 40) rfl ga _ _ csA rfl rfl rfl (by rw [HLA.out]; rfl) (by rw [HLA.out]; kernel_rfl) HOA.out ⟨by simp [Res.apart], hI4.fresh (by rw [HGA.out]; exact Nat.le_refl _) rfl⟩ ?_; intro W5 hW5 hs5; clear hs5; simp only [List.set_cons_zero, List.set_cons_succ] at hW5)
            | (refine wl_store_at hW5 0 rfl 43 (.tmp 10) (.tmp 41) rfl (ga + 1) _ _ (siCells s2 h2 n2) rfl rfl rfl (by rw [si_len _ _ _ HS2.out]; rfl) (by rw [si_len _ _ _ HS2.out]; kernel_rfl) (si_one _ _ _) ⟨by simp [Res.apart], hI4.fresh (by rw [HGA.out]; omega) rfl⟩ ?_; intro W6 hW6 hs6; clear hs6; simp only [List.set_cons_zero, List.set_cons_succ] at hW6))
          clear hI4 hW5 HGA
          have hsg := HE2.out W6 (HEX.out W6 hW6.2.2.2.2)
          go_wp2_with (first
            | (refine wl_load_any rfl 25 (.tmp 8) rfl ⟨gx, 0, none⟩ rfl cs _ (Cells.sub (hW6.at_ 3 rfl) 0 (fun j u h => by rwa [Nat.zero_add])) Try.underlying25 rfl (by rw [HCL.out]; kernel_rfl) ?_)
            | (refine wl_load_any rfl 43 (.tmp 5) rfl ⟨g + 2, 0, none⟩ rfl (siCells seed h' n) _ (Cells.sub (hW6.at_ 4 rfl) 0 (fun j u h => by rwa [Nat.zero_add])) Try.underlying43 rfl (by rw [si_len _ _ _ HS16.out]; kernel_rfl) ?_)
            | fail)
          refine hsg.mono ?_
          clear hsg
          rintro e w7 ⟨csB, rfl, hEB, hb7⟩
          have HLB := Lib.hid hEB.len
          have HOB := Lib.hid hEB.one
          obtain ⟨gb, hgb⟩ : ∃ gb, gb = w7.heap.size := ⟨_, rfl⟩
          rw [← hgb] at hEB
          have hI7 : All w7 (.low (.env gb RA csB) :: .cells (ga + 1) 43 (siCells s2 h2 n2) :: .cells ga 25 csA :: .low (.env ga RA csA) :: .cells gx 25 cs :: [.cells (g + 2) 43 (siCells seed h' n), .low (.els B5 3 (some ad) 2 [cs0, cs1]), .low (.env B5 R1 cs1), .low (.env B R0 cs0), .kept w w.heap.size]) := ⟨⟨hEB, by rw [hgb]; exact Nat.le_refl _⟩, hW6.call hb7⟩
          have hgab : ga + 1 < gb := by rw [hgb]; exact Cells.lt (hI7.at_ 1 rfl)
          have HGB := Lib.hid hgb
          clear hW6 hEB hb7 hgb
          go_upto_region 10 with (first
            | (rw [← HGB.out]; refine wl_store_at ((hI7.new (l := envZ) (g := gb) _ 25 HGB.out rfl).new (l := siz) (g := gb + 1) _ 43 (by simp [HGB.out]) rfl) 1 rfl 25 (.tmp 12) (.tmp 47) rfl gb _ _ csB rfl rfl rfl (by rw [HLB.out]; rfl) (by rw [HLB.out]; kernel_rfl) HOB.out ⟨by simp [Res.apart], hI7.fresh (by rw [HGB.out]; exact Nat.le_refl _) rfl⟩ ?_; intro W8 hW8 hs8; clear hs8; simp only [List.set_cons_zero, List.set_cons_succ] at hW8)
            | (refine wl_store_at hW8 0 rfl 43 (.tmp 13) (.tmp 48) rfl (gb + 1) _ _ (siCells s2 h2 n2) rfl rfl rfl (by rw [si_len _ _ _ HS2.out]; rfl) (by rw [si_len _ _ _ HS2.out]; kernel_rfl) (si_one _ _ _) ⟨by simp [Res.apart], hI7.fresh (by rw [HGB.out]; omega) rfl⟩ ?_; intro W9 hW9 hs9; clear hs9; simp only [List.set_cons_zero, List.set_cons_succ] at hW9))
          clear hI7 hW8 HGB
          have heq : ∀ W, (binOp .neq 43 (.agg (siCells s2 h2 n2).toArray) (.agg (siCells s2 h2 n2).toArray)).run Try.prog W = .ok (.bool false) W := fun W => ne_si W s2 h2 n2 HS2.out HH2.out.1.1 HH2.out.1.2 HH2.out.2.1 HH2.out.2.2
          have hsame := SameE_true W9 W9.heap.size RA csA csB ((hW9.at_ 5 rfl : EnvAt W9 ga RA csA ∧ ga ≤ W9.heap.size).1.mono (hW9.at_ 5 rfl : _ ∧ ga ≤ W9.heap.size).2) ((hW9.at_ 2 rfl : EnvAt W9 gb RA csB ∧ gb ≤ W9.heap.size).1.mono (hW9.at_ 2 rfl : _ ∧ gb ≤ W9.heap.size).2) HSH.out (Nat.le_trans HRA.out.1 (by decide)) (Nat.le_trans HRA.out.2.1 (by decide)) (Nat.le_trans HRA.out.2.2 (by decide)) (Nat.le_refl _)
          have wk4 : IntKind.i64.wrap ((k : Int) + 1) = ((k + 1 : Nat) : Int) := by rw [IntWalk.i64_in _ (by omega)]; omega
          go_wp2_with (first
            | (refine wl_met_load 43 (.tmp 10) rfl ⟨ga + 1, 0, none⟩ rfl (siCells s2 h2 n2) _ (Cells.sub (hW9.at_ 3 rfl) 0 (fun j u h => by rwa [Nat.zero_add])) Try.underlying43 rfl (by rw [si_len _ _ _ HS2.out]; kernel_rfl) rfl ?_)
            | (refine wl_met_load 43 (.tmp 13) rfl ⟨gb + 1, 0, none⟩ rfl (siCells s2 h2 n2) _ (Cells.sub (hW9.at_ 0 rfl) 0 (fun j u h => by rwa [Nat.zero_add])) Try.underlying43 rfl (by rw [si_len _ _ _ HS2.out]; kernel_rfl) rfl ?_)
            | (refine wl_met_load 25 (.tmp 9) rfl ⟨ga, 0, none⟩ rfl csA _ (Cells.sub (hW9.at_ 4 rfl) 0 (fun j u h => by rwa [Nat.zero_add])) Try.underlying25 rfl (by rw [HLA.out]; kernel_rfl) rfl ?_)
            | (refine wl_met_load 25 (.tmp 12) rfl ⟨gb, 0, none⟩ rfl csB _ (Cells.sub (hW9.at_ 1 rfl) 0 (fun j u h => by rwa [Nat.zero_add])) Try.underlying25 rfl (by rw [HLB.out]; kernel_rfl) rfl ?_)
            | (go_at_call 21; refine hsame.mono ?_; clear hsame; rintro e w10 ⟨rfl, hb10⟩; have hW10 := hW9.call hb10; clear hW9))
          exact ⟨⟨k + 1, by omega, by go_num, hW10.2.2.2.2.2.2.2⟩, by simp [intOf]; omega⟩
        · obtain rfl : k = 2 := by omega
          have haw := awakeE_any wr
          have hk9 := (hI.at_ 4 rfl : _ ∧ w.heap.size ≤ wr.heap.size)
          go_wp2_with (go_at_call 16; refine haw.mono ?_; clear haw; rintro e w9 ⟨rfl, hb9⟩)
          go_ret
          exact ⟨rfl, hk9.1.trans (hb9.mono hk9.2)⟩
end Go.Proofs.Ytfakjamocpamiaa

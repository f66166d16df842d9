/- The law EnvelopeValid. -/
import Derived.Test.YtfakjamocpamiaaEnvY
set_option linter.unusedSimpArgs false
set_option linter.unusedVariables false
set_option maxRecDepth 100000
namespace Go.Proofs.Ytfakjamocpamiaa
open Go Go.RowKit Go.Adm
set_option maxHeartbeats 6400000 in
theorem walkValid (w : World) (B : Nat) (R0 : EnvR) (cs0 : List Value) (hE : EnvAt w B R0 cs0) (hk : R0.kind.size ≤ 140737488355328) (hpl : R0.pay.length ≤ 140737488351232) (hsl : R0.sigs.length ≤ 140737488351232) (hsz : ∀ s ∈ R0.sigs, s.chain.length ≤ 140737488351232 ∧ s.path.length ≤ 140737488351232) (Ap : Option Addr) (cp : Nat) (p : List UInt8) (As : Option Addr) (cq : Nat) (q : List UInt8) (sp : Int) (b : UInt8) (hcp : p.length ≤ cp) (hcm : cp ≤ 140737488351232) (hp : Rd w B 1 Ap p.length (p.map bv)) (hcq : q.length ≤ cq) (hcn : cq ≤ 140737488351232) (hq : Rd w B 1 As q.length (q.map bv)) (hs0 : -9223372036854775808 ≤ sp) (hs1 : sp ≤ 9223372036854775807) (hB : B ≤ w.heap.size) :
    Calls Try.prog 3 #[.agg cs0.toArray, .agg (caseC Ap p.length cp As q.length cq sp b).toArray] w fun e w' => e = .returned (.bool true) ∧ Below w.heap.size w w' := by
  have hR : All w [.low (.env B R0 cs0), .low (.rd B 1 Ap p.length (p.map bv)), .low (.rd B 1 As q.length (q.map bv)), .kept w w.heap.size] := ⟨⟨hE, hB⟩, ⟨hp, hB⟩, ⟨hq, hB⟩, ⟨Below.refl _ _, Nat.le_refl _⟩, trivial⟩
  have HL3 := Lib.hid hE.len
  have HONE := Lib.hid hE.one
  have HCP := Lib.hid (And.intro hcp hcm)
  have HCQ := Lib.hid (Nat.le_trans hcq hcn)
  have HSP := Lib.hid (And.intro hs0 hs1)
  have HSZ := Lib.hid (And.intro (And.intro hk hpl) (And.intro hsl hsz))
  clear hE hp hq hcp hcm hcq hcn hs0 hs1 hk hpl hsl hsz
  go_enter Try.func3, Try.ntmps3
  go_upto_region 1 with (fail)
  obtain ⟨g, hg⟩ : ∃ g, g = w.heap.size := ⟨_, rfl⟩
  refine wp_gen ((hR.new (l := cs0) (g := g) _ 25 hg rfl).new (l := caseC Ap p.length cp As q.length cq sp b) (g := g + 1) _ 27 (by simp [hg]) rfl) ?_
  intro W1 hW1
  simp only [← hg]
  have HBW : Hid (B ≤ g) := Lib.hid (by rw [hg]; exact hB)
  clear hR hg hB
  have hlight := lightE_any W1 B R0 cs0 (hW1.at_ 2 rfl : EnvAt W1 B _ _ ∧ _).1 HSZ.out.1.1 (Nat.le_trans HSZ.out.1.2 (by decide)) (Nat.le_trans HSZ.out.2.1 (by decide)) (fun s hs => ⟨Nat.le_trans (HSZ.out.2.2 s hs).1 (by decide), Nat.le_trans (HSZ.out.2.2 s hs).2 (by decide)⟩) (hW1.at_ 2 rfl : _ ∧ B ≤ W1.heap.size).2
  go_wp2_with (first
    | (refine wl_load_any rfl 25 (.tmp 2) rfl ⟨g, 0, none⟩ rfl cs0 _ (Cells.sub (hW1.at_ 1 rfl) 0 (fun j u h => by rwa [Nat.zero_add])) Try.underlying25 rfl (by rw [HL3.out]; kernel_rfl) ?_)
    | fail)
  refine hlight.mono ?_
  intro e w2 hP
  obtain ⟨v, rfl, hLR, hb2⟩ := LitPost.v hP
  have hW2 := hW1.call hb2
  clear hW1 hlight hP hb2
  cases v with
  | false =>
    clear hLR
    go_wp2_with fail
    go_ret
    exact ⟨rfl, (hW2.at_ 5 rfl : _ ∧ _).1⟩
  | true =>
    have HLR := Lib.hid (hLR rfl)
    clear hLR
    have HMD : Hid (∀ W, All W [.cells (g + 1) 27 (caseC Ap p.length cp As q.length cq sp b), .cells g 25 cs0, .low (.env B R0 cs0), .low (.rd B 1 Ap p.length (p.map bv)), .low (.rd B 1 As q.length (q.map bv)), .kept w w.heap.size] → Calls Try.prog 10 #[.agg (caseC Ap p.length cp As q.length cq sp b).toArray] W (MdPost p q sp W)) := Lib.hid (fun W hW => made_any W B Ap p.length cp p As q.length cq q sp b (hW.at_ 3 rfl : Rd W B 1 Ap _ _ ∧ _).1 rfl HCP.out.1 HCP.out.2 (hW.at_ 4 rfl : Rd W B 1 As _ _ ∧ _).1 rfl HCQ.out HSP.out (hW.at_ 3 rfl : _ ∧ B ≤ W.heap.size).2)
    go_upto_region 3 with fail
    refine wp_region_all [10, 11, 12, 13, 14, 15] _
      [.eq (.agg cs0.toArray), .eq (.agg (caseC Ap p.length cp As q.length cq sp b).toArray), .made p q sp, .pair p q sp cs0, .eq (.int .i64 ((2 : Nat) : Int)), .eq (.int .i64 0)]
      (by kernel_rfl) (by kernel_rfl) (by simp) (by kernel_rfl) hW2 rfl ?hops ?fin
    case hops =>
      refine ⟨?_, ?_, ?_, ?_, ?_, ?_, trivial⟩
      · intro a W hW hb hd K hK
        have b2 := hb 2 rfl
        refine wp_load_any 25 (.tmp 2) rfl ⟨g, 0, none⟩ (show a.eval (.tmp 2) = _ from by simp only [Act.eval, Array.getD_eq_getD_getElem?]; exact b2) (cs0) _ (Cells.sub (hW.at_ 1 rfl) 0 (fun j u h => by rwa [Nat.zero_add])) Try.underlying25 rfl (by rw [HL3.out]; kernel_rfl) ?_
        exact hK _ _ (World.grownBy.refl _ _) rfl
      · intro a W hW hb hd K hK
        have b3 := hb 3 rfl
        refine wp_load_any 27 (.tmp 3) rfl ⟨g + 1, 0, none⟩ (show a.eval (.tmp 3) = _ from by simp only [Act.eval, Array.getD_eq_getD_getElem?]; exact b3) (caseC Ap p.length cp As q.length cq sp b) _ (Cells.sub (hW.at_ 0 rfl) 0 (fun j u h => by rwa [Nat.zero_add])) Try.underlying27 rfl (by kernel_rfl) ?_
        exact hK _ _ (World.grownBy.refl _ _) rfl
      · intro a W hW hb hd K hK
        have b11 : a.tmps[11]?.getD undef = _ := hd ⟨1, .data⟩ (by simp) rfl
        go_simp
        refine (HMD.out W hW).mono ?_
        rintro e w' ⟨R, cs, rfl, hE, hM, hb'⟩
        exact hK _ _ (grown_of_below hb') ⟨R, cs, rfl, hE, hM⟩
      · intro a W hW hb hd K hK
        have b10 : a.tmps[10]?.getD undef = _ := hd ⟨0, .data⟩ (by simp) rfl
        obtain ⟨R, cs, b12, hE, hM⟩ := (hd ⟨2, .data⟩ (by simp) rfl : VF.ok (.made p q sp) (a.tmps[12]?.getD undef) W)
        refine wp_lit2 el_env (.tmp 10) (.tmp 12) rfl cs0 cs (show a.eval (.tmp 10) = _ from by simp only [Act.eval, Array.getD_eq_getD_getElem?]; exact b10) (show a.eval (.tmp 12) = _ from by simp only [Act.eval, Array.getD_eq_getD_getElem?]; exact b12) HL3.out hE.len (by decide) ?_
        exact hK _ _ (grown_alloc _ _) ⟨⟨W.heap.size, 0, none⟩, R, cs, rfl, pair_els HL3.out hE.len, hE.grown (grown_alloc _ _), hM⟩
      · intro a W hW hb hd K hK
        obtain ⟨ad, R, cs, b13, -, -, -⟩ := (hd ⟨3, .data⟩ (by simp) rfl : VF.ok (.pair p q sp cs0) (a.tmps[13]?.getD undef) W)
        replace b13 : a.tmps[13]?.getD undef = _ := b13
        go_simp
        exact hK _ _ (World.grownBy.refl _ _) rfl
      · intro a W hW hb hd K hK
        go_simp
        exact hK _ _ (World.grownBy.refl _ _) rfl
    case fin =>
      intro vs V hV hv
      obtain ⟨ad, R1, cs1, e13, hels, hE1, hM1⟩ := (hv 3 (by decide) : VF.ok (.pair p q sp cs0) (vs 3) V)
      have e14 : vs 4 = .int .i64 2 := hv 4 (by decide)
      have e15 : vs 5 = _ := hv 5 (by decide)
      clear hv HMD hW2
      simp only [putAll, Nat.zero_add, Nat.reduceAdd, List.drop_succ_cons, List.drop_zero, e13, e14, e15, Act.put, List.setIfInBounds_toArray, List.set_cons_succ, List.set_cons_zero]
      clear e13 e14 e15
      have hI0 : All V [.low (.els V.heap.size 3 (some ad) 2 [cs0, cs1]), .low (.env V.heap.size R1 cs1), .low (.env B R0 cs0), .kept w w.heap.size] := ⟨⟨hels, Nat.le_refl _⟩, ⟨hE1, Nat.le_refl _⟩, hV.at_ 2 rfl, hV.at_ 5 rfl, trivial⟩
      have HLEN1 := Lib.hid hE1.len
      have HONE1 := Lib.hid hE1.one
      have HSM1 := Lib.hid hM1.sm
      clear hels hE1 hM1 hV
      obtain ⟨B5, hB5⟩ : ∃ b, b = V.heap.size := ⟨_, rfl⟩
      rw [← hB5] at hI0
      clear hB5
      go_wp2_with fail
      go_loopw [15] (fun i wr => ∃ k : Nat, k ≤ 2 ∧ i = .int .i64 k ∧ All wr [.low (.els B5 3 (some ad) 2 [cs0, cs1]), .low (.env B5 R1 cs1), .low (.env B R0 cs0), .kept w w.heap.size]) (fun i _ => 2 - (intOf i).toNat)
      case atStart => exact ⟨0, by omega, rfl, hI0⟩
      case round =>
        clear hI0
        obtain ⟨k, hk, rfl, hI⟩ := hrel
        by_cases hlt : k < 2
        · have d1 : decide ((k : Int) < 2) = true := by simp; omega
          have wk0 : (0 : Int) ≤ (k : Int) := by omega
          have wk1 : (k : Int) < 2 := by omega
          have wk2 : ((k : Int)).toNat = k := by omega
          have hbl := (hI.at_ 0 rfl : Els wr B5 3 (some ad) 2 [cs0, cs1] ∧ B5 ≤ wr.heap.size)
          have hx : ∃ R cs, [cs0, cs1][k]? = some cs ∧ SmR R ∧ cs.length = 3 ∧ (∀ v ∈ cs, v.oneCell' = true) ∧ ∀ W, All W [.low (.els B5 3 (some ad) 2 [cs0, cs1]), .low (.env B5 R1 cs1), .low (.env B R0 cs0), .kept w w.heap.size] → EnvAt W W.heap.size R cs := by
            match k, hlt with
            | 0, _ => exact ⟨R0, cs0, rfl, HLR.out.sm, HL3.out, HONE.out, fun W hW => (hW.at_ 2 rfl : EnvAt W B R0 cs0 ∧ B ≤ W.heap.size).1.mono (hW.at_ 2 rfl : _ ∧ B ≤ W.heap.size).2⟩
            | 1, _ => exact ⟨R1, cs1, rfl, HSM1.out, HLEN1.out, HONE1.out, fun W hW => (hW.at_ 1 rfl : EnvAt W B5 R1 cs1 ∧ B5 ≤ W.heap.size).1.mono (hW.at_ 1 rfl : _ ∧ B5 ≤ W.heap.size).2⟩
          obtain ⟨R, cs, hcs, hsm, hl3, hone, hEx⟩ := hx
          obtain ⟨ad', hA', hadB, hc⟩ := Els.at_ hbl.1 (k := k) (by simpa using hlt)
          obtain rfl : ad = ad' := by injection hA'
          have hce : [cs0, cs1][k]'(by simpa using hlt) = cs := by
            have := List.getElem?_eq_getElem (l := [cs0, cs1]) (i := k) (by simpa using hlt)
            rw [hcs] at this
            exact (Option.some.inj this).symm
          rw [hce] at hc
          have HC := Lib.hid hc
          have HCL := Lib.hid hl3
          have HCO := Lib.hid hone
          have HEX := Lib.hid hEx
          have HSM := Lib.hid hsm
          clear hc hl3 hone hEx hsm hcs hce hbl hA' hadB
          obtain ⟨gx, hgx⟩ : ∃ gx, gx = wr.heap.size := ⟨_, rfl⟩
          have HGX := Lib.hid hgx
          clear hgx
          have hze := zero_env
          go_upto_region 6 with (first
            | (refine wl_load_any rfl 25 (.tmp 17) rfl (ad.add (k * 3)) rfl cs _ HC.out Try.underlying25 rfl (by rw [HCL.out]; kernel_rfl) ?_)
            | (rw [← HGX.out]; refine wl_store_at (hI.new (l := envZ) (g := gx) _ 25 HGX.out rfl) 0 rfl 25 (.tmp 6) (.tmp 18) rfl gx _ envZ cs rfl rfl rfl (by rw [HCL.out]; rfl) (by rw [HCL.out]; kernel_rfl) HCO.out (hI.fresh (by rw [HGX.out]; exact Nat.le_refl _) rfl) ?_; intro W3 hW3 hs3; clear hs3; simp only [List.set_cons_zero] at hW3))
          clear hI HC HGX d1
          obtain ⟨v, hv⟩ : ∃ v, v = validR R := ⟨_, rfl⟩
          obtain ⟨ds, hds⟩ : ∃ ds, ds = signersE R := ⟨_, rfl⟩
          have HDL : Hid (ds.length ≤ 12) := Lib.hid (by rw [hds]; exact Nat.le_trans (signers_len R) HSM.out.2.2)
          have HEY : Hid (∀ W, All W (.cells gx 25 cs :: [.low (.els B5 3 (some ad) 2 [cs0, cs1]), .low (.env B5 R1 cs1), .low (.env B R0 cs0), .kept w w.heap.size]) → EnvAt W W.heap.size R cs) := Lib.hid (fun W hW => HEX.out W hW.2)
          have HV1 : Hid (∀ W, All W (.cells gx 25 cs :: [.low (.els B5 3 (some ad) 2 [cs0, cs1]), .low (.env B5 R1 cs1), .low (.env B R0 cs0), .kept w w.heap.size]) → Calls Try.prog 11 #[.agg cs.toArray] W fun e w' => e = .returned (.bool v) ∧ Below W.heap.size W w') := Lib.hid (fun W hW => by rw [hv]; exact ValidE_at W W.heap.size R cs (HEY.out W hW) (Nat.le_trans HSM.out.1 (by decide)) (Nat.le_trans HSM.out.2.1 (by decide)) (Nat.le_trans HSM.out.2.2 (by decide)) (Nat.le_refl _))
          have HV2 : Hid (∀ W, All W (.cells gx 25 cs :: [.low (.els B5 3 (some ad) 2 [cs0, cs1]), .low (.env B5 R1 cs1), .low (.env B R0 cs0), .kept w w.heap.size]) → Calls Try.prog 12 #[.agg cs.toArray] W fun e w' => e = .returned (.bool v) ∧ Below W.heap.size W w') := Lib.hid (fun W hW => by rw [hv]; exact refValidE_at W W.heap.size R cs (HEY.out W hW) (Nat.le_trans HSM.out.1 (by decide)) (Nat.le_trans HSM.out.2.1 (by decide)) (Nat.le_trans HSM.out.2.2 (by decide)) (Nat.le_refl _))
          have HS1 : Hid (∀ W, All W (.cells gx 25 cs :: [.low (.els B5 3 (some ad) 2 [cs0, cs1]), .low (.env B5 R1 cs1), .low (.env B R0 cs0), .kept w w.heap.size]) → Calls Try.prog 14 #[.agg cs.toArray] W fun e w' => ∃ A c, e = .returned (.slice A ds.length c) ∧ Digs w' w'.heap.size A ds.length ds ∧ Below W.heap.size W w') := Lib.hid (fun W hW => by rw [hds]; exact (SignersE_any W W.heap.size R cs (HEY.out W hW) (Nat.le_trans HSM.out.1 (by decide)) (Nat.le_trans HSM.out.2.1 (by decide)) (Nat.le_trans HSM.out.2.2 (by decide)) (Nat.le_refl _)).mono fun e w' h => SgsPost.v h)
          have HS2 : Hid (∀ W, All W (.cells gx 25 cs :: [.low (.els B5 3 (some ad) 2 [cs0, cs1]), .low (.env B5 R1 cs1), .low (.env B R0 cs0), .kept w w.heap.size]) → Calls Try.prog 15 #[.agg cs.toArray] W fun e w' => ∃ A c, e = .returned (.slice A ds.length c) ∧ Digs w' w'.heap.size A ds.length ds ∧ Below W.heap.size W w') := Lib.hid (fun W hW => by rw [hds]; exact (refSignersE_any W W.heap.size R cs (HEY.out W hW) (Nat.le_trans HSM.out.1 (by decide)) (Nat.le_trans HSM.out.2.1 (by decide)) (Nat.le_trans HSM.out.2.2 (by decide)) (Nat.le_refl _)).mono fun e w' h => SgsPost.v h)
          clear hv hds HEX HEY
          refine wp_region_hops 12 [19, 20, 21, 22, 23, 24, 25, 26, 27, 28, 29, 30] (.cells gx 25 cs :: [.low (.els B5 3 (some ad) 2 [cs0, cs1]), .low (.env B5 R1 cs1), .low (.env B R0 cs0), .kept w w.heap.size])
            [.eq (.agg cs.toArray), .eq (.bool v), .eq (.agg cs.toArray), .eq (.bool v), .eq (.bool false), .eq (.bool false), .eq (.agg cs.toArray), .digs ds, .eq (.agg cs.toArray), .digs ds, .eq (.bool true), .eq (.bool false)]
            (by kernel_rfl) (by kernel_rfl) hW3 rfl ?hops ?fin
          case hops =>
            refine ⟨?_, ?_, ?_, ?_, ?_, ?_, ?_, ?_, ?_, ?_, ?_, ?_, trivial⟩
            · intro a W hW hb hd K hK
              have b6 := hb 6 rfl
              refine wp_load_any 25 (.tmp 6) rfl ⟨gx, 0, none⟩ (show a.eval (.tmp 6) = _ from by simp only [Act.eval, Array.getD_eq_getD_getElem?]; exact b6) (cs) _ (Cells.sub (hW.at_ 0 rfl) 0 (fun j u h => by rwa [Nat.zero_add])) Try.underlying25 rfl (by rw [HCL.out]; kernel_rfl) ?_
              exact hK _ _ (World.grownBy.refl _ _) rfl
            · intro a W hW hb hd K hK
              have b19 : a.tmps[19]?.getD undef = _ := hd ⟨0, .data⟩ (by simp) rfl
              go_simp
              refine (HV1.out W hW).mono ?_
              rintro e w' ⟨rfl, hb'⟩
              exact hK _ _ (grown_of_below hb') rfl
            · intro a W hW hb hd K hK
              have b6 := hb 6 rfl
              refine wp_load_any 25 (.tmp 6) rfl ⟨gx, 0, none⟩ (show a.eval (.tmp 6) = _ from by simp only [Act.eval, Array.getD_eq_getD_getElem?]; exact b6) (cs) _ (Cells.sub (hW.at_ 0 rfl) 0 (fun j u h => by rwa [Nat.zero_add])) Try.underlying25 rfl (by rw [HCL.out]; kernel_rfl) ?_
              exact hK _ _ (World.grownBy.refl _ _) rfl
            · intro a W hW hb hd K hK
              have b21 : a.tmps[21]?.getD undef = _ := hd ⟨2, .data⟩ (by simp) rfl
              go_simp
              refine (HV2.out W hW).mono ?_
              rintro e w' ⟨rfl, hb'⟩
              exact hK _ _ (grown_of_below hb') rfl
            · intro a W hW hb hd K hK
              have b20 : a.tmps[20]?.getD undef = _ := hd ⟨1, .data⟩ (by simp) rfl
              have b22 : a.tmps[22]?.getD undef = _ := hd ⟨3, .data⟩ (by simp) rfl
              go_simp
              exact hK _ _ (World.grownBy.refl _ _) rfl
            · intro a W hW hb hd K hK
              have b23 : a.tmps[23]?.getD undef = _ := hd ⟨4, .data⟩ (by simp) rfl
              go_simp
              exact hK _ _ (World.grownBy.refl _ _) rfl
            · refine Or.inl ⟨fun v w h => h, ?_⟩
              intro a W hW hb hd K hK
              have b6 := hb 6 rfl
              refine wp_load_any 25 (.tmp 6) rfl ⟨gx, 0, none⟩ (show a.eval (.tmp 6) = _ from by simp only [Act.eval, Array.getD_eq_getD_getElem?]; exact b6) (cs) _ (Cells.sub (hW.at_ 0 rfl) 0 (fun j u h => by rwa [Nat.zero_add])) Try.underlying25 rfl (by rw [HCL.out]; kernel_rfl) ?_
              exact hK _ _ (World.grownBy.refl _ _) rfl
            · refine Or.inl ⟨fun v w h => h, ?_⟩
              intro a W hW hb hd K hK
              have b25 : a.tmps[25]?.getD undef = _ := hd ⟨6, .data⟩ (by simp) rfl
              go_simp
              refine (HS1.out W hW).mono ?_
              rintro e w' ⟨A, c, rfl, hD, hb'⟩
              exact hK _ _ (grown_of_below hb') ⟨A, c, rfl, hD⟩
            · refine Or.inl ⟨fun v w h => h, ?_⟩
              intro a W hW hb hd K hK
              have b6 := hb 6 rfl
              refine wp_load_any 25 (.tmp 6) rfl ⟨gx, 0, none⟩ (show a.eval (.tmp 6) = _ from by simp only [Act.eval, Array.getD_eq_getD_getElem?]; exact b6) (cs) _ (Cells.sub (hW.at_ 0 rfl) 0 (fun j u h => by rwa [Nat.zero_add])) Try.underlying25 rfl (by rw [HCL.out]; kernel_rfl) ?_
              exact hK _ _ (World.grownBy.refl _ _) rfl
            · refine Or.inl ⟨fun v w h => h, ?_⟩
              intro a W hW hb hd K hK
              have b27 : a.tmps[27]?.getD undef = _ := hd ⟨8, .data⟩ (by simp) rfl
              go_simp
              refine (HS2.out W hW).mono ?_
              rintro e w' ⟨A, c, rfl, hD, hb'⟩
              exact hK _ _ (grown_of_below hb') ⟨A, c, rfl, hD⟩
            · refine Or.inl ⟨fun v w h => h, ?_⟩
              intro a W hW hb hd K hK
              obtain ⟨A1, c1, b26, hD1⟩ := (hd ⟨7, .data⟩ (by simp) rfl : VF.ok (.digs ds) (a.tmps[26]?.getD undef) W)
              obtain ⟨A2, c2, b28, hD2⟩ := (hd ⟨9, .data⟩ (by simp) rfl : VF.ok (.digs ds) (a.tmps[28]?.getD undef) W)
              replace b26 : a.tmps[26]?.getD undef = _ := b26
              replace b28 : a.tmps[28]?.getD undef = _ := b28
              go_simp
              refine (SameDigs_true W W.heap.size A1 A2 _ c1 c2 ds hD1 hD2 (Nat.le_trans HDL.out (by decide)) (Nat.le_refl _)).mono ?_
              rintro e w' ⟨rfl, hb'⟩
              exact hK _ _ (grown_of_below hb') rfl
            · refine Or.inl ⟨fun v w h => h, ?_⟩
              intro a W hW hb hd K hK
              have b29 : a.tmps[29]?.getD undef = _ := hd ⟨10, .data⟩ (by simp) rfl
              go_simp
              exact hK _ _ (World.grownBy.refl _ _) rfl
          case fin =>
            intro vs V3 hV3 hv3
            have e24 : vs 5 = .bool false := hv3 5 (by decide)
            have e30 : vs 11 = .bool false := hv3 11 (by decide)
            clear hv3 hW3 HV1 HV2 HS1 HS2
            simp only [putAll, Nat.zero_add, Nat.reduceAdd, List.drop_succ_cons, List.drop_zero, e24, e30, Act.put, List.setIfInBounds_toArray, List.set_cons_succ, List.set_cons_zero]
            clear e24 e30
            have wk4 : IntKind.i64.wrap ((k : Int) + 1) = ((k + 1 : Nat) : Int) := by rw [IntWalk.i64_in _ (by omega)]; omega
            have hV4 := hV3.2
            clear hV3
            go_wp2_with fail
            exact ⟨⟨k + 1, by omega, by go_num, hV4⟩, by simp [intOf]; omega⟩
        · obtain rfl : k = 2 := by omega
          have haw := awakeE_any wr
          have hk9 := (hI.at_ 3 rfl : _ ∧ w.heap.size ≤ wr.heap.size)
          go_wp2_with (go_at_call 16; refine haw.mono ?_; clear haw; rintro e w9 ⟨rfl, hb9⟩)
          go_ret
          exact ⟨rfl, hk9.1.trans (hb9.mono hk9.2)⟩
end Go.Proofs.Ytfakjamocpamiaa

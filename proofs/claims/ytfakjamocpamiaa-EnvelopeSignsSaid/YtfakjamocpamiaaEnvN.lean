/- Who has signed an envelope: the reference. -/
import Derived.Test.YtfakjamocpamiaaEnvH
set_option linter.unusedSimpArgs false
set_option linter.unusedVariables false
set_option maxRecDepth 100000
namespace Go.Proofs.Ytfakjamocpamiaa
open Go Go.RowKit Go.Adm
set_option maxHeartbeats 3200000 in
theorem refVerifies_any (w : World) (B : Nat) (kind : ByteArray) (Ap : Option Addr) (np cp : Nat) (As : Option Addr) (ns cc : Nat) (pay : List UInt8) (x : Ks) (hp : Rd w B 1 Ap np (pay.map bv)) (hx : KsOk w B x) (hk : kind.size ≤ 140737488355328) (hnp : np ≤ 140737488355000) (hB : B ≤ w.heap.size) :
    Calls Try.prog 34 #[.agg (envC kind Ap np cp As ns cc).toArray, .agg (ksC x).toArray] w fun e w' => e = .returned (.bool (verG (msgS kind pay) x.s)) ∧ Below w.heap.size w w' := by
  have hR : All w [.low (.rd B 1 Ap np (pay.map bv)), .low (.els B 16 x.Ac x.chain.length (hvs x.chain)), .low (.els B 16 x.Ap x.path.length (hvs x.path)), .kept w w.heap.size] := ⟨⟨hp, hB⟩, ⟨hx.rc, hB⟩, ⟨hx.rp, hB⟩, ⟨Below.refl _ _, Nat.le_refl _⟩, trivial⟩
  have HR := Lib.hid hx.r16
  have HC := Lib.hid hx.c16
  have HP := Lib.hid hx.p16
  obtain ⟨m, hm⟩ : ∃ m, msgS kind pay = m := ⟨_, rfl⟩
  have HM := Lib.hid hm
  have HML : Hid (m.length = 32) := Lib.hid (by rw [← hm]; exact msgS_len _ _)
  clear hx hp hm
  go_enter Try.func34, Try.ntmps34
  go_upto_region 1 with (fail)
  obtain ⟨g, hg⟩ : ∃ g, g = w.heap.size := ⟨_, rfl⟩
  refine wp_gen ((hR.new (l := envC kind Ap np cp As ns cc) (g := g) _ 25 hg rfl).new (l := ksC x) (g := g + 1) _ 64 (by simp [hg]) rfl) ?_
  intro W1 hW1
  simp only [← hg]
  clear hR hg
  refine wp_region_hops 9 [5, 6, 7, 8, 9, 10, 11, 12, 13] _
    [.eq (.pointer (some ⟨g + 1, 0, none⟩)), .eq (.agg (pkCells x.h x.r).toArray), .eq (.pointer (some ⟨g, 0, none⟩)), .eq (.string kind), .eq (.pointer (some ⟨g, 1, none⟩)), .eq (.slice Ap np cp), .eq (.agg (m.map bv).toArray), .eq (.pointer (some ⟨g + 1, 17, none⟩)), .eq (.agg (sgCells x.leaf x.Ac x.chain.length x.cc x.Ap x.path.length x.cp).toArray)]
    (by kernel_rfl) (by kernel_rfl) hW1 rfl ?hops ?fin
  case hops =>
    refine ⟨?_, ?_, ?_, ?_, ?_, ?_, ?_, ?_, ?_, trivial⟩
    · intro a W hW hb hd K hK
      have b3 := hb 3 rfl
      go_simp
      exact hK _ _ (World.grownBy.refl _ _) rfl
    · intro a W hW hb hd K hK
      have b5 : a.tmps[5]?.getD undef = _ := hd ⟨0, .data⟩ (by simp) rfl
      refine wp_load_any 62 (.tmp 5) rfl ⟨g + 1, 0, none⟩ (show a.eval (.tmp 5) = _ from by simp only [Act.eval, Array.getD_eq_getD_getElem?]; exact b5) (pkCells x.h x.r) _ (Cells.sub (hW.at_ 0 rfl) 0 (ks_pk x)) Try.underlying62 rfl (by rw [pkLen HR.out]; kernel_rfl) ?_
      exact hK _ _ (World.grownBy.refl _ _) rfl
    · intro a W hW hb hd K hK
      have b2 := hb 2 rfl
      go_simp
      exact hK _ _ (World.grownBy.refl _ _) rfl
    · intro a W hW hb hd K hK
      have b7 : a.tmps[7]?.getD undef = _ := hd ⟨2, .data⟩ (by simp) rfl
      have q1 := (env_cells kind Ap np cp As ns cc (hW.at_ 1 rfl)).1
      go_simp
      exact hK _ _ (World.grownBy.refl _ _) rfl
    · intro a W hW hb hd K hK
      have b2 := hb 2 rfl
      go_simp
      exact hK _ _ (World.grownBy.refl _ _) rfl
    · intro a W hW hb hd K hK
      have b9 : a.tmps[9]?.getD undef = _ := hd ⟨4, .data⟩ (by simp) rfl
      have q1 := (env_cells kind Ap np cp As ns cc (hW.at_ 1 rfl)).2.1
      go_simp
      exact hK _ _ (World.grownBy.refl _ _) rfl
    · intro a W hW hb hd K hK
      have b8 : a.tmps[8]?.getD undef = _ := hd ⟨3, .data⟩ (by simp) rfl
      have b10 : a.tmps[10]?.getD undef = _ := hd ⟨5, .data⟩ (by simp) rfl
      have hme := refMessage_any W B kind Ap np cp pay (hW.at_ 2 rfl : Rd W B 1 Ap np _ ∧ _).1 hk (by omega) (hW.at_ 2 rfl : _ ∧ B ≤ W.heap.size).2
      rw [HM.out] at hme
      go_simp
      refine (hme).mono ?_
      rintro e w' ⟨rfl, hb'⟩
      exact hK _ _ (grown_of_below hb') rfl
    · intro a W hW hb hd K hK
      have b3 := hb 3 rfl
      go_simp
      exact hK _ _ (World.grownBy.refl _ _) rfl
    · intro a W hW hb hd K hK
      have b12 : a.tmps[12]?.getD undef = _ := hd ⟨7, .data⟩ (by simp) rfl
      refine wp_load_any 60 (.tmp 12) rfl ⟨g + 1, 17, none⟩ (show a.eval (.tmp 12) = _ from by simp only [Act.eval, Array.getD_eq_getD_getElem?]; exact b12) (sgCells x.leaf x.Ac x.chain.length x.cc x.Ap x.path.length x.cp) _ (Cells.sub (hW.at_ 0 rfl) 17 (ks_sg HR.out)) Try.underlying60 rfl (by kernel_rfl) ?_
      exact hK _ _ (World.grownBy.refl _ _) rfl
  case fin =>
    intro vs V hV hv
    have e1 : vs 1 = _ := hv 1 (by decide)
    have e6 : vs 6 = _ := hv 6 (by decide)
    have e8 : vs 8 = _ := hv 8 (by decide)
    clear hv hW1
    simp only [putAll, List.drop_succ_cons, List.drop_zero, e1, e6, e8, Act.put, List.setIfInBounds_toArray, List.set_cons_succ, List.set_cons_zero]
    clear e1 e6 e8
    have hve := refVerify_any V B x.h x.leaf x.r m x.chain x.path x.Ac x.cc x.Ap x.cp HR.out HML.out (hV.at_ 3 rfl : Els V B 16 _ _ _ ∧ _).1 HC.out (hV.at_ 4 rfl : Els V B 16 _ _ _ ∧ _).1 HP.out (hV.at_ 3 rfl : _ ∧ B ≤ V.heap.size).2
    go_wp2_with (go_at_call 58; refine hve.mono ?_; clear hve; rintro e w3 ⟨rfl, hb3⟩; have hV3 := hV.call hb3)
    go_ret
    exact ⟨by rw [HM.out]; rfl, (hV3.at_ 5 rfl : _ ∧ _).1⟩

set_option maxHeartbeats 6400000 in
theorem refSignersE_any (w : World) (B : Nat) (R : EnvR) (cs : List Value) (hE : EnvAt w B R cs) (hk : R.kind.size ≤ 140737488355328) (hpl : R.pay.length ≤ 140737488355000) (hsl : R.sigs.length ≤ 1000000) (hB : B ≤ w.heap.size) :
    Calls Try.prog 15 #[.agg cs.toArray] w (SgsPost R w) := by
  obtain ⟨Ap, np, cp, As, ns, cc, l, rfl, hpn, hp, hlm, hl, hcp1, hcp2, hcs1, hcs2⟩ := hE
  obtain ⟨kind, pay, sigs⟩ := R
  dsimp only at *
  subst hlm
  rw [List.length_map, hl.len] at hsl
  rw [hpn] at hpl
  have HN := Lib.hid hl.len
  have HVR := Lib.hid (validK_R (kind := kind) (l := l) hpn)
  have hR : All w [.low (.kss B As ns l), .low (.rd B 1 Ap np (pay.map bv)), .kept w w.heap.size] := ⟨⟨hl, hB⟩, ⟨hp, hB⟩, ⟨Below.refl _ _, Nat.le_refl _⟩, trivial⟩
  clear hl hp hpn
  go_enter Try.func15, Try.ntmps15
  go_upto_region 1 with (fail)
  obtain ⟨g, hg⟩ : ∃ g, g = w.heap.size := ⟨_, rfl⟩
  have hBg : B ≤ g := by omega
  have hgw : w.heap.size ≤ g := by omega
  refine wp_gen (hR.new (l := envC kind Ap np cp As ns cc) (g := g) _ 25 hg rfl) ?_
  intro W1 hW1
  simp only [← hg]
  clear hR hg
  have hva := refValidE_any W1 B kind Ap np cp As ns cc l (hW1.at_ 1 rfl : Kss W1 B As ns l ∧ _).1 hk (by omega) (by omega) (hW1.at_ 1 rfl : _ ∧ B ≤ W1.heap.size).2
  obtain ⟨vb, hvb⟩ : ∃ vb, validR ⟨kind, pay, l.map Ks.s⟩ = vb := ⟨_, rfl⟩
  rw [HVR.out, hvb] at hva
  have HVB := Lib.hid hvb
  clear hvb
  cases vb with
  | false =>
    have HS : Hid (signersE ⟨kind, pay, l.map Ks.s⟩ = []) := Lib.hid (signersE_bad HVB.out)
    go_wp2_with (first
      | (refine wl_load_any rfl 25 (.tmp 1) rfl ⟨g, 0, none⟩ rfl (envC kind Ap np cp As ns cc) _ (Cells.sub (hW1.at_ 0 rfl) 0 (fun j u h => by rwa [Nat.zero_add])) Try.underlying25 rfl (by kernel_rfl) ?_)
      | (go_at_call 12; refine hva.mono ?_; clear hva; rintro e w2 ⟨rfl, hb2⟩; have hI := hW1.call hb2; clear hW1 hb2))
    go_ret
    exact ⟨none, 0, 0, rfl, by rw [HS.out]; exact Digs.nil, Nat.le_refl _, Nat.zero_le _, (hI.at_ 3 rfl : _ ∧ _).1⟩
  | true =>
    have HS : Hid (signersE ⟨kind, pay, l.map Ks.s⟩ = upK (msgS kind pay) l ns) := Lib.hid (by rw [← HN.out]; exact upK_all HVB.out)
    have HVF : Hid (∀ W ad x, All W [.cells g 25 (envC kind Ap np cp (some ad) ns cc), .low (.kss B (some ad) ns l), .low (.rd B 1 Ap np (pay.map bv)), .kept w w.heap.size] → KsOk W B x → Calls Try.prog 34 #[.agg (envC kind Ap np cp (some ad) ns cc).toArray, .agg (ksC x).toArray] W fun e w' => e = .returned (.bool (verG (msgS kind pay) x.s)) ∧ Below W.heap.size W w') := Lib.hid (fun W ad x hW hx => refVerifies_any W B kind Ap np cp (some ad) ns cc pay x (hW.at_ 2 rfl : Rd W B 1 Ap np _ ∧ _).1 hx hk hpl (hW.at_ 2 rfl : _ ∧ B ≤ W.heap.size).2)
    obtain ⟨m, hm⟩ : ∃ m, msgS kind pay = m := ⟨_, rfl⟩
    rw [hm] at HS HVF
    clear hm
    go_wp2_with (first
      | (refine wl_load_any rfl 25 (.tmp 1) rfl ⟨g, 0, none⟩ rfl (envC kind Ap np cp As ns cc) _ (Cells.sub (hW1.at_ 0 rfl) 0 (fun j u h => by rwa [Nat.zero_add])) Try.underlying25 rfl (by kernel_rfl) ?_)
      | (go_at_call 12; refine hva.mono ?_; clear hva; rintro e w2 ⟨rfl, hb2⟩; have hI := hW1.call hb2; clear hW1 hb2))
    have hI4 : All w2 [.own (g + 1) 37 32 none 0 0 (dvs (upK m l 0)).flatten, .cells g 25 (envC kind Ap np cp As ns cc), .low (.kss B As ns l), .low (.rd B 1 Ap np (pay.map bv)), .kept w w.heap.size] := ⟨Go.Adm.Own.nil _ _ _ _, hI⟩
    clear hI
    go_loopw [3, 4] (fun o i wr => ∃ (k n c : Nat) (A : Option Addr), k ≤ ns ∧ n = (upK m l k).length ∧ o = .slice A n c ∧ i = .int .i64 k ∧ All wr [.own (g + 1) 37 32 A n c (dvs (upK m l k)).flatten, .cells g 25 (envC kind Ap np cp As ns cc), .low (.kss B As ns l), .low (.rd B 1 Ap np (pay.map bv)), .kept w w.heap.size]) (fun _ i _ => ns - (intOf i).toNat)
    case atStart => exact ⟨0, 0, 0, none, by omega, by simp [upK], rfl, rfl, hI4⟩
    case round =>
      clear hI4
      obtain ⟨k, n, c, A, hk2, hn, rfl, rfl, hI⟩ := hrel
      have HNE := Lib.hid hn
      have hnk : n ≤ k := by rw [hn]; exact upK_len m l k
      clear hn
      have hoR : ∀ q, (Value.slice A n c).ownBlock = some q → g + 1 ≤ q := fun q hq => ((hI.at_ 0 rfl : Go.Adm.Own wr _ _ _ _ _ _ _).lt hq).1
      have q2 := (env_cells kind Ap np cp As ns cc (hI.at_ 1 rfl)).2.2
      by_cases hlt : k < ns
      · have d1 : decide ((k : Int) < (ns : Int)) = true := by simp; omega
        have hkl : k < l.length := by rw [HN.out]; exact hlt
        have hbl := (hI.at_ 2 rfl : Kss wr B As ns l ∧ B ≤ wr.heap.size)
        obtain ⟨ad, rfl, hadB, hc⟩ := Els.elem hbl.1.els hkl
        have HX : Hid (∀ W, All W [.own (g + 1) 37 32 A n c (dvs (upK m l k)).flatten, .cells g 25 (envC kind Ap np cp (some ad) ns cc), .low (.kss B (some ad) ns l), .low (.rd B 1 Ap np (pay.map bv)), .kept w w.heap.size] → ∀ q s, (ksC l[k])[q]? = some s → W.cell? ((ad.add (k * 20)).add q) = some s) := Lib.hid (fun W hW => by
          obtain ⟨ad', e, _, hc⟩ := Els.elem (hW.at_ 2 rfl : Kss W B (some ad) ns l ∧ B ≤ W.heap.size).1.els hkl
          obtain rfl := Option.some.inj e
          exact hc)
        have hxr := Lib.hid (hbl.1.each _ (List.getElem_mem hkl)).r16
        have HBL : Hid (∀ W, (Kss W B (some ad) ns l ∧ B ≤ W.heap.size) → KsOk W B l[k]) := Lib.hid (fun W hW => hW.1.each _ (List.getElem_mem hkl))
        have HYES : Hid (verG m l[k].s = true → upK m l (k + 1) = upK m l k ++ [idK l[k]]) := Lib.hid (upK_yes hkl)
        have HNO : Hid (verG m l[k].s = false → upK m l (k + 1) = upK m l k) := Lib.hid (upK_no hkl)
        clear hc hbl
        generalize l[k] = x at *
        have wk0 : (0 : Int) ≤ (k : Int) := by omega
        have wk1 : (k : Int) < (ns : Int) := by omega
        have wk2 : ((k : Int)).toNat = k := by omega
        go_upto_region 7 with (fail)
        refine wp_region_hops 6 [15, 16, 17, 18, 19, 20] _
          [.eq (.agg (envC kind Ap np cp (some ad) ns cc).toArray), .eq (.pointer (some ⟨g, 2, none⟩)), .eq (.slice (some ad) ns cc), .eq (.int .i64 k), .eq (.pointer (some (ad.add (k * 20)))), .eq (.agg (ksC x).toArray)]
          (by kernel_rfl) (by kernel_rfl) hI rfl ?hops ?fin
        case hops =>
          refine ⟨?_, ?_, ?_, ?_, ?_, ?_, trivial⟩
          · intro a W hW hb hd K hK
            have b1 := hb 1 rfl
            refine wp_load_any 25 (.tmp 1) rfl ⟨g, 0, none⟩ (show a.eval (.tmp 1) = _ from by simp only [Act.eval, Array.getD_eq_getD_getElem?]; exact b1) (envC kind Ap np cp (some ad) ns cc) _ (Cells.sub (hW.at_ 1 rfl) 0 (fun j u h => by rwa [Nat.zero_add])) Try.underlying25 rfl (by kernel_rfl) ?_
            exact hK _ _ (World.grownBy.refl _ _) rfl
          · intro a W hW hb hd K hK
            have b1 := hb 1 rfl
            go_simp
            exact hK _ _ (World.grownBy.refl _ _) rfl
          · intro a W hW hb hd K hK
            have b16 : a.tmps[16]?.getD undef = _ := hd ⟨1, .data⟩ (by simp) rfl
            have q1 := (env_cells kind Ap np cp (some ad) ns cc (hW.at_ 1 rfl)).2.2
            go_simp
            exact hK _ _ (World.grownBy.refl _ _) rfl
          · intro a W hW hb hd K hK
            have b4 := hb 4 rfl
            go_simp
            exact hK _ _ (World.grownBy.refl _ _) rfl
          · intro a W hW hb hd K hK
            have b17 : a.tmps[17]?.getD undef = _ := hd ⟨2, .data⟩ (by simp) rfl
            have b18 : a.tmps[18]?.getD undef = _ := hd ⟨3, .data⟩ (by simp) rfl
            go_simp
            exact hK _ _ (World.grownBy.refl _ _) rfl
          · intro a W hW hb hd K hK
            have b19 : a.tmps[19]?.getD undef = _ := hd ⟨4, .data⟩ (by simp) rfl
            refine wp_load_any 64 (.tmp 19) rfl (ad.add (k * 20)) (show a.eval (.tmp 19) = _ from by simp only [Act.eval, Array.getD_eq_getD_getElem?]; exact b19) (ksC x) _ (HX.out W hW) Try.underlying64 rfl (by rw [ksC_len hxr.out]; kernel_rfl) ?_
            exact hK _ _ (World.grownBy.refl _ _) rfl
        case fin =>
          intro vs V hV hv
          have e0 : vs 0 = _ := hv 0 (by decide)
          have e5 : vs 5 = _ := hv 5 (by decide)
          clear hv hI q2
          simp only [putAll, List.drop_succ_cons, List.drop_zero, e0, e5, Act.put, List.setIfInBounds_toArray, List.set_cons_succ, List.set_cons_zero]
          clear e0 e5
          obtain ⟨vx, hvx⟩ : ∃ vx, verG m x.s = vx := ⟨_, rfl⟩
          have hve := HVF.out V ad x hV.2 (HBL.out V (hV.at_ 2 rfl))
          rw [hvx] at hve
          have HVX := Lib.hid hvx
          have HIDC : Hid (∀ W, Calls Try.prog 32 #[.agg (pkCells x.h x.r).toArray] W fun e w' => e = .returned (.agg ((idK x).map bv).toArray) ∧ Below W.heap.size W w') := Lib.hid (fun W => refID_any W x.h x.r hxr.out)
          have HI32 : Hid ((idK x).length = 32) := Lib.hid (idK_len x)
          have q3 := (env_cells kind Ap np cp (some ad) ns cc (hV.at_ 1 rfl)).2.2
          clear hvx
          cases vx with
          | true =>
            have HU := Lib.hid (HYES.out HVX.out)
            clear HYES HNO HVX
            generalize idK x = d at *
            go_wp2_with (first
              | (go_at_call 34; refine hve.mono ?_; clear hve; rintro e w6 ⟨rfl, hb6⟩; have hV6 := hV.call hb6; have q6 := (env_cells kind Ap np cp (some ad) ns cc (hV6.at_ 1 rfl)).2.2; clear hV q3)
              | (refine wl_load_any rfl 62 (.tmp 27) rfl (ad.add (k * 20)) (by first | rfl | (simp [add_zero]; done)) (pkCells x.h x.r) _ (fun q s hs => HX.out w6 hV6 q s (by have := ks_pk x q s hs; rwa [Nat.zero_add] at this)) Try.underlying62 rfl (by rw [pkLen hxr.out]; kernel_rfl) ?_)
              | (go_at_call 32; refine (HIDC.out w6).mono ?_; rintro e w7 ⟨rfl, hb7⟩; have hV7 := hV6.call hb7)
              | (refine wl_lit1 el_dg rfl (.tmp 29) rfl (d.map bv) rfl (by rw [List.length_map]; exact HI32.out) (by decide) ?_)
              | (at_builtin; refine wl_app_at el_dg (hV7.alloc _) 0 rfl (.tmp 22) (.tmp 30) rfl (g + 1) _ _ _ _ rfl rfl (w7.heap.size + 1) _ 1 1 (d.map bv) rfl (Rd.lit w7 (d.map bv).toArray _ 1 (by rw [List.size_toArray, List.length_map, HI32.out])) (bv_one _) (by omega) (by have := (hV7.at_ 1 rfl : Cells w7 g _ _).lt; simp; omega) (by intro q hq hb; exact ⟨by simp [Res.apart] <;> omega, by simp [Res.apart, Low.kss] <;> omega, by simp [Res.apart, Low.rd] <;> omega, by simp [Res.apart] <;> omega, trivial⟩) ?_; intro A8 c8 w8 hJ8 hs8; simp only [List.set_cons_zero, List.set_cons_succ] at hJ8))
            have hJ9 : All w8 [.own (g + 1) 37 32 A8 (n + 1) c8 (dvs (upK m l (k + 1))).flatten, .cells g 25 (envC kind Ap np cp (some ad) ns cc), .low (.kss B (some ad) ns l), .low (.rd B 1 Ap np (pay.map bv)), .kept w w.heap.size] := ⟨by rw [HU.out]; exact (hJ8.at_ 0 rfl : Go.Adm.Own w8 _ _ _ _ _ _ _).cast rfl (by simp [dvs]), hJ8.2⟩
            have hnn : n + 1 = (upK m l (k + 1)).length := by rw [HU.out, List.length_append, ← HNE.out]; rfl
            exact ⟨⟨k + 1, n + 1, c8, A8, by omega, hnn, rfl, by go_num, hJ9⟩, by simp [intOf]; omega⟩
          | false =>
            have HU := Lib.hid (HNO.out HVX.out)
            clear HYES HNO HVX HIDC
            go_wp2_with (go_at_call 34; refine hve.mono ?_; clear hve; rintro e w6 ⟨rfl, hb6⟩; have hV6 := hV.call hb6)
            have hJ9 : All w6 [.own (g + 1) 37 32 A n c (dvs (upK m l (k + 1))).flatten, .cells g 25 (envC kind Ap np cp (some ad) ns cc), .low (.kss B (some ad) ns l), .low (.rd B 1 Ap np (pay.map bv)), .kept w w.heap.size] := ⟨by rw [HU.out]; exact hV6.at_ 0 rfl, hV6.2⟩
            exact ⟨⟨k + 1, n, c, A, by omega, by rw [HU.out]; exact HNE.out, rfl, by go_num, hJ9⟩, by simp [intOf]; omega⟩
      · obtain rfl : k = ns := by omega
        have d1 : decide ((k : Int) < (k : Int)) = false := by simp
        go_wp2_with fail
        go_ret
        have hO : Go.Adm.Own wr _ _ _ _ _ _ _ := hI.at_ 0 rfl
        exact ⟨A, n, c, rfl, by rw [HS.out]; exact own_digsE (hI.at_ 0 rfl) upK_32 HNE.out.symm, hO.cap.1, hO.cap.2, (hI.at_ 4 rfl : _ ∧ _).1⟩
end Go.Proofs.Ytfakjamocpamiaa

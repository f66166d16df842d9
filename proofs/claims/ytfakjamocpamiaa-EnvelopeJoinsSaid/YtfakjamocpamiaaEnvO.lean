/- Same of envelopes; light. -/
import Derived.Test.YtfakjamocpamiaaEnvG
set_option linter.unusedSimpArgs false
set_option linter.unusedVariables false
set_option maxRecDepth 100000
namespace Go.Adm
open Go Go.RowKit Go.Proofs.Ytfakjamocpamiaa
theorem shG_facts {s : Sg} (h : shG s = true) : 0 ≤ s.h ∧ s.h ≤ 6 ∧ s.chain.length = 68 ∧ s.path.length ≤ 6 := by
 unfold shG shapedB at h
 simp only [Bool.and_eq_true, decide_eq_true_eq, beq_iff_eq] at h
 obtain ⟨h3, _, _, h4, h5⟩ := h
 have h6 := (hOk_iff _).1 h3
 omega
/-- an envelope is not too large -/
def LightR (R : EnvR) : Prop := R.pay.length ≤ 100000 ∧ R.kind.size ≤ 300 ∧ R.sigs.length ≤ 12 ∧ ∀ s ∈ R.sigs, s.chain.length ≤ 100 ∧ s.path.length ≤ 20
def LitPost (R : EnvR) (w : World) (e : Ending) (w' : World) : Prop := (e = .returned (.bool false) ∨ (e = .returned (.bool true) ∧ LightR R)) ∧ Below w.heap.size w w'
end Go.Adm
namespace Go.Proofs.Ytfakjamocpamiaa
open Go Go.RowKit Go.Adm
theorem ne_pk (w : World) (h : Int) (r : List UInt8) (hr : r.length = 16) (h0 : 0 ≤ h) (h1 : h ≤ 6) : (binOp .neq 62 (.agg (pkCells h r).toArray) (.agg (pkCells h r).toArray)).run Try.prog w = .ok (.bool false) w := by
 have h := eq_pk w h r hr h0 h1
 rw [run_eql_struct] at h
 rw [run_neq_struct]
 revert h
 generalize (Op.equalIn 10000 62 _ _).run Try.prog w = q
 intro h
 cases q with
 | ok b w' =>
  simp only [Result.andThen, Result.ok.injEq, Value.bool.injEq] at h ⊢
  exact ⟨by rw [h.1]; rfl, h.2⟩
 | _ => simp [Result.andThen] at h
set_option maxHeartbeats 6400000 in
theorem SameE_true (w : World) (B : Nat) (R : EnvR) (cs1 cs2 : List Value) (h1 : EnvAt w B R cs1) (h2 : EnvAt w B R cs2) (hs : ∀ s ∈ R.sigs, shG s = true) (hk : R.kind.size ≤ 140737488355328) (hpl : R.pay.length ≤ 140737488355000) (hsl : R.sigs.length ≤ 1000000) (hB : B ≤ w.heap.size) :
  Calls Try.prog 21 #[.agg cs1.toArray, .agg cs2.toArray] w fun e w' => e = .returned (.bool true) ∧ Below w.heap.size w w' := by
 obtain ⟨A1, np, c1, S1, ns, k1, l1, rfl, hpn, hp1, hlm1, hl1, -⟩ := h1
 obtain ⟨A2, np2, c2, S2, ns2, k2, l2, rfl, hpn2, hp2, hlm2, hl2, -⟩ := h2
 obtain ⟨kind, pay, sigs⟩ := R
 dsimp only at *
 obtain rfl : np2 = np := hpn2.symm.trans hpn
 have hll : l1.map Ks.s = l2.map Ks.s := hlm1.symm.trans hlm2
 have hlen : l1.length = l2.length := by have := congrArg List.length hll; rwa [List.length_map, List.length_map] at this
 obtain rfl : ns2 = ns := by rw [← hl1.len, ← hl2.len, hlen]
 subst hlm1
 rw [List.length_map, hl1.len] at hsl
 have HN1 := Lib.hid hl1.len
 have HN2 := Lib.hid hl2.len
 have HLL := Lib.hid hll
 have HSH := Lib.hid hs
 obtain ⟨sp, hsp⟩ : ∃ s : ByteArray, s = ⟨pay.toArray⟩ := ⟨_, rfl⟩
 have HCV1 : Hid (∀ W, All W [.low (.rd B 1 A1 np2 (pay.map bv))] → (convert 22 9 (.slice A1 np2 c1)).run Try.prog W = .ok (.string sp) W) := Lib.hid (fun W hW => by rw [hsp]; exact conv_e (hW.at_ 0 rfl : Rd W B 1 A1 np2 _ ∧ _).1)
 have HCV2 : Hid (∀ W, All W [.low (.rd B 1 A2 np2 (pay.map bv))] → (convert 22 9 (.slice A2 np2 c2)).run Try.prog W = .ok (.string sp) W) := Lib.hid (fun W hW => by rw [hsp]; exact conv_e (hW.at_ 0 rfl : Rd W B 1 A2 np2 _ ∧ _).1)
 have hR : All w [.low (.kss B S1 ns2 l1), .low (.kss B S2 ns2 l2), .kept w w.heap.size, .low (.rd B 1 A1 np2 (pay.map bv)), .low (.rd B 1 A2 np2 (pay.map bv))] := ⟨⟨hl1, hB⟩, ⟨hl2, hB⟩, ⟨Below.refl _ _, Nat.le_refl _⟩, ⟨hp1, hB⟩, ⟨hp2, hB⟩, trivial⟩
 clear hl1 hl2 hp1 hp2 hpn hpn2 hlm2 hll hlen hs hsp
 go_enter Try.func21, Try.ntmps21
 go_upto_region 1 with (fail)
 obtain ⟨g, hg⟩ : ∃ g, g = w.heap.size := ⟨_, rfl⟩
 refine wp_gen ((hR.new (l := envC kind A1 np2 c1 S1 ns2 k1) (g := g) _ 25 hg rfl).new (l := envC kind A2 np2 c2 S2 ns2 k2) (g := g + 1) _ 25 (by simp [hg]) rfl) ?_
 intro W1 hW1
 simp only [← hg]
 clear hR hg
 obtain ⟨p0, p1, p2⟩ := env_cells kind A1 np2 c1 S1 ns2 k1 (hW1.at_ 1 rfl)
 obtain ⟨r0, r1, r2⟩ := env_cells kind A2 np2 c2 S2 ns2 k2 (hW1.at_ 0 rfl)
 have hcv1 := HCV1.out W1 ⟨hW1.at_ 5 rfl, trivial⟩
 have hcv2 := HCV2.out W1 ⟨hW1.at_ 6 rfl, trivial⟩
 have dn : ((ns2 : Int) != (ns2 : Int)) = false := by simp
 go_wp2_with fail
 have hI0 : All W1 [.cells (g + 1) 25 (envC kind A2 np2 c2 S2 ns2 k2), .cells g 25 (envC kind A1 np2 c1 S1 ns2 k1), .low (.kss B S1 ns2 l1), .low (.kss B S2 ns2 l2), .kept w w.heap.size] := ⟨hW1.at_ 0 rfl, hW1.at_ 1 rfl, hW1.at_ 2 rfl, hW1.at_ 3 rfl, hW1.at_ 4 rfl, trivial⟩
 clear hW1 p0 p1 p2 r0 r1 r2 hcv1 hcv2 HCV1 HCV2 dn
 go_loopw [5] (fun i wr => ∃ k : Nat, k ≤ ns2 ∧ i = .int .i64 k ∧ All wr [.cells (g + 1) 25 (envC kind A2 np2 c2 S2 ns2 k2), .cells g 25 (envC kind A1 np2 c1 S1 ns2 k1), .low (.kss B S1 ns2 l1), .low (.kss B S2 ns2 l2), .kept w w.heap.size]) (fun i _ => ns2 - (intOf i).toNat)
 case atStart => exact ⟨0, by omega, rfl, hI0⟩
 case round =>
  clear hI0
  obtain ⟨k, hk2, rfl, hI⟩ := hrel
  have q0 := (env_cells kind A1 np2 c1 S1 ns2 k1 (hI.at_ 1 rfl)).2.2
  by_cases hlt : k < ns2
  ·have d1 : decide ((k : Int) < (ns2 : Int)) = true := by simp; omega
   have hk1 : k < l1.length := by rw [HN1.out]; exact hlt
   have hkk2 : k < l2.length := by rw [HN2.out]; exact hlt
   have hb1 := (hI.at_ 2 rfl : Kss wr B S1 ns2 l1 ∧ B ≤ wr.heap.size)
   have hb2 := (hI.at_ 3 rfl : Kss wr B S2 ns2 l2 ∧ B ≤ wr.heap.size)
   obtain ⟨ad1, rfl, -, -⟩ := Els.elem hb1.1.els hk1
   obtain ⟨ad2, rfl, -, -⟩ := Els.elem hb2.1.els hkk2
   have HX1 : Hid (∀ W, All W [.cells (g + 1) 25 (envC kind A2 np2 c2 (some ad2) ns2 k2), .cells g 25 (envC kind A1 np2 c1 (some ad1) ns2 k1), .low (.kss B (some ad1) ns2 l1), .low (.kss B (some ad2) ns2 l2), .kept w w.heap.size] → ∀ q s, (ksC l1[k])[q]? = some s → W.cell? ((ad1.add (k * 20)).add q) = some s) := Lib.hid (fun W hW => by
    obtain ⟨ad', e, _, hc⟩ := Els.elem (hW.at_ 2 rfl : Kss W B (some ad1) ns2 l1 ∧ B ≤ W.heap.size).1.els hk1
    obtain rfl := Option.some.inj e
    exact hc)
   have HX2 : Hid (∀ W, All W [.cells (g + 1) 25 (envC kind A2 np2 c2 (some ad2) ns2 k2), .cells g 25 (envC kind A1 np2 c1 (some ad1) ns2 k1), .low (.kss B (some ad1) ns2 l1), .low (.kss B (some ad2) ns2 l2), .kept w w.heap.size] → ∀ q s, (ksC l2[k])[q]? = some s → W.cell? ((ad2.add (k * 20)).add q) = some s) := Lib.hid (fun W hW => by
    obtain ⟨ad', e, _, hc⟩ := Els.elem (hW.at_ 3 rfl : Kss W B (some ad2) ns2 l2 ∧ B ≤ W.heap.size).1.els hkk2
    obtain rfl := Option.some.inj e
    exact hc)
   have hr1 := Lib.hid (hb1.1.each _ (List.getElem_mem hk1)).r16
   have hr2 := Lib.hid (hb2.1.each _ (List.getElem_mem hkk2)).r16
   have HB1 : Hid (∀ W, (Kss W B (some ad1) ns2 l1 ∧ B ≤ W.heap.size) → KsOk W B l1[k]) := Lib.hid (fun W hW => hW.1.each _ (List.getElem_mem hk1))
   have HB2 : Hid (∀ W, (Kss W B (some ad2) ns2 l2 ∧ B ≤ W.heap.size) → KsOk W B l2[k]) := Lib.hid (fun W hW => hW.1.each _ (List.getElem_mem hkk2))
   have hss : l1[k].s = l2[k].s := by
    have h3 : (l1.map Ks.s)[k]? = (l2.map Ks.s)[k]? := by rw [HLL.out]
    rw [List.getElem?_map, List.getElem?_map, List.getElem?_eq_getElem hk1, List.getElem?_eq_getElem hkk2] at h3
    exact Option.some.inj h3
   have HSS := Lib.hid hss
   have HSF := Lib.hid (shG_facts (HSH.out l1[k].s (List.mem_map_of_mem (List.getElem_mem hk1))))
   clear hb1 hb2 hss
   generalize l1[k] = x1 at *
   generalize l2[k] = x2 at *
   have HNE : Hid (∀ W, (binOp .neq 62 (.agg (pkCells x1.h x1.r).toArray) (.agg (pkCells x2.h x2.r).toArray)).run Try.prog W = .ok (.bool false) W) := Lib.hid (fun W => by
    rw [← show x1.h = x2.h from congrArg Sg.h HSS.out, ← show x1.r = x2.r from congrArg Sg.r HSS.out]
    exact ne_pk W x1.h x1.r hr1.out HSF.out.1 HSF.out.2.1)
   have HG1 : Hid (∀ W, All W [.cells (g + 1) 25 (envC kind A2 np2 c2 (some ad2) ns2 k2), .cells g 25 (envC kind A1 np2 c1 (some ad1) ns2 k1), .low (.kss B (some ad1) ns2 l1), .low (.kss B (some ad2) ns2 l2), .kept w w.heap.size] → ∀ q s, (sgCells x1.leaf x1.Ac x1.chain.length x1.cc x1.Ap x1.path.length x1.cp)[q]? = some s → W.cell? (((ad1.add (k * 20)).add 17).add q) = some s) := Lib.hid (fun W hW q s h => by rw [add_add]; exact HX1.out W hW _ _ (ks_sg hr1.out q s h))
   have HG2 : Hid (∀ W, All W [.cells (g + 1) 25 (envC kind A2 np2 c2 (some ad2) ns2 k2), .cells g 25 (envC kind A1 np2 c1 (some ad1) ns2 k1), .low (.kss B (some ad1) ns2 l1), .low (.kss B (some ad2) ns2 l2), .kept w w.heap.size] → ∀ q s, (sgCells x2.leaf x2.Ac x2.chain.length x2.cc x2.Ap x2.path.length x2.cp)[q]? = some s → W.cell? (((ad2.add (k * 20)).add 17).add q) = some s) := Lib.hid (fun W hW q s h => by rw [add_add]; exact HX2.out W hW _ _ (ks_sg hr2.out q s h))
   have HSM : Hid (∀ W, All W [.cells (g + 1) 25 (envC kind A2 np2 c2 (some ad2) ns2 k2), .cells g 25 (envC kind A1 np2 c1 (some ad1) ns2 k1), .low (.kss B (some ad1) ns2 l1), .low (.kss B (some ad2) ns2 l2), .kept w w.heap.size] → Calls Try.prog 48 #[.agg (sgCells x1.leaf x1.Ac x1.chain.length x1.cc x1.Ap x1.path.length x1.cp).toArray, .agg (sgCells x2.leaf x2.Ac x2.chain.length x2.cc x2.Ap x2.path.length x2.cp).toArray] W fun e w' => e = .returned (.bool true) ∧ Below W.heap.size W w') := Lib.hid (fun W hW => by
    have o1 := HB1.out W (hW.at_ 2 rfl)
    have o2 := HB2.out W (hW.at_ 3 rfl)
    have h3 : x1.chain.length = 68 := HSF.out.2.2.1
    have h4 : x1.path.length ≤ 6 := HSF.out.2.2.2
    have h5 := refSame_sig W B x1.leaf x2.leaf x1.Ac x2.Ac x1.Ap x2.Ap x1.cc x2.cc x1.cp x2.cp x1.chain x2.chain x1.path x2.path o1.rc o1.c16 o2.rc o2.c16 o1.rp o1.p16 o2.rp o2.p16 (by omega) (by omega) (hW.at_ 2 rfl : _ ∧ B ≤ W.heap.size).2
    rw [decide_eq_true (show x1.leaf = x2.leaf from congrArg Sg.leaf HSS.out), decide_eq_true (show x1.chain = x2.chain from congrArg Sg.chain HSS.out), decide_eq_true (show x1.path = x2.path from congrArg Sg.path HSS.out)] at h5
    exact h5)
   have wk0 : (0 : Int) ≤ (k : Int) := by omega
   have wk1 : (k : Int) < (ns2 : Int) := by omega
   have wk2 : ((k : Int)).toNat = k := by omega
   go_upto_region 6 with (fail)
   refine wp_region_hops 28 [36, 37, 38, 39, 40, 41, 42, 43, 44, 45, 46, 47, 48, 49, 50, 51, 52, 53, 54, 55, 56, 57, 58, 59, 60, 61, 62, 63] _
    [.eq (.pointer (some ⟨g, 2, none⟩)), .eq (.slice (some ad1) ns2 k1), .eq (.int .i64 k), .eq (.pointer (some (ad1.add (k * 20)))), .eq (.pointer (some (ad1.add (k * 20)))), .eq (.agg (pkCells x1.h x1.r).toArray), .eq (.pointer (some ⟨g + 1, 2, none⟩)), .eq (.slice (some ad2) ns2 k2), .eq (.int .i64 k), .eq (.pointer (some (ad2.add (k * 20)))), .eq (.pointer (some (ad2.add (k * 20)))), .eq (.agg (pkCells x2.h x2.r).toArray), .eq (.bool false), .eq (.bool false), .eq (.pointer (some ⟨g, 2, none⟩)), .eq (.slice (some ad1) ns2 k1), .eq (.int .i64 k), .eq (.pointer (some (ad1.add (k * 20)))), .eq (.pointer (some ((ad1.add (k * 20)).add 17))), .eq (.agg (sgCells x1.leaf x1.Ac x1.chain.length x1.cc x1.Ap x1.path.length x1.cp).toArray), .eq (.pointer (some ⟨g + 1, 2, none⟩)), .eq (.slice (some ad2) ns2 k2), .eq (.int .i64 k), .eq (.pointer (some (ad2.add (k * 20)))), .eq (.pointer (some ((ad2.add (k * 20)).add 17))), .eq (.agg (sgCells x2.leaf x2.Ac x2.chain.length x2.cc x2.Ap x2.path.length x2.cp).toArray), .eq (.bool true), .eq (.bool false)]
    (by kernel_rfl) (by kernel_rfl) hI rfl ?hops ?fin
   case hops =>
    refine ⟨?_, ?_, ?_, ?_, ?_, ?_, ?_, ?_, ?_, ?_, ?_, ?_, ?_, ?_, ?_, ?_, ?_, ?_, ?_, ?_, ?_, ?_, ?_, ?_, ?_, ?_, ?_, ?_, trivial⟩
    ·intro a W hW hb hd K hK
     have b2 := hb 2 rfl
     go_simp
     exact hK _ _ (World.grownBy.refl _ _) rfl
    ·intro a W hW hb hd K hK
     have b36 : a.tmps[36]?.getD undef = _ := hd ⟨0, .data⟩ (by simp) rfl
     have q1 := (env_cells kind A1 np2 c1 (some ad1) ns2 k1 (hW.at_ 1 rfl)).2.2
     go_simp
     exact hK _ _ (World.grownBy.refl _ _) rfl
    ·intro a W hW hb hd K hK
     have b5 := hb 5 rfl
     go_simp
     exact hK _ _ (World.grownBy.refl _ _) rfl
    ·intro a W hW hb hd K hK
     have b37 : a.tmps[37]?.getD undef = _ := hd ⟨1, .data⟩ (by simp) rfl
     have b38 : a.tmps[38]?.getD undef = _ := hd ⟨2, .data⟩ (by simp) rfl
     go_simp
     exact hK _ _ (World.grownBy.refl _ _) rfl
    ·intro a W hW hb hd K hK
     have b39 : a.tmps[39]?.getD undef = _ := hd ⟨3, .data⟩ (by simp) rfl
     go_simp
     exact hK _ _ (World.grownBy.refl _ _) (by first | rfl | (rw [add_zero]; rfl) | (simp [add_zero]; rfl))
    ·intro a W hW hb hd K hK
     have b40 : a.tmps[40]?.getD undef = _ := hd ⟨4, .data⟩ (by simp) rfl
     refine wp_load_any 62 (.tmp 40) rfl (ad1.add (k * 20)) (show a.eval (.tmp 40) = _ from by simp only [Act.eval, Array.getD_eq_getD_getElem?]; exact b40) (pkCells x1.h x1.r) _ (fun q s hs => HX1.out W hW q s (by have := ks_pk x1 q s hs; rwa [Nat.zero_add] at this)) Try.underlying62 rfl (by rw [pkLen hr1.out]; kernel_rfl) ?_
     exact hK _ _ (World.grownBy.refl _ _) rfl
    ·intro a W hW hb hd K hK
     have b3 := hb 3 rfl
     go_simp
     exact hK _ _ (World.grownBy.refl _ _) rfl
    ·intro a W hW hb hd K hK
     have b42 : a.tmps[42]?.getD undef = _ := hd ⟨6, .data⟩ (by simp) rfl
     have q2 := (env_cells kind A2 np2 c2 (some ad2) ns2 k2 (hW.at_ 0 rfl)).2.2
     go_simp
     exact hK _ _ (World.grownBy.refl _ _) rfl
    ·intro a W hW hb hd K hK
     have b5 := hb 5 rfl
     go_simp
     exact hK _ _ (World.grownBy.refl _ _) rfl
    ·intro a W hW hb hd K hK
     have b43 : a.tmps[43]?.getD undef = _ := hd ⟨7, .data⟩ (by simp) rfl
     have b44 : a.tmps[44]?.getD undef = _ := hd ⟨8, .data⟩ (by simp) rfl
     go_simp
     exact hK _ _ (World.grownBy.refl _ _) rfl
    ·intro a W hW hb hd K hK
     have b45 : a.tmps[45]?.getD undef = _ := hd ⟨9, .data⟩ (by simp) rfl
     go_simp
     exact hK _ _ (World.grownBy.refl _ _) (by first | rfl | (rw [add_zero]; rfl) | (simp [add_zero]; rfl))
    ·intro a W hW hb hd K hK
     have b46 : a.tmps[46]?.getD undef = _ := hd ⟨10, .data⟩ (by simp) rfl
     refine wp_load_any 62 (.tmp 46) rfl (ad2.add (k * 20)) (show a.eval (.tmp 46) = _ from by simp only [Act.eval, Array.getD_eq_getD_getElem?]; exact b46) (pkCells x2.h x2.r) _ (fun q s hs => HX2.out W hW q s (by have := ks_pk x2 q s hs; rwa [Nat.zero_add] at this)) Try.underlying62 rfl (by rw [pkLen hr2.out]; kernel_rfl) ?_
     exact hK _ _ (World.grownBy.refl _ _) rfl
    ·intro a W hW hb hd K hK
     have b41 : a.tmps[41]?.getD undef = _ := hd ⟨5, .data⟩ (by simp) rfl
     have b47 : a.tmps[47]?.getD undef = _ := hd ⟨11, .data⟩ (by simp) rfl
     have hne := HNE.out
     go_simp
     exact hK _ _ (World.grownBy.refl _ _) rfl
    ·intro a W hW hb hd K hK
     have b48 : a.tmps[48]?.getD undef = _ := hd ⟨12, .data⟩ (by simp) rfl
     go_simp
     exact hK _ _ (World.grownBy.refl _ _) rfl
    ·refine Or.inl ⟨fun v w h => h, ?_⟩
     intro a W hW hb hd K hK
     have b2 := hb 2 rfl
     go_simp
     exact hK _ _ (World.grownBy.refl _ _) rfl
    ·refine Or.inl ⟨fun v w h => h, ?_⟩
     intro a W hW hb hd K hK
     have b50 : a.tmps[50]?.getD undef = _ := hd ⟨14, .data⟩ (by simp) rfl
     have q1 := (env_cells kind A1 np2 c1 (some ad1) ns2 k1 (hW.at_ 1 rfl)).2.2
     go_simp
     exact hK _ _ (World.grownBy.refl _ _) rfl
    ·refine Or.inl ⟨fun v w h => h, ?_⟩
     intro a W hW hb hd K hK
     have b5 := hb 5 rfl
     go_simp
     exact hK _ _ (World.grownBy.refl _ _) rfl
    ·refine Or.inl ⟨fun v w h => h, ?_⟩
     intro a W hW hb hd K hK
     have b51 : a.tmps[51]?.getD undef = _ := hd ⟨15, .data⟩ (by simp) rfl
     have b52 : a.tmps[52]?.getD undef = _ := hd ⟨16, .data⟩ (by simp) rfl
     go_simp
     exact hK _ _ (World.grownBy.refl _ _) rfl
    ·refine Or.inl ⟨fun v w h => h, ?_⟩
     intro a W hW hb hd K hK
     have b53 : a.tmps[53]?.getD undef = _ := hd ⟨17, .data⟩ (by simp) rfl
     go_simp
     exact hK _ _ (World.grownBy.refl _ _) rfl
    ·refine Or.inl ⟨fun v w h => h, ?_⟩
     intro a W hW hb hd K hK
     have b54 : a.tmps[54]?.getD undef = _ := hd ⟨18, .data⟩ (by simp) rfl
     refine wp_load_any 60 (.tmp 54) rfl ((ad1.add (k * 20)).add 17) (show a.eval (.tmp 54) = _ from by simp only [Act.eval, Array.getD_eq_getD_getElem?]; exact b54) (sgCells x1.leaf x1.Ac x1.chain.length x1.cc x1.Ap x1.path.length x1.cp) _ (fun q s hs => HG1.out W hW q s hs) Try.underlying60 rfl (by kernel_rfl) ?_
     exact hK _ _ (World.grownBy.refl _ _) rfl
    ·refine Or.inl ⟨fun v w h => h, ?_⟩
     intro a W hW hb hd K hK
     have b3 := hb 3 rfl
     go_simp
     exact hK _ _ (World.grownBy.refl _ _) rfl
    ·refine Or.inl ⟨fun v w h => h, ?_⟩
     intro a W hW hb hd K hK
     have b56 : a.tmps[56]?.getD undef = _ := hd ⟨20, .data⟩ (by simp) rfl
     have q2 := (env_cells kind A2 np2 c2 (some ad2) ns2 k2 (hW.at_ 0 rfl)).2.2
     go_simp
     exact hK _ _ (World.grownBy.refl _ _) rfl
    ·refine Or.inl ⟨fun v w h => h, ?_⟩
     intro a W hW hb hd K hK
     have b5 := hb 5 rfl
     go_simp
     exact hK _ _ (World.grownBy.refl _ _) rfl
    ·refine Or.inl ⟨fun v w h => h, ?_⟩
     intro a W hW hb hd K hK
     have b57 : a.tmps[57]?.getD undef = _ := hd ⟨21, .data⟩ (by simp) rfl
     have b58 : a.tmps[58]?.getD undef = _ := hd ⟨22, .data⟩ (by simp) rfl
     go_simp
     exact hK _ _ (World.grownBy.refl _ _) rfl
    ·refine Or.inl ⟨fun v w h => h, ?_⟩
     intro a W hW hb hd K hK
     have b59 : a.tmps[59]?.getD undef = _ := hd ⟨23, .data⟩ (by simp) rfl
     go_simp
     exact hK _ _ (World.grownBy.refl _ _) rfl
    ·refine Or.inl ⟨fun v w h => h, ?_⟩
     intro a W hW hb hd K hK
     have b60 : a.tmps[60]?.getD undef = _ := hd ⟨24, .data⟩ (by simp) rfl
     refine wp_load_any 60 (.tmp 60) rfl ((ad2.add (k * 20)).add 17) (show a.eval (.tmp 60) = _ from by simp only [Act.eval, Array.getD_eq_getD_getElem?]; exact b60) (sgCells x2.leaf x2.Ac x2.chain.length x2.cc x2.Ap x2.path.length x2.cp) _ (fun q s hs => HG2.out W hW q s hs) Try.underlying60 rfl (by kernel_rfl) ?_
     exact hK _ _ (World.grownBy.refl _ _) rfl
    ·refine Or.inl ⟨fun v w h => h, ?_⟩
     intro a W hW hb hd K hK
     have b55 : a.tmps[55]?.getD undef = _ := hd ⟨19, .data⟩ (by simp) rfl
     have b61 : a.tmps[61]?.getD undef = _ := hd ⟨25, .data⟩ (by simp) rfl
     have hsm := HSM.out W hW
     go_simp
     refine (hsm).mono ?_
     rintro e w' ⟨rfl, hb'⟩
     exact hK _ _ (grown_of_below hb') rfl
    ·refine Or.inl ⟨fun v w h => h, ?_⟩
     intro a W hW hb hd K hK
     have b62 : a.tmps[62]?.getD undef = _ := hd ⟨26, .data⟩ (by simp) rfl
     go_simp
     exact hK _ _ (World.grownBy.refl _ _) rfl
   case fin =>
    intro vs V hV hv
    have e13 : vs 13 = _ := hv 13 (by decide)
    have e27 : vs 27 = _ := hv 27 (by decide)
    clear hv hI
    simp only [putAll, List.drop_succ_cons, List.drop_zero, e13, e27, Act.put, List.setIfInBounds_toArray, List.set_cons_succ, List.set_cons_zero]
    clear e13 e27
    go_wp2_with fail
    exact ⟨⟨k + 1, by omega, by go_num, hV⟩, by simp [intOf]; omega⟩
  ·obtain rfl : k = ns2 := by omega
   have d1 : decide ((k : Int) < (k : Int)) = false := by simp
   go_wp2_with fail
   go_ret
   exact ⟨rfl, (hI.at_ 4 rfl : _ ∧ _).1⟩
end Go.Proofs.Ytfakjamocpamiaa

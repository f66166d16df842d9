/- Who has signed an envelope: the reference. -/
import Derived.Test.YtfakjamocpamiaaEnvH
set_option linter.unusedSimpArgs false
set_option linter.unusedVariables false
set_option maxRecDepth 100000
namespace Go.Proofs.Ytfakjamocpamiaa
open Go Go.RowKit Go.Adm
set_option maxHeartbeats 3200000 in
theorem refVerifies_any (w : World) (B : Nat) (kind : ByteArray) (Ap : Option Addr) (np cp : Nat) (As : Option Addr) (ns cc : Nat) (pay : List UInt8) (x : Ks) (hp : Rd w B 1 Ap np (pay.map bv)) (hx : KsOk w B x) (hk : kind.size ≤ 140737488355328) (hnp : np ≤ 140737488355000) (hB : B ≤ w.heap.size) :
  Calls Try.prog 34 #[.agg (envC kind Ap np cp As ns cc).toArray, .agg (ksC x).toArray] w fun e w' => e = .returned (.bool (verG (msgS kind pay) x.s)) ∧ Below w.heap.size w w' := by
 have hR : All w [.low (.rd B 1 Ap np (pay.map bv)), .low (.els B 16 x.Ac x.chain.length (hvs x.chain)), .low (.els B 16 x.Ap x.path.length (hvs x.path)), .kept w w.heap.size] := ⟨⟨hp, hB⟩, ⟨hx.rc, hB⟩, ⟨hx.rp, hB⟩, ⟨Below.refl _ _, Nat.le_refl _⟩, trivial⟩
 have HR := Lib.hid hx.r16
 have HC := Lib.hid hx.c16
 have HP := Lib.hid hx.p16
 obtain ⟨m, hm⟩ : ∃ m, msgS kind pay = m := ⟨_, rfl⟩
 have HM := Lib.hid hm
 have HML : Hid (m.length = 32) := Lib.hid (by rw [← hm]; exact msgS_len _ _)
 clear hx hp hm
 go_enter Try.func34, Try.ntmps34
 go_upto_region 1 with (fail)
 obtain ⟨g, hg⟩ : ∃ g, g = w.heap.size := ⟨_, rfl⟩
 refine wp_gen ((hR.new (l := envC kind Ap np cp As ns cc) (g := g) _ 25 hg rfl).new (l := ksC x) (g := g + 1) _ 64 (by simp [hg]) rfl) ?_
 intro W1 hW1
 simp only [← hg]
 clear hR hg
 refine wp_region_hops 9 [5, 6, 7, 8, 9, 10, 11, 12, 13] _
  [.eq (.pointer (some ⟨g + 1, 0, none⟩)), .eq (.agg (pkCells x.h x.r).toArray), .eq (.pointer (some ⟨g, 0, none⟩)), .eq (.string kind), .eq (.pointer (some ⟨g, 1, none⟩)), .eq (.slice Ap np cp), .eq (.agg (m.map bv).toArray), .eq (.pointer (some ⟨g + 1, 17, none⟩)), .eq (.agg (sgCells x.leaf x.Ac x.chain.length x.cc x.Ap x.path.length x.cp).toArray)]
  (by kernel_rfl) (by kernel_rfl) hW1 rfl ?hops ?fin
 case hops =>
  refine ⟨?_, ?_, ?_, ?_, ?_, ?_, ?_, ?_, ?_, trivial⟩
  ·intro a W hW hb hd K hK
   have b3 := hb 3 rfl
   go_simp
   exact hK _ _ (World.grownBy.refl _ _) rfl
  ·intro a W hW hb hd K hK
   have b5 : a.tmps[5]?.getD undef = _ := hd ⟨0, .data⟩ (by simp) rfl
   refine wp_load_any 62 (.tmp 5) rfl ⟨g + 1, 0, none⟩ (show a.eval (.tmp 5) = _ from by simp only [Act.eval, Array.getD_eq_getD_getElem?]; exact b5) (pkCells x.h x.r) _ (Cells.sub (hW.at_ 0 rfl) 0 (ks_pk x)) Try.underlying62 rfl (by rw [pkLen HR.out]; kernel_rfl) ?_
   exact hK _ _ (World.grownBy.refl _ _) rfl
  ·intro a W hW hb hd K hK
   have b2 := hb 2 rfl
   go_simp
   exact hK _ _ (World.grownBy.refl _ _) rfl
  ·intro a W hW hb hd K hK
   have b7 : a.tmps[7]?.getD undef = _ := hd ⟨2, .data⟩ (by simp) rfl
   have q1 := (env_cells kind Ap np cp As ns cc (hW.at_ 1 rfl)).1
   go_simp
   exact hK _ _ (World.grownBy.refl _ _) rfl
  ·intro a W hW hb hd K hK
   have b2 := hb 2 rfl
   go_simp
   exact hK _ _ (World.grownBy.refl _ _) rfl
  ·intro a W hW hb hd K hK
   have b9 : a.tmps[9]?.getD undef = _ := hd ⟨4, .data⟩ (by simp) rfl
   have q1 := (env_cells kind Ap np cp As ns cc (hW.at_ 1 rfl)).2.1
   go_simp
   exact hK _ _ (World.grownBy.refl _ _) rfl
  ·intro a W hW hb hd K hK
   have b8 : a.tmps[8]?.getD undef = _ := hd ⟨3, .data⟩ (by simp) rfl
   have b10 : a.tmps[10]?.getD undef = _ := hd ⟨5, .data⟩ (by simp) rfl
   have hme := refMessage_any W B kind Ap np cp pay (hW.at_ 2 rfl : Rd W B 1 Ap np _ ∧ _).1 hk (by omega) (hW.at_ 2 rfl : _ ∧ B ≤ W.heap.size).2
   rw [HM.out] at hme
   go_simp
   refine (hme).mono ?_
   rintro e w' ⟨rfl, hb'⟩
   exact hK _ _ (grown_of_below hb') rfl
  ·intro a W hW hb hd K hK
   have b3 := hb 3 rfl
   go_simp
   exact hK _ _ (World.grownBy.refl _ _) rfl
  ·intro a W hW hb hd K hK
   have b12 : a.tmps[12]?.getD undef = _ := hd ⟨7, .data⟩ (by simp) rfl
   refine wp_load_any 60 (.tmp 12) rfl ⟨g + 1, 17, none⟩ (show a.eval (.tmp 12) = _ from by simp only [Act.eval, Array.getD_eq_getD_getElem?]; exact b12) (sgCells x.leaf x.Ac x.chain.length x.cc x.Ap x.path.length x.cp) _ (Cells.sub (hW.at_ 0 rfl) 17 (ks_sg HR.out)) Try.underlying60 rfl (by kernel_rfl) ?_
   exact hK _ _ (World.grownBy.refl _ _) rfl
 case fin =>
  intro vs V hV hv
  have e1 : vs 1 = _ := hv 1 (by decide)
  have e6 : vs 6 = _ := hv 6 (by decide)
  have e8 : vs 8 = _ := hv 8 (by decide)
  clear hv hW1
  simp only [putAll, List.drop_succ_cons, List.drop_zero, e1, e6, e8, Act.put, List.setIfInBounds_toArray, List.set_cons_succ, List.set_cons_zero]
  clear e1 e6 e8
  have hve := refVerify_any V B x.h x.leaf x.r m x.chain x.path x.Ac x.cc x.Ap x.cp HR.out HML.out (hV.at_ 3 rfl : Els V B 16 _ _ _ ∧ _).1 HC.out (hV.at_ 4 rfl : Els V B 16 _ _ _ ∧ _).1 HP.out (hV.at_ 3 rfl : _ ∧ B ≤ V.heap.size).2
  go_wp2_with (go_at_call 58; refine hve.mono ?_; clear hve; rintro e w3 ⟨rfl, hb3⟩; have hV3 := hV.call hb3)
  go_ret
  exact ⟨by rw [HM.out]; rfl, (hV3.at_ 5 rfl : _ ∧ _).1⟩

end Go.Proofs.Ytfakjamocpamiaa

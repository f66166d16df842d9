/- store.Closure. -/
import Derived.Test.YtkcmaembpfakdaaGreatDoorCloA
set_option linter.unusedSimpArgs false
set_option linter.unusedVariables false
set_option maxRecDepth 100000
namespace Go.Adm
open Go Go.RowKit
def CloRet (l : List Bl) (roots : List (List UInt8)) (w : World) (e : Ending) (w' : World) : Prop :=
  ∃ A1 c1 A2 c2 P M, e = .returned (.tuple #[.slice A1 P.length c1, .slice A2 M.length c2]) ∧ CloPost l roots P M ∧ Digs w' w'.heap.size A1 P.length P ∧ Digs w' w'.heap.size A2 M.length M ∧ Below w.heap.size w w'
end Go.Adm
namespace Go.Proofs.YtkcmaembpfakdaaGreatDoor
open Go Go.RowKit Go.Adm
set_option maxHeartbeats 25600000 in
theorem Closure_any (w : World) (B : Nat) (A : Option Addr) (n c : Nat) (l : List Bl) (hl : Blobs w B A n l) (Ar : Option Addr) (nr cr : Nat) (roots : List (List UInt8)) (hr : Digs w B Ar nr roots) (hn : n ≤ 1000) (hnr : nr ≤ 1000) (hB : B ≤ w.heap.size) :
    Calls Tryz.prog 9 #[.slice A n c, .slice Ar nr cr] w (CloRet l roots w) := by
  have hR : All w [.low (.blobs B A n l), .low (.digs B Ar nr roots), .kept w w.heap.size] := ⟨⟨hl, hB⟩, ⟨hr, hB⟩, ⟨Below.refl _ _, Nat.le_refl _⟩, trivial⟩
  have HLL := Lib.hid hl.len
  have HRL := Lib.hid hr.len
  have HR32 := Lib.hid hr.each
  have HB32 : Hid (∀ x ∈ l, x.d.length = 32) := Lib.hid (fun x hx => (hl.each x hx).d32)
  obtain ⟨T0, hT0⟩ : ∃ T, T = roots.length + costS (lkG l) [z32] (l.map Bl.d) := ⟨_, rfl⟩
  have hT : T0 ≤ 120001000 := by
    have h1 := costS_le (lkG l) [z32] 120000 (fun d ls h => lkG_len h) (l.map Bl.d)
    rw [List.length_map] at h1
    have h2 := HLL.out
    have h3 := HRL.out
    have h4 : 120000 * l.length ≤ 120000 * 1000 := Nat.mul_le_mul_left _ (by omega)
    omega
  have HT := Lib.hid hT0
  clear hl hr hT0
  have hzr := zero_dg
  obtain ⟨gm, hgm⟩ : ∃ g, g = w.heap.size := ⟨_, rfl⟩
  go_enter Tryz.func9, Tryz.ntmps9
  go_upto_region 2 with (first
    | (refine wl_newset hR rfl rfl ?_; intro w2 hI2)
    | (refine wl_put hI2 0 rfl (.tmp 11) (.tmp 12) (.const (.bool true)) (.inr rfl) w.heap.size 0 [] rfl z32 rfl rfl rfl rfl (by decide) ⟨fun g e => by injection e with e; show B ≤ g; omega, fun g e => by injection e with e; show B ≤ g; omega, fun g e => by injection e with e; omega, trivial⟩ ?_; intro w3 hI3 hs3; simp only [List.set_cons_zero, Nat.zero_add] at hI3))
  rw [← hgm] at hI3
  simp only [← hgm]
  have HGM := Lib.hid hgm
  have hBg : B ≤ gm := by omega
  clear hgm
  have hgw : gm < w3.heap.size := SetIs.lt (setM_get (hI3.at_ 0 rfl))
  have hcl := CloneD_any w3 B Ar nr cr roots (hI3.at_ 2 rfl : Digs w3 B Ar nr roots ∧ _).1 (by omega) (hI3.at_ 2 rfl : _ ∧ B ≤ w3.heap.size).2
  clear hR hI2 hs3
  go_upto_region 3 with (go_at_call 26; refine hcl.mono ?_; clear hcl; rintro e w4 ⟨Aw, cw, rfl, hb4, hO4⟩)
  have hI : All w4 [.own gm 32 32 none 0 0 (dvs []).flatten, .own gm 32 32 none 0 0 (dvs []).flatten, .own gm 32 32 Aw roots.length cw (dvs roots).flatten, setM gm 1 [z32], .low (.blobs B A n l), .kept w gm] := ⟨Go.Adm.Own.nil _ _ _ _, Go.Adm.Own.nil _ _ _ _, (hO4.less (Nat.le_of_lt hgw)).cast HRL.out.symm rfl, ((hI3.call hb4).erase 2)⟩
  have e0 := HRL.out
  subst e0
  clear hI3 hb4 hO4 hgw
  go_loopw [4, 5, 7] (fun vp vm vw wr => ∃ (P M W S : List (List UInt8)) (Ap Am Aw : Option Addr) (cp cm cw nS : Nat), vp = .slice Ap P.length cp ∧ vm = .slice Am M.length cm ∧ vw = .slice Aw W.length cw ∧ CloI z32 (lkG l) roots P M W S ∧ Hid (∀ d ∈ P, d.length = 32) ∧ Hid (∀ d ∈ M, d.length = 32) ∧ Hid (∀ d ∈ W, d.length = 32) ∧ P.length ≤ nS ∧ M.length ≤ nS ∧ W.length + costS (lkG l) S (l.map Bl.d) + nS ≤ T0 + 1 ∧ Hid (Dist (.slice Ap P.length cp) (.slice Am M.length cm)) ∧ Hid (Dist (.slice Ap P.length cp) (.slice Aw W.length cw)) ∧ Hid (Dist (.slice Am M.length cm) (.slice Aw W.length cw)) ∧ All wr [.own gm 32 32 Ap P.length cp (dvs P).flatten, .own gm 32 32 Am M.length cm (dvs M).flatten, .own gm 32 32 Aw W.length cw (dvs W).flatten, setM gm nS S, .low (.blobs B A n l), .kept w gm]) (fun _ _ vw wr => lenS vw + costW wr gm l)
  case atStart => exact ⟨[], [], roots, [z32], none, none, Aw, 0, 0, cw, 1, rfl, rfl, rfl, CloI.start, Lib.hid (fun d h => by cases h), Lib.hid (fun d h => by cases h), HR32, Nat.zero_le _, Nat.zero_le _, by rw [HT.out]; exact Nat.le_refl _, Lib.hid Dist.none, Lib.hid Dist.none, Lib.hid Dist.none, hI⟩
  case round =>
    clear hI
    obtain ⟨P, M, W, S, Ap, Am, Aw, cp, cm, cw, nS, rfl, rfl, rfl, hC, HP, HM, HW, hpn, hmn, hcost, D1, D2, D3, hI⟩ := hrel
    rcases List.eq_nil_or_concat W with rfl | ⟨W', d, rfl⟩
    · have d0 : decide ((0 : Int) < (([] : List (List UInt8)).length : Int)) = false := by simp
      have hdone := hC.done
      have hnd := hC.ndP
      have hndM := hC.ndM
      have HOK := Lib.hid hdone
      have HND := Lib.hid hnd
      have HNM := Lib.hid hndM
      clear hC hdone hnd hndM
      have hsp := SortDs_any wr gm Ap cp P HP.out (hI.at_ 0 rfl) (by omega) (by have := SetIs.lt (setM_get (hI.at_ 3 rfl)); omega)
      go_upto_region 14 with (go_at_call 29; refine hsp.mono ?_; clear hsp; rintro e w5 ⟨rfl, P', hpp, hps, hO5, hg5⟩)
      have hI5 : All w5 [.own gm 32 32 Ap P.length cp (dvs P').flatten, .own gm 32 32 Am M.length cm (dvs M).flatten, .kept w gm] := by
        have h4 : All wr [.own gm 32 32 Ap P.length cp (dvs P).flatten, .own gm 32 32 Am M.length cm (dvs M).flatten, .kept w gm] := ⟨hI.1, hI.2.1, hI.at_ 5 rfl, trivial⟩
        refine All.upd hg5 0 _ h4 hO5 ?_
        cases hq : (Value.slice Ap P.length cp).ownBlock with
        | none => exact Apart.none _
        | some g => exact ⟨fun g' e => .inr (by injection e with e; subst e; exact D1.out g hq), fun g' e => (by injection e with e; have := ((hI.at_ 0 rfl : Go.Adm.Own _ _ _ _ _ _ _ _).lt hq).1; omega), trivial⟩
      have hsm := SortDs_any w5 gm Am cm M HM.out (hI5.at_ 1 rfl) (by omega) (by have := (hI5.at_ 2 rfl : _ ∧ gm ≤ w5.heap.size).2; omega)
      clear hI hg5 hO5
      go_upto_region 15 with (go_at_call 29; refine hsm.mono ?_; clear hsm; rintro e w6 ⟨rfl, M', hmp, hms, hO6, hg6⟩)
      have hI6 : All w6 [.own gm 32 32 Ap P.length cp (dvs P').flatten, .own gm 32 32 Am M.length cm (dvs M').flatten, .kept w gm] := by
        refine All.upd hg6 1 _ hI5 hO6 ?_
        cases hq : (Value.slice Am M.length cm).ownBlock with
        | none => exact Apart.none _
        | some g => exact ⟨fun g' e => .inr (by injection e with e; subst e; exact D1.out.symm g hq), fun g' e => (by injection e with e; have := ((hI5.at_ 1 rfl : Go.Adm.Own _ _ _ _ _ _ _ _).lt hq).1; omega), trivial⟩
      clear hI5 hg6 hO6
      go_wp2_with fail
      go_ret2
      have h1 := hpp.length_eq
      have h2 := hmp.length_eq
      have hp32 : ∀ d ∈ P', d.length = 32 := fun d hd => HP.out d (hpp.subset hd)
      have hm32 : ∀ d ∈ M', d.length = 32 := fun d hd => HM.out d (hmp.subset hd)
      refine ⟨Ap, cp, Am, cm, P', M', by rw [h1, h2]; rfl, ⟨HOK.out.perm hpp hmp, hp32, hm32, lessD_strict hps ((hpp.nodup_iff).2 HND.out), lessD_strict hms ((hmp.nodup_iff).2 HNM.out), by omega, by omega⟩, digs_own ((hI6.at_ 0 rfl : Go.Adm.Own _ _ _ _ _ _ _ _).cast h1.symm rfl) hp32, digs_own ((hI6.at_ 1 rfl : Go.Adm.Own _ _ _ _ _ _ _ _).cast h2.symm rfl) hm32, by rw [← HGM.out]; exact (hI6.at_ 2 rfl : _ ∧ _).1⟩
    · have hd32 := HW.out d (by simp)
      have HD := Lib.hid hd32
      have hwl : (W'.concat d).length = W'.length + 1 := by simp
      rw [List.concat_eq_append] at *
      obtain ⟨k, hk⟩ : ∃ k, k = W'.length := ⟨_, rfl⟩
      rw [List.length_append, List.length_singleton, ← hk] at hI hcost D2 D3 ⊢
      have d0 : decide ((0 : Int) < ((k + 1 : Nat) : Int)) = true := decide_eq_true (by omega)
      have wk0 : IntKind.i64.wrap (((k + 1 : Nat) : Int) - 1) = (k : Int) := by rw [IntWalk.i64_in _ (by omega)] <;> omega
      have wk1 : (0 : Int) ≤ (k : Int) := by omega
      have wk2 : (k : Int) < ((k + 1 : Nat) : Int) := by omega
      have wk3 : (k : Int) ≤ ((k + 1 : Nat) : Int) := by omega
      have wk4 : ((k : Int)).toNat = k := by omega
      have hdg : Digs wr wr.heap.size Aw (k + 1) (W' ++ [d]) := by
        have := digs_own (c := cw) (xs := W' ++ [d]) ((hI.at_ 2 rfl : Go.Adm.Own _ _ _ _ _ _ _ _).cast (by rw [List.length_append, List.length_singleton, hk]) rfl) HW.out
        rwa [List.length_append, List.length_singleton, ← hk] at this
      obtain ⟨ad, rfl, hadB, hc⟩ := hdg.elem (k := k) (by rw [List.length_append, List.length_singleton, hk]; omega)
      have HC : Hid (∀ j u, (d.map bv)[j]? = some u → wr.cell? ((ad.add (k * 32)).add j) = some u) := Lib.hid (by
        have e : (W' ++ [d])[k]'(by rw [List.length_append, List.length_singleton, hk]; omega) = d := by subst hk; simp
        rw [e] at hc; exact hc)
      have hcap := (hI.at_ 2 rfl : Go.Adm.Own _ _ _ _ _ _ _ _).cap
      have hcut : Go.Adm.Own wr gm 32 32 (some ad) k cw (dvs W').flatten := by
        have h1 := Own.cut (hI.at_ 2 rfl : Go.Adm.Own _ _ _ _ _ _ _ _) (m := k) (by omega)
        have h2 := dvs_cut W' d (fun x hx => HW.out x (by simp [hx]))
        rw [← hk] at h2
        rwa [h2] at h1
      have hI1 : All wr [.own gm 32 32 Ap P.length cp (dvs P).flatten, .own gm 32 32 Am M.length cm (dvs M).flatten, .own gm 32 32 (some ad) k cw (dvs W').flatten, setM gm nS S, .low (.blobs B A n l), .kept w gm] := ⟨hI.1, hI.2.1, hcut, hI.2.2.2⟩
      have D2' : Hid (Dist (.slice Ap P.length cp) (.slice (some ad) k cw)) := Lib.hid (fun g h1 h2 => D2.out g h1 h2)
      have D3' : Hid (Dist (.slice Am M.length cm) (.slice (some ad) k cw)) := Lib.hid (fun g h1 h2 => D3.out g h1 h2)
      have HMS : Hid (costW wr gm l = costS (lkG l) S (l.map Bl.d)) := Lib.hid (costW_eq (setM_get (hI.at_ 3 rfl)) l HB32.out)
      have HW' : Hid (∀ x ∈ W', x.length = 32) := Lib.hid (fun x hx => HW.out x (by simp [hx]))
      have HK := Lib.hid hk
      clear hdg hc hcut hI D2 D3 HW hd32 hk
      have HLT : Hid (k + 1 + costS (lkG l) S (l.map Bl.d) + nS ≤ T0 + 1) := Lib.hid hcost
      have hk120 : k ≤ 120001000 := by omega
      have hn120 : nS ≤ 120001001 := by omega
      clear hcost
      go_upto_region 6 with (first
        | (refine wl_load_any rfl 32 (.tmp 23) rfl (ad.add (k * 32)) rfl (d.map bv) _ HC.out Tryz.underlying32 rfl (by rw [List.length_map, HD.out]; kernel_rfl) ?_)
        | (refine wl_store_at (hI1.new (l := z32.map bv) _ 32 rfl rfl) 0 rfl 32 (.tmp 8) (.tmp 24) rfl wr.heap.size _ _ (d.map bv) rfl rfl rfl (by rw [List.length_map, HD.out]; rfl) (by rw [List.length_map, HD.out]; kernel_rfl) (bv_one _) ⟨fun g e => .inr (by injection e with e; subst e; exact Own.ne (hI1.at_ 0 rfl)), fun g e => .inr (by injection e with e; subst e; exact Own.ne (hI1.at_ 1 rfl)), fun g e => .inr (by injection e with e; subst e; exact Own.ne (hI1.at_ 2 rfl)), setM_apart (by have := SetIs.lt (setM_get (hI1.at_ 3 rfl)); omega), fun g e => (by have := (hI1.at_ 4 rfl : _ ∧ B ≤ wr.heap.size).2; injection e with e; subst e; exact this), fun g e => (by have := (hI1.at_ 5 rfl : _ ∧ gm ≤ wr.heap.size).2; injection e with e; subst e; exact this), trivial⟩ ?_; intro W5 hI5 hs5; simp only [List.set_cons_zero] at hI5))
      obtain ⟨gx, hgx⟩ : ∃ g, g = wr.heap.size := ⟨_, rfl⟩
      simp only [← hgx] at hI5 ⊢
      have hgxm : gm < gx := by have := SetIs.lt (setM_get (hI1.at_ 3 rfl)); omega
      have hgw5 : gm ≤ W5.heap.size := (hI5.at_ 6 rfl : _ ∧ gm ≤ W5.heap.size).2
      clear hI1 hs5 hgx HC
      by_cases hds : d ∈ S
      · have dd : decide (d ∈ S) = true := by simpa using hds
        have HC2 := Lib.hid (hC.skip hds)
        clear hC hds
        go_wp2_with (first
          | (refine wl_load_any rfl 32 (.tmp 8) rfl ⟨gx, 0, none⟩ rfl (d.map bv) _ (cell_allD (hI5.at_ 0 rfl)) Tryz.underlying32 rfl (by rw [List.length_map, HD.out]; kernel_rfl) ?_)
          | (refine wl_look hI5 4 rfl (.tmp 30) (.tmp 31) rfl gm nS S rfl d rfl rfl HD.out ?_; rw [dd]))
        have hq := costW_eq (setM_get (hI5.at_ 4 rfl)) l HB32.out
        have hlt := HLT.out
        have hk := HK.out
        subst hk
        exact ⟨⟨_, _, _, ⟨P, M, W', S, Ap, Am, some ad, cp, rfl, cm, rfl, cw, rfl, HC2.out, HP, HM, HW', nS, hpn, hmn, by omega, D1, D2', D3', hI5.2⟩, rfl, rfl, rfl⟩, by rw [hq, HMS.out]; simp only [lenS]; omega⟩
      · have dd : decide (d ∈ S) = false := by simpa using hds
        have HGET : Hid (∀ W, Blobs W B A n l → B ≤ W.heap.size → Calls Tryz.prog 27 #[.slice A n c, .agg (d.map bv).toArray] W fun e w' => e = .returned (got (lookB l d)) ∧ Below W.heap.size W w') := Lib.hid (fun W h1 h2 => get_any W B A n c l d h1 HD.out (by omega) h2)
        have HMON := Lib.hid (costS_mono (G := lkG l) (S := S) d (l.map Bl.d))
        cases hlk : lookB l d with
        | none =>
          have HC2 := Lib.hid (hC.gone hds (lkG_none hlk))
          rw [hlk] at HGET
          simp only [got] at HGET
          clear hC hds hlk
          go_upto_region 10 with (first
            | (refine wl_load_any rfl 32 (.tmp 8) rfl ⟨gx, 0, none⟩ rfl (d.map bv) _ (cell_allD (hI6.at_ 0 rfl)) Tryz.underlying32 rfl (by rw [List.length_map, HD.out]; kernel_rfl) ?_)
            | (refine wl_load_any rfl 32 (.tmp 8) rfl ⟨gx, 0, none⟩ rfl (d.map bv) _ (cell_allD (hI5.at_ 0 rfl)) Tryz.underlying32 rfl (by rw [List.length_map, HD.out]; kernel_rfl) ?_)
            | (refine wl_look hI5 4 rfl (.tmp 30) (.tmp 31) rfl gm nS S rfl d rfl rfl HD.out ?_; rw [dd])
            | (refine wl_put hI5 4 rfl (.tmp 33) (.tmp 34) (.const (.bool true)) (.inl rfl) gm nS S rfl d rfl rfl rfl HD.out (by unfold maxLen; omega) ⟨fun e => (by injection e with e; omega), fun g e => .inr (by injection e with e; subst e; exact own_ne_set (hI5.at_ 1 rfl) (setM_get (hI5.at_ 4 rfl))), fun g e => .inr (by injection e with e; subst e; exact own_ne_set (hI5.at_ 2 rfl) (setM_get (hI5.at_ 4 rfl))), fun g e => .inr (by injection e with e; subst e; exact own_ne_set (hI5.at_ 3 rfl) (setM_get (hI5.at_ 4 rfl))), fun g e => (by injection e with e; subst e; exact hBg), fun g e => (by injection e with e; subst e; exact Nat.le_refl _), trivial⟩ ?_; intro W6 hI6 hs6; simp only [List.set_cons_zero, List.set_cons_succ] at hI6)
            | (go_at_call 27; refine (HGET.out W6 (hI6.at_ 5 rfl : _ ∧ _).1 (hI6.at_ 5 rfl : _ ∧ B ≤ W6.heap.size).2).mono ?_; rintro e W7 ⟨rfl, hb7⟩; have hI7 := hI6.call hb7; clear hb7 hI6 hI5))
          have hg7 : gm ≤ W7.heap.size := (hI7.at_ 6 rfl : _ ∧ gm ≤ W7.heap.size).2
          have hne := own_ne_set (hI7.at_ 2 rfl) (setM_get (hI7.at_ 4 rfl))
          have hrd : Rd (W7.alloc (.cells (d.map bv).toArray 32)) (W7.heap.size + 1) 32 (some ⟨W7.heap.size, 0, none⟩) 1 (d.map bv) := Rd.lit (size := 32) W7 (d.map bv).toArray 32 1 (by rw [List.size_toArray, List.length_map]; exact HD.out)
          have hI8 := All.alloc hI7.2 (.cells (d.map bv).toArray 32)
          go_wp2_with (first
            | (refine wl_load_any rfl 32 (.tmp 8) rfl ⟨gx, 0, none⟩ rfl (d.map bv) _ (cell_allD (hI7.at_ 0 rfl)) Tryz.underlying32 rfl (by rw [List.length_map, HD.out]; kernel_rfl) ?_)
            | (refine wl_lit1 el_dg rfl (.tmp 44) rfl (d.map bv) rfl (by rw [List.length_map]; exact HD.out) (by decide) ?_)
            | (at_builtin; refine wl_app_at6 el_dg hI8 1 rfl (.tmp 43) (.tmp 45) rfl gm _ _ _ _ rfl rfl (W7.heap.size + 1) _ 1 1 (d.map bv) rfl hrd (bv_one _) (by omega) (by simp; omega) (by intro g hg h; exact ⟨fun g' e => .inr (by injection e with e; subst e; exact D1.out.symm g h), fun g' e => .inr (by injection e with e; subst e; exact D3'.out g h), setM_apart (fun e => hne (by rw [← e]; exact h)), fun g' e => (by injection e with e; subst e; exact Nat.le_trans hBg hg), fun g' e => (by injection e with e; subst e; exact hg), trivial⟩) ?_; intro A9 c9 W9 hI9 hs9 h6))
          simp only [List.set_cons_zero, List.set_cons_succ] at hI9
          have HD1 : Hid (Dist (.slice Ap P.length cp) (.slice A9 (M.length + 1) c9)) := Lib.hid (Dist.app D1.out.symm h6 (hI8.at_ 0 rfl)).symm
          have HD3 : Hid (Dist (.slice A9 (M.length + 1) c9) (.slice (some ad) k cw)) := Lib.hid (Dist.app D3'.out h6 (hI8.at_ 2 rfl))
          have hq := costW_eq (setM_get (hI9.at_ 3 rfl)) l HB32.out
          have hlt := HLT.out
          have hmo := HMON.out
          have hk := HK.out
          subst hk
          refine ⟨⟨P, M ++ [d], W', d :: S, Ap, A9, some ad, cp, c9, cw, nS + 1, rfl, by rw [List.length_append]; rfl, rfl, HC2.out, HP, Lib.hid (fun x hx => (List.mem_append.1 hx).elim (HM.out x) (fun h => by rw [List.mem_singleton.1 h]; exact HD.out)), HW', by omega, by rw [List.length_append, List.length_singleton]; omega, by omega, by rw [List.length_append]; exact HD1, D2', by rw [List.length_append]; exact HD3, ?_⟩, by rw [hq, HMS.out]; simp only [lenS]; omega⟩
          rw [List.length_append, List.length_singleton, dvs_snoc]
          exact hI9
        | some x =>
          have HC2 := Lib.hid (hC.have hds (lkG_some hlk))
          have HPUT := Lib.hid (costS_put (l := l.map Bl.d) hds (lkG_some hlk) (lookB_key hlk))
          have HXM := Lib.hid (lookB_mem hlk)
          have hl12 := linksB_len x.b
          have HL32 : Hid (∀ e ∈ linksB x.b, e.length = 32) := Lib.hid (fun e he => (linksW_each _ e he).1)
          rw [hlk] at HGET
          simp only [got] at HGET
          clear hC hds hlk
          go_upto_region 11 with (first
            | (refine wl_load_any rfl 32 (.tmp 8) rfl ⟨gx, 0, none⟩ rfl (d.map bv) _ (cell_allD (hI6.at_ 0 rfl)) Tryz.underlying32 rfl (by rw [List.length_map, HD.out]; kernel_rfl) ?_)
            | (refine wl_load_any rfl 32 (.tmp 8) rfl ⟨gx, 0, none⟩ rfl (d.map bv) _ (cell_allD (hI5.at_ 0 rfl)) Tryz.underlying32 rfl (by rw [List.length_map, HD.out]; kernel_rfl) ?_)
            | (refine wl_look hI5 4 rfl (.tmp 30) (.tmp 31) rfl gm nS S rfl d rfl rfl HD.out ?_; rw [dd])
            | (refine wl_put hI5 4 rfl (.tmp 33) (.tmp 34) (.const (.bool true)) (.inl rfl) gm nS S rfl d rfl rfl rfl HD.out (by unfold maxLen; omega) ⟨fun e => (by injection e with e; omega), fun g e => .inr (by injection e with e; subst e; exact own_ne_set (hI5.at_ 1 rfl) (setM_get (hI5.at_ 4 rfl))), fun g e => .inr (by injection e with e; subst e; exact own_ne_set (hI5.at_ 2 rfl) (setM_get (hI5.at_ 4 rfl))), fun g e => .inr (by injection e with e; subst e; exact own_ne_set (hI5.at_ 3 rfl) (setM_get (hI5.at_ 4 rfl))), fun g e => (by injection e with e; subst e; exact hBg), fun g e => (by injection e with e; subst e; exact Nat.le_refl _), trivial⟩ ?_; intro W6 hI6 hs6; simp only [List.set_cons_zero, List.set_cons_succ] at hI6)
            | (go_at_call 27; refine (HGET.out W6 (hI6.at_ 5 rfl : _ ∧ _).1 (hI6.at_ 5 rfl : _ ∧ B ≤ W6.heap.size).2).mono ?_; rintro e W7 ⟨rfl, hb7⟩; have hI7 := hI6.call hb7; clear hb7 hI6 hI5))
          have hg7 : gm ≤ W7.heap.size := (hI7.at_ 6 rfl : _ ∧ gm ≤ W7.heap.size).2
          have hne := own_ne_set (hI7.at_ 1 rfl) (setM_get (hI7.at_ 4 rfl))
          have hrd : Rd (W7.alloc (.cells (d.map bv).toArray 32)) (W7.heap.size + 1) 32 (some ⟨W7.heap.size, 0, none⟩) 1 (d.map bv) := Rd.lit (size := 32) W7 (d.map bv).toArray 32 1 (by rw [List.size_toArray, List.length_map]; exact HD.out)
          have hI8 := All.alloc hI7.2 (.cells (d.map bv).toArray 32)
          go_upto_region 12 with (first
            | (refine wl_load_any rfl 32 (.tmp 8) rfl ⟨gx, 0, none⟩ rfl (d.map bv) _ (cell_allD (hI7.at_ 0 rfl)) Tryz.underlying32 rfl (by rw [List.length_map, HD.out]; kernel_rfl) ?_)
            | (refine wl_lit1 el_dg rfl (.tmp 48) rfl (d.map bv) rfl (by rw [List.length_map]; exact HD.out) (by decide) ?_)
            | (at_builtin; refine wl_app_at6 el_dg hI8 0 rfl (.tmp 47) (.tmp 49) rfl gm _ _ _ _ rfl rfl (W7.heap.size + 1) _ 1 1 (d.map bv) rfl hrd (bv_one _) (by omega) (by simp; omega) (by intro g hg h; exact ⟨fun g' e => .inr (by injection e with e; subst e; exact D1.out g h), fun g' e => .inr (by injection e with e; subst e; exact D2'.out g h), setM_apart (fun e => hne (by rw [← e]; exact h)), fun g' e => (by injection e with e; subst e; exact Nat.le_trans hBg hg), fun g' e => (by injection e with e; subst e; exact hg), trivial⟩) ?_; intro A9 c9 W9 hI9 hs9 h6))
          simp only [List.set_cons_zero, List.set_cons_succ] at hI9
          have HD1 : Hid (Dist (.slice A9 (P.length + 1) c9) (.slice Am M.length cm)) := Lib.hid (Dist.app D1.out h6 (hI8.at_ 1 rfl))
          have HD2 : Hid (Dist (.slice A9 (P.length + 1) c9) (.slice (some ad) k cw)) := Lib.hid (Dist.app D2'.out h6 (hI8.at_ 2 rfl))
          have hbx := (hI9.at_ 4 rfl : Blobs W9 B A n l ∧ B ≤ W9.heap.size)
          have hlinks := Links_any W9 B x.A x.n x.c x.b (hbx.1.each x HXM.out).rd (hbx.1.each x HXM.out).nc (hbx.1.each x HXM.out).cm hbx.2
          have hg9 : gm ≤ W9.heap.size := (hI9.at_ 5 rfl : _ ∧ gm ≤ W9.heap.size).2
          clear hI7 hI8 hrd h6 hbx hne
          generalize linksB x.b = ls at *
          go_wp2_with (first
            | (go_at_call 28; refine hlinks.mono ?_; clear hlinks; rintro e Wa ⟨Al, cl, rfl, hOl, hba⟩; have hIa := hI9.call hba; have hrda := hOl.rd; have hnea := own_ne_set (hIa.at_ 2 rfl) (setM_get (hIa.at_ 3 rfl)); have hsza := hba.size; clear hba hI9 hOl)
            | (at_builtin; refine wl_app_at6 el_dg hIa 2 rfl (.tmp 51) (.tmp 53) rfl gm _ _ _ _ rfl rfl Wa.heap.size _ ls.length cl (dvs ls).flatten rfl hrda (dvs_one _) (by omega) (by omega) (by intro g hg h; exact ⟨fun g' e => .inr (by injection e with e; subst e; exact HD2.out.symm g h), fun g' e => .inr (by injection e with e; subst e; exact D3'.out.symm g h), setM_apart (fun e => hnea (by rw [← e]; exact h)), fun g' e => (by injection e with e; subst e; exact Nat.le_trans hBg hg), fun g' e => (by injection e with e; subst e; exact hg), trivial⟩) ?_; intro Ab cb Wb hIb hsb h7))
          simp only [List.set_cons_zero, List.set_cons_succ] at hIb
          have HE2 : Hid (Dist (.slice A9 (P.length + 1) c9) (.slice Ab (k + ls.length) cb)) := Lib.hid (Dist.app HD2.out.symm h7 (hIa.at_ 0 rfl)).symm
          have HE3 : Hid (Dist (.slice Am M.length cm) (.slice Ab (k + ls.length) cb)) := Lib.hid (Dist.app D3'.out.symm h7 (hIa.at_ 1 rfl)).symm
          have hq := costW_eq (setM_get (hIb.at_ 3 rfl)) l HB32.out
          have hlt := HLT.out
          have hmo := HPUT.out
          have hk := HK.out
          subst hk
          refine ⟨⟨P ++ [d], M, W' ++ ls, d :: S, A9, Am, Ab, c9, cm, cb, nS + 1, by rw [List.length_append]; rfl, rfl, by rw [List.length_append], HC2.out, Lib.hid (fun x hx => (List.mem_append.1 hx).elim (HP.out x) (fun h => by rw [List.mem_singleton.1 h]; exact HD.out)), HM, Lib.hid (fun x hx => (List.mem_append.1 hx).elim (HW'.out x) (HL32.out x)), by rw [List.length_append, List.length_singleton]; omega, by omega, by rw [List.length_append]; omega, by rw [List.length_append]; exact HD1, by rw [List.length_append, List.length_append]; exact HE2, by rw [List.length_append]; exact HE3, ?_⟩, by rw [hq, HMS.out]; simp only [lenS]; omega⟩
          rw [List.length_append, List.length_singleton, dvs_snoc, List.length_append, dvs_app]
          exact hIb
end Go.Proofs.YtkcmaembpfakdaaGreatDoor

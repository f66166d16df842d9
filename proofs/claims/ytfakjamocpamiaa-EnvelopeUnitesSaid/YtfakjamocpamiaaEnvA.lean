/- Signatures by name; which envelopes are valid: both sides. -/
import Derived.Test.YtfakjamocpamiaaEnvP
import Derived.Test.YtfakjamocpamiaaFreB
set_option linter.unusedSimpArgs false
set_option linter.unusedVariables false
set_option maxRecDepth 100000
namespace Go.Adm
open Go Go.RowKit Go.Proofs.Ytfakjamocpamiaa
theorem env_cells (kind : ByteArray) (Ap : Option Addr) (np cp : Nat) (As : Option Addr) (ns cs : Nat) {w : World} {g : Nat} {t : TypeId} (h : Cells w g t (envC kind Ap np cp As ns cs)) :
  w.cell? ⟨g, 0, none⟩ = some (.string kind) ∧ w.cell? ⟨g, 1, none⟩ = some (.slice Ap np cp) ∧ w.cell? ⟨g, 2, none⟩ = some (.slice As ns cs) :=
 ⟨Cells.cell h (i := 0) (by simp [envC]), Cells.cell h (i := 1) (by simp [envC]), Cells.cell h (i := 2) (by simp [envC])⟩
theorem validK_at {kind : ByteArray} {pn : Nat} {l : List Ks} (h1 : nameB kind = true) (h2 : pn ≤ 32768) (h3 : l.length ≤ 8) : validK kind pn l = okKs l := by
 unfold validK
 rw [h1, decide_eq_true h2, decide_eq_true h3]; rfl
theorem validK_name {kind : ByteArray} {pn : Nat} {l : List Ks} (h1 : nameB kind = false) : validK kind pn l = false := by unfold validK; rw [h1]; rfl
theorem validK_long {kind : ByteArray} {pn : Nat} {l : List Ks} (h1 : ¬ pn ≤ 32768) : validK kind pn l = false := by unfold validK; rw [decide_eq_false h1, Bool.false_and, Bool.and_false]
theorem validK_many {kind : ByteArray} {pn : Nat} {l : List Ks} (h1 : ¬ l.length ≤ 8) : validK kind pn l = false := by unfold validK; rw [decide_eq_false h1, Bool.false_and, Bool.and_false, Bool.and_false]
end Go.Adm
namespace Go.Proofs.Ytfakjamocpamiaa
open Go Go.RowKit Go.Adm
theorem zero_ks (w : World) : (zeroValue 64).run Try.prog w = .ok (.agg ksZ.toArray) w := by kernel_rfl
theorem el_ks : ElemOf Try.prog 23 64 (.agg ksZ.toArray) 20 80 := ElemOf.mk' Try.underlying23 (by kernel_rfl) rfl (by decide) (by decide)
set_option maxHeartbeats 800000 in
theorem order_any (w : World) (x y : List UInt8) (hx : x.length = 32) (hy : y.length = 32) :
  Calls Try.prog 53 #[.agg (x.map bv).toArray, .agg (y.map bv).toArray] w fun e w' => e = .returned (.int .i64 (Lib.compareBytes x y)) ∧ Below w.heap.size w w' := by
 have hR : All w [.kept w w.heap.size] := ⟨⟨Below.refl _ _, Nat.le_refl _⟩, trivial⟩
 have HX := Lib.hid hx
 have HY := Lib.hid hy
 clear hx hy
 go_enter Try.func53, Try.ntmps53
 go_upto_region 1 with (fail)
 refine wp_gen ((hR.new (l := x.map bv) _ 37 rfl rfl).new (l := y.map bv) (g := w.heap.size + 1) _ 37 (by simp) rfl) ?_
 intro W1 hW1
 clear hR
 refine wp_region_hops 2 [5, 6] [.cells (w.heap.size + 1) 37 (y.map bv), .cells w.heap.size 37 (x.map bv), .kept w w.heap.size]
  [.eq (.slice (some ⟨w.heap.size, 0, none⟩) 32 32), .eq (.slice (some ⟨w.heap.size + 1, 0, none⟩) 32 32)]
  (by kernel_rfl) (by kernel_rfl) hW1 rfl ?hops ?fin
 case hops =>
  refine ⟨?_, ?_, trivial⟩
  ·intro a W hW hb hd K hK
   have b2 := hb 2 rfl
   go_simp
   exact hK _ _ (World.grownBy.refl _ _) rfl
  ·intro a W hW hb hd K hK
   have b3 := hb 3 rfl
   go_simp
   exact hK _ _ (World.grownBy.refl _ _) rfl
 case fin =>
  intro vs V hV hv
  have e0 : vs 0 = _ := hv 0 (by decide)
  have e1 : vs 1 = _ := hv 1 (by decide)
  clear hv hW1
  simp only [putAll, List.drop_succ_cons, List.drop_zero, e0, e1, Act.put, List.setIfInBounds_toArray, List.set_cons_succ, List.set_cons_zero]
  clear e0 e1
  go_wp2_with fail
  refine (bytesCompare_any V ⟨w.heap.size, 0, none⟩ ⟨w.heap.size + 1, 0, none⟩ 32 32 x y HX.out HY.out (fun j u h => by rw [add_lit]; exact Cells.range (hV.at_ 1 rfl) j u h) (fun j u h => by rw [add_lit]; exact Cells.range (hV.at_ 0 rfl) j u h)).mono ?_
  rintro e w5 ⟨rfl, hw⟩
  rw [hw]
  go_wp2_with fail
  go_ret
  exact ⟨rfl, (hV.at_ 2 rfl : _ ∧ _).1⟩

set_option maxHeartbeats 1600000 in
theorem named_any (w : World) (x : Ks) (d : List UInt8) (hx : x.r.length = 16) (hd : d.length = 32) :
  Calls Try.prog 27 #[.agg (ksC x).toArray, .agg (d.map bv).toArray] w fun e w' => e = .returned (.int .i64 (Lib.compareBytes (idK x) d)) ∧ Below w.heap.size w w' := by
 have hR : All w [.kept w w.heap.size] := ⟨⟨Below.refl _ _, Nat.le_refl _⟩, trivial⟩
 have HX := Lib.hid hx
 have HD := Lib.hid hd
 clear hx hd
 go_enter Try.func27, Try.ntmps27
 go_upto_region 1 with (fail)
 refine wp_gen ((hR.new (l := ksC x) _ 64 rfl rfl).new (l := d.map bv) (g := w.heap.size + 1) _ 37 (by simp) rfl) ?_
 intro W1 hW1
 clear hR
 refine wp_region_hops 4 [5, 6, 7, 8] [.cells (w.heap.size + 1) 37 (d.map bv), .cells w.heap.size 64 (ksC x), .kept w w.heap.size]
  [.eq (.pointer (some ⟨w.heap.size, 0, none⟩)), .eq (.agg (pkCells x.h x.r).toArray), .eq (.agg ((idK x).map bv).toArray), .eq (.agg (d.map bv).toArray)]
  (by kernel_rfl) (by kernel_rfl) hW1 rfl ?hops ?fin
 case hops =>
  refine ⟨?_, ?_, ?_, ?_, trivial⟩
  ·intro a W hW hb hd K hK
   have b2 := hb 2 rfl
   go_simp
   exact hK _ _ (World.grownBy.refl _ _) rfl
  ·intro a W hW hb hd K hK
   have b5 : a.tmps[5]?.getD undef = _ := hd ⟨0, .data⟩ (by simp) rfl
   refine wp_load_any 62 (.tmp 5) rfl ⟨w.heap.size, 0, none⟩ (show a.eval (.tmp 5) = _ from by simp only [Act.eval, Array.getD_eq_getD_getElem?]; exact b5) (pkCells x.h x.r) _ (Cells.sub (hW.at_ 1 rfl) 0 (ks_pk x)) Try.underlying62 rfl (by rw [pkLen HX.out]; kernel_rfl) ?_
   exact hK _ _ (World.grownBy.refl _ _) rfl
  ·intro a W hW hb hd K hK
   have b6 : a.tmps[6]?.getD undef = _ := hd ⟨1, .data⟩ (by simp) rfl
   go_simp
   refine (ID_any W x.h x.r HX.out).mono ?_
   rintro e w' ⟨rfl, hb'⟩
   exact hK _ _ (grown_of_below hb') rfl
  ·intro a W hW hb hd K hK
   have b3 := hb 3 rfl
   refine wp_load_any 37 (.tmp 3) rfl ⟨w.heap.size + 1, 0, none⟩ (show a.eval (.tmp 3) = _ from by simp only [Act.eval, Array.getD_eq_getD_getElem?]; exact b3) (d.map bv) _ (Cells.sub (hW.at_ 0 rfl) 0 (fun j u h => by rwa [Nat.zero_add])) Try.underlying37 rfl (by rw [List.length_map, HD.out]; kernel_rfl) ?_
   exact hK _ _ (World.grownBy.refl _ _) rfl
 case fin =>
  intro vs V hV hv
  have e2 : vs 2 = _ := hv 2 (by decide)
  have e3 : vs 3 = _ := hv 3 (by decide)
  clear hv hW1
  simp only [putAll, List.drop_succ_cons, List.drop_zero, e2, e3, Act.put, List.setIfInBounds_toArray, List.set_cons_succ, List.set_cons_zero]
  clear e2 e3
  go_wp2_with fail
  refine (order_any V (idK x) d (idK_len x) HD.out).mono ?_
  rintro e w5 ⟨rfl, hb5⟩
  have hV5 := hV.call hb5
  go_wp2_with fail
  go_ret
  exact ⟨rfl, (hV5.at_ 2 rfl : _ ∧ _).1⟩

set_option maxHeartbeats 6400000 in
theorem ValidE_any (w : World) (B : Nat) (kind : ByteArray) (Ap : Option Addr) (np cp : Nat) (As : Option Addr) (ns cs : Nat) (l : List Ks) (hl : Kss w B As ns l) (hk : kind.size ≤ 140737488355328) (hnp : np ≤ 140737488355328) (hns : ns ≤ 140737488355328) (hB : B ≤ w.heap.size) :
  Calls Try.prog 11 #[.agg (envC kind Ap np cp As ns cs).toArray] w fun e w' => e = .returned (.bool (validK kind np l)) ∧ Below w.heap.size w w' := by
 have hR : All w [.low (.kss B As ns l), .kept w w.heap.size] := ⟨⟨hl, hB⟩, ⟨Below.refl _ _, Nat.le_refl _⟩, trivial⟩
 have HN := Lib.hid hl.len
 clear hl
 have hzr := zero_ks
 go_enter Try.func11, Try.ntmps11
 go_upto_region 1 with (fail)
 obtain ⟨ge, hge⟩ : ∃ g, g = w.heap.size := ⟨_, rfl⟩
 have hI0 := hR.new (l := envC kind Ap np cp As ns cs) _ 25 hge rfl
 simp only [← hge]
 have hgw : w.heap.size ≤ ge := by omega
 have hgB : B ≤ ge := by omega
 clear hR hge
 refine wp_gen hI0 ?_
 clear hI0
 intro W1 hI0
 obtain ⟨q0, q1, q2⟩ := env_cells _ _ _ _ _ _ _ (hI0.at_ 0 rfl)
 have hnm := Name_any kind W1 hk
 cases qn : nameB kind with
 | false =>
  have HF : Hid (validK kind np l = false) := Lib.hid (validK_name qn)
  rw [qn] at hnm
  clear qn
  go_wp2_with (go_at_call 25; refine hnm.mono ?_; clear hnm; rintro e w2 ⟨rfl, rfl⟩)
  go_ret
  exact ⟨ret_bool (by rw [HF.out]), (hI0.at_ 2 rfl : _ ∧ _).1⟩
 | true =>
  rw [qn] at hnm
  have HQ := Lib.hid qn
  clear qn
  by_cases hp : np ≤ 32768
  ·have dp : decide (32768 < (np : Int)) = false := by simp; omega
   have dp2 : decide (32768 < np) = false := by simp; omega
   by_cases h8 : ns ≤ 8
   ·have d8 : decide (8 < (ns : Int)) = false := by simp; omega
    have d82 : decide (8 < ns) = false := by simp; omega
    have HVK : Hid (validK kind np l = okKs l) := Lib.hid (validK_at HQ.out hp (by rw [HN.out]; exact h8))
    clear hp
    go_upto_region 4 with (go_at_call 25; refine hnm.mono ?_; clear hnm; rintro e w2 ⟨rfl, rfl⟩)
    clear q0 q1 q2 dp dp2 d8 d82
    go_wp2_with fail
    go_loopw [24] (fun i wr => ∃ (k : Nat), k ≤ ns ∧ i = .int .i64 k ∧ (∀ i < k, okK l i = true) ∧ All wr [.cells ge 25 (envC kind Ap np cp As ns cs), .low (.kss B As ns l), .kept w w.heap.size]) (fun i _ => ns - (intOf i).toNat)
    case atStart => exact ⟨0, by omega, rfl, fun i hi => absurd hi (by omega), hI0⟩
    case round =>
     obtain ⟨k, hk, rfl, hA, hI⟩ := hrel
     have HA := Lib.hid hA
     clear hA hI0
     have qe := (env_cells _ _ _ _ _ _ _ (hI.at_ 0 rfl)).2.2
     by_cases hlt : k < ns
     ·have hkl : k < l.length := by rw [HN.out]; exact hlt
      have hbl := (hI.at_ 1 rfl : Kss wr B As ns l ∧ B ≤ wr.heap.size)
      obtain ⟨ad, rfl, hadB, hc⟩ := Els.elem hbl.1.els hkl
      have HC := Lib.hid hc
      have hx := Lib.hid (hbl.1.each _ (List.getElem_mem hkl)).r16
      have HO1 : Hid (shK l[k] = false → okKs l = false) := Lib.hid (fun h => okKs_no hkl (okK_bad hkl h))
      have HO2 : Hid (shK l[k] = true → k = 0 → okK l k = true) := Lib.hid (fun h h0 => okK_zero hkl h h0)
      have HO3 : Hid (shK l[k] = true → ∀ j (hj : j < l.length), j + 1 = k → okK l k = lessD (idK l[j]) (idK l[k])) := Lib.hid (fun h j hj hjk => okK_next hkl hj hjk h)
      have HJD : Hid (∀ j (hjl : j < l.length), l[j].r.length = 16) := Lib.hid (fun j hjl => (hbl.1.each _ (List.getElem_mem hjl)).r16)
      have hBr : B ≤ wr.heap.size := hbl.2
      clear hc hbl
      generalize l[k] = x at *
      have hsz : w.heap.size ≤ wr.heap.size := hI.size_kept 2 rfl
      have hgg : ge < wr.heap.size := Cells.lt (hI.at_ 0 rfl)
      have d1 : decide ((k : Int) < (ns : Int)) = true := by simp; omega
      have wk0 : (0 : Int) ≤ (k : Int) := by omega
      have wk1 : (k : Int) < (ns : Int) := by omega
      have wk2 : ((k : Int)).toNat = k := by omega
      obtain ⟨gx, hgx⟩ : ∃ gx, gx = wr.heap.size := ⟨_, rfl⟩
      go_upto_region 6 with (first
       | (refine wl_load_any rfl 64 (.tmp 27) rfl (ad.add (k * 20)) rfl (ksC x) _ HC.out Try.underlying64 rfl (by rw [ksC_len hx.out]; kernel_rfl) ?_)
       | (refine wl_store_at (hI.new (l := ksZ) _ 64 hgx rfl) 0 rfl 64 (.tmp 4) (.tmp 28) rfl gx _ _ (ksC x) rfl (by rw [hgx]; rfl) rfl (by rw [ksC_len hx.out]; rfl) (by rw [ksC_len hx.out]; kernel_rfl) (ksC_one x) ⟨fun e => (by injection e with e; omega), fun g' e => (by injection e with e; subst e; show B ≤ gx; omega), fun g' e => (by injection e with e; subst e; omega), trivial⟩ ?_; intro W2 hW2 hs2; simp only [List.set_cons_zero] at hW2))
      simp only [← hgx]
      clear hgx hI hgg hBr HC qe
      cases hsq : shK x with
      | false =>
       have HS : Hid (shapedB x.h x.leaf x.chain.length x.path.length = false) := Lib.hid hsq
       have HF : Hid (validK kind np l = false) := Lib.hid (by rw [HVK.out]; exact HO1.out hsq)
       clear hsq
       refine wp_region_hopsH 22 (29 :: 30 :: 31 :: 32 :: 33 :: 34 :: 35 :: 36 :: 37 :: 38 :: 39 :: 40 :: 41 :: 42 :: 43 :: 44 :: 45 :: 46 :: 47 :: 48 :: 49 :: 50 :: []) _
        (.eq (.pointer (some ⟨gx, 0, none⟩)) :: .eq (.agg (pkCells x.h x.r).toArray) :: .eq (.pointer (some ⟨gx, 17, none⟩)) :: .eq (.agg (sgCells x.leaf x.Ac x.chain.length x.cc x.Ap x.path.length x.cp).toArray) :: .eq (.bool false) :: .eq (.bool true) :: .eq (.bool true) :: .eq undef :: .eq undef :: .eq undef :: .eq undef :: .eq undef :: .eq undef :: .eq undef :: .eq undef :: .eq undef :: .eq undef :: .eq undef :: .eq undef :: .eq undef :: .eq undef :: .eq undef :: [])
        (by kernel_rfl) (by kernel_rfl) hW2 rfl ?hops ?fin
       case hops =>
        refine ⟨?_, ?_, ?_, ?_, ?_, ?_, ?_, ?_, ?_, ?_, ?_, ?_, ?_, ?_, ?_, ?_, ?_, ?_, ?_, ?_, ?_, ?_, trivial⟩
        ·intro a W hW hb hd K hK
         have b4 := hb 4 rfl
         go_simp
         exact hK _ _ (World.grownBy.refl _ _) rfl
        ·intro a W hW hb hd K hK
         have b29 : a.tmps[29]?.getD undef = _ := hd ⟨0, .data⟩ (by simp) rfl
         refine wp_load_any 62 (.tmp 29) rfl ⟨gx, 0, none⟩ (show a.eval (.tmp 29) = _ from by simp only [Act.eval, Array.getD_eq_getD_getElem?]; exact b29) (pkCells x.h x.r) _ (Cells.sub (hW.at_ 0 rfl) 0 (ks_pk x)) Try.underlying62 rfl (by rw [pkLen hx.out]; kernel_rfl) ?_
         exact hK _ _ (World.grownBy.refl _ _) rfl
        ·intro a W hW hb hd K hK
         have b4 := hb 4 rfl
         go_simp
         exact hK _ _ (World.grownBy.refl _ _) rfl
        ·intro a W hW hb hd K hK
         have b31 : a.tmps[31]?.getD undef = _ := hd ⟨2, .data⟩ (by simp) rfl
         refine wp_load_any 60 (.tmp 31) rfl ⟨gx, 17, none⟩ (show a.eval (.tmp 31) = _ from by simp only [Act.eval, Array.getD_eq_getD_getElem?]; exact b31) (sgCells x.leaf x.Ac x.chain.length x.cc x.Ap x.path.length x.cp) _ (Cells.sub (hW.at_ 0 rfl) 17 (ks_sg hx.out)) Try.underlying60 rfl (by kernel_rfl) ?_
         exact hK _ _ (World.grownBy.refl _ _) rfl
        ·intro a W hW hb hd K hK
         have b30 : a.tmps[30]?.getD undef = _ := hd ⟨1, .data⟩ (by simp) rfl
         have b32 : a.tmps[32]?.getD undef = _ := hd ⟨3, .data⟩ (by simp) rfl
         go_simp
         refine (Shaped_any W x.r hx.out x.leaf x.Ac x.chain.length x.cc x.Ap x.path.length x.cp x.h).mono ?_
         rintro e w' ⟨rfl, hb'⟩
         exact hK _ _ (grown_of_below hb') (congrArg Value.bool HS.out)
        ·intro a W hW hb hd K hK
         have b33 : a.tmps[33]?.getD undef = _ := hd ⟨4, .data⟩ (by simp) rfl
         go_simp
         exact hK _ _ (World.grownBy.refl _ _) rfl
        ·intro a W hW hb hd K hK
         have b34 : a.tmps[34]?.getD undef = _ := hd ⟨5, .data⟩ (by simp) rfl
         go_simp
         exact hK _ _ (World.grownBy.refl _ _) rfl
        ·exact Or.inr ⟨fun v w h => by rw [show v = _ from h]; first | (intro h2; cases h2) | (simp [undef]), fun w => rfl⟩
        ·exact Or.inr ⟨fun v w h => by rw [show v = _ from h]; first | (intro h2; cases h2) | (simp [undef]), fun w => rfl⟩
        ·exact Or.inr ⟨fun v w h => by rw [show v = _ from h]; first | (intro h2; cases h2) | (simp [undef]), fun w => rfl⟩
        ·exact Or.inr ⟨fun v w h => by rw [show v = _ from h]; first | (intro h2; cases h2) | (simp [undef]), fun w => rfl⟩
        ·exact Or.inr ⟨fun v w h => by rw [show v = _ from h]; first | (intro h2; cases h2) | (simp [undef]), fun w => rfl⟩
        ·exact Or.inr ⟨fun v w h => by rw [show v = _ from h]; first | (intro h2; cases h2) | (simp [undef]), fun w => rfl⟩
        ·exact Or.inr ⟨fun v w h => by rw [show v = _ from h]; first | (intro h2; cases h2) | (simp [undef]), fun w => rfl⟩
        ·exact Or.inr ⟨fun v w h => by rw [show v = _ from h]; first | (intro h2; cases h2) | (simp [undef]), fun w => rfl⟩
        ·exact Or.inr ⟨fun v w h => by rw [show v = _ from h]; first | (intro h2; cases h2) | (simp [undef]), fun w => rfl⟩
        ·exact Or.inr ⟨fun v w h => by rw [show v = _ from h]; first | (intro h2; cases h2) | (simp [undef]), fun w => rfl⟩
        ·exact Or.inr ⟨fun v w h => by rw [show v = _ from h]; first | (intro h2; cases h2) | (simp [undef]), fun w => rfl⟩
        ·exact Or.inr ⟨fun v w h => by rw [show v = _ from h]; first | (intro h2; cases h2) | (simp [undef]), fun w => rfl⟩
        ·exact Or.inr ⟨fun v w h => by rw [show v = _ from h]; first | (intro h2; cases h2) | (simp [undef]), fun w => rfl⟩
        ·exact Or.inr ⟨fun v w h => by rw [show v = _ from h]; first | (intro h2; cases h2) | (simp [undef]), fun w => rfl⟩
        ·exact Or.inr ⟨fun v w h => by rw [show v = _ from h]; first | (intro h2; cases h2) | (simp [undef]), fun w => rfl⟩
       case fin =>
        intro vs W hW hv
        have e6 : vs 6 = _ := hv 6 (by decide)
        have e21 : vs 21 = _ := hv 21 (by decide)
        clear hv
        simp only [putAll, List.drop_succ_cons, List.drop_zero, e6, e21, Act.put, List.setIfInBounds_toArray, List.set_cons_succ, List.set_cons_zero]
        clear e6 e21
        go_wp2_with fail
        go_ret
        exact ⟨ret_bool (by rw [HF.out]), (hW.at_ 3 rfl : _ ∧ _).1⟩
      | true =>
       have HS : Hid (shapedB x.h x.leaf x.chain.length x.path.length = true) := Lib.hid hsq
       have HSK := Lib.hid hsq
       clear hsq
       by_cases hk0 : k = 0
       ·have HF : Hid (okK l k = true) := Lib.hid (HO2.out HSK.out hk0)
        have d2 : decide (0 < (k : Int)) = false := by simp; omega
        have d3 : decide (0 < k) = false := by simp; omega
        clear hk0
        refine wp_region_hopsH 22 (29 :: 30 :: 31 :: 32 :: 33 :: 34 :: 35 :: 36 :: 37 :: 38 :: 39 :: 40 :: 41 :: 42 :: 43 :: 44 :: 45 :: 46 :: 47 :: 48 :: 49 :: 50 :: []) _
         (.eq (.pointer (some ⟨gx, 0, none⟩)) :: .eq (.agg (pkCells x.h x.r).toArray) :: .eq (.pointer (some ⟨gx, 17, none⟩)) :: .eq (.agg (sgCells x.leaf x.Ac x.chain.length x.cc x.Ap x.path.length x.cp).toArray) :: .eq (.bool true) :: .eq (.bool false) :: .eq (.bool false) :: .eq (.int .i64 k) :: .eq (.bool false) :: .eq (.bool false) :: .eq undef :: .eq undef :: .eq undef :: .eq undef :: .eq undef :: .eq undef :: .eq undef :: .eq undef :: .eq undef :: .eq undef :: .eq undef :: .eq (.bool false) :: [])
         (by kernel_rfl) (by kernel_rfl) hW2 rfl ?hops ?fin
        case hops =>
         refine ⟨?_, ?_, ?_, ?_, ?_, ?_, ?_, ?_, ?_, ?_, ?_, ?_, ?_, ?_, ?_, ?_, ?_, ?_, ?_, ?_, ?_, ?_, trivial⟩
         ·intro a W hW hb hd K hK
          have b4 := hb 4 rfl
          go_simp
          exact hK _ _ (World.grownBy.refl _ _) rfl
         ·intro a W hW hb hd K hK
          have b29 : a.tmps[29]?.getD undef = _ := hd ⟨0, .data⟩ (by simp) rfl
          refine wp_load_any 62 (.tmp 29) rfl ⟨gx, 0, none⟩ (show a.eval (.tmp 29) = _ from by simp only [Act.eval, Array.getD_eq_getD_getElem?]; exact b29) (pkCells x.h x.r) _ (Cells.sub (hW.at_ 0 rfl) 0 (ks_pk x)) Try.underlying62 rfl (by rw [pkLen hx.out]; kernel_rfl) ?_
          exact hK _ _ (World.grownBy.refl _ _) rfl
         ·intro a W hW hb hd K hK
          have b4 := hb 4 rfl
          go_simp
          exact hK _ _ (World.grownBy.refl _ _) rfl
         ·intro a W hW hb hd K hK
          have b31 : a.tmps[31]?.getD undef = _ := hd ⟨2, .data⟩ (by simp) rfl
          refine wp_load_any 60 (.tmp 31) rfl ⟨gx, 17, none⟩ (show a.eval (.tmp 31) = _ from by simp only [Act.eval, Array.getD_eq_getD_getElem?]; exact b31) (sgCells x.leaf x.Ac x.chain.length x.cc x.Ap x.path.length x.cp) _ (Cells.sub (hW.at_ 0 rfl) 17 (ks_sg hx.out)) Try.underlying60 rfl (by kernel_rfl) ?_
          exact hK _ _ (World.grownBy.refl _ _) rfl
         ·intro a W hW hb hd K hK
          have b30 : a.tmps[30]?.getD undef = _ := hd ⟨1, .data⟩ (by simp) rfl
          have b32 : a.tmps[32]?.getD undef = _ := hd ⟨3, .data⟩ (by simp) rfl
          go_simp
          refine (Shaped_any W x.r hx.out x.leaf x.Ac x.chain.length x.cc x.Ap x.path.length x.cp x.h).mono ?_
          rintro e w' ⟨rfl, hb'⟩
          exact hK _ _ (grown_of_below hb') (congrArg Value.bool HS.out)
         ·intro a W hW hb hd K hK
          have b33 : a.tmps[33]?.getD undef = _ := hd ⟨4, .data⟩ (by simp) rfl
          go_simp
          exact hK _ _ (World.grownBy.refl _ _) rfl
         ·intro a W hW hb hd K hK
          have b34 : a.tmps[34]?.getD undef = _ := hd ⟨5, .data⟩ (by simp) rfl
          go_simp
          exact hK _ _ (World.grownBy.refl _ _) rfl
         ·refine Or.inl ⟨fun v w h => h, ?_⟩
          intro a W hW hb hd K hK
          have b3 := hb 3 rfl
          go_simp
          exact hK _ _ (World.grownBy.refl _ _) rfl
         ·refine Or.inl ⟨fun v w h => h, ?_⟩
          intro a W hW hb hd K hK
          have b36 : a.tmps[36]?.getD undef = _ := hd ⟨7, .data⟩ (by simp) rfl
          go_simp
          exact hK _ _ (World.grownBy.refl _ _) rfl
         ·refine Or.inl ⟨fun v w h => h, ?_⟩
          intro a W hW hb hd K hK
          have b37 : a.tmps[37]?.getD undef = _ := hd ⟨8, .data⟩ (by simp) rfl
          go_simp
          exact hK _ _ (World.grownBy.refl _ _) rfl
         ·exact Or.inr ⟨fun v w h => by rw [show v = _ from h]; first | (intro h2; cases h2) | (simp [undef]), fun w => rfl⟩
         ·exact Or.inr ⟨fun v w h => by rw [show v = _ from h]; first | (intro h2; cases h2) | (simp [undef]), fun w => rfl⟩
         ·exact Or.inr ⟨fun v w h => by rw [show v = _ from h]; first | (intro h2; cases h2) | (simp [undef]), fun w => rfl⟩
         ·exact Or.inr ⟨fun v w h => by rw [show v = _ from h]; first | (intro h2; cases h2) | (simp [undef]), fun w => rfl⟩
         ·exact Or.inr ⟨fun v w h => by rw [show v = _ from h]; first | (intro h2; cases h2) | (simp [undef]), fun w => rfl⟩
         ·exact Or.inr ⟨fun v w h => by rw [show v = _ from h]; first | (intro h2; cases h2) | (simp [undef]), fun w => rfl⟩
         ·exact Or.inr ⟨fun v w h => by rw [show v = _ from h]; first | (intro h2; cases h2) | (simp [undef]), fun w => rfl⟩
         ·exact Or.inr ⟨fun v w h => by rw [show v = _ from h]; first | (intro h2; cases h2) | (simp [undef]), fun w => rfl⟩
         ·exact Or.inr ⟨fun v w h => by rw [show v = _ from h]; first | (intro h2; cases h2) | (simp [undef]), fun w => rfl⟩
         ·exact Or.inr ⟨fun v w h => by rw [show v = _ from h]; first | (intro h2; cases h2) | (simp [undef]), fun w => rfl⟩
         ·exact Or.inr ⟨fun v w h => by rw [show v = _ from h]; first | (intro h2; cases h2) | (simp [undef]), fun w => rfl⟩
         ·refine Or.inl ⟨fun v w h => h, ?_⟩
          intro a W hW hb hd K hK
          have b38 : a.tmps[38]?.getD undef = _ := hd ⟨9, .data⟩ (by simp) rfl
          have b49 : a.tmps[49]?.getD undef = _ := hd ⟨20, .data⟩ (by simp) rfl
          go_simp
          exact hK _ _ (World.grownBy.refl _ _) rfl
        case fin =>
         intro vs W hW hv
         have e6 : vs 6 = _ := hv 6 (by decide)
         have e21 : vs 21 = _ := hv 21 (by decide)
         clear hv
         simp only [putAll, List.drop_succ_cons, List.drop_zero, e6, e21, Act.put, List.setIfInBounds_toArray, List.set_cons_succ, List.set_cons_zero]
         clear e6 e21
         go_wp2_with fail
         refine ⟨⟨k + 1, by omega, by go_num, fun i hi => ?_, hW.2⟩, by simp [intOf]; omega⟩
         by_cases hik : i = k
         ·rw [hik]; exact HF.out
         ·exact HA.out i (by omega)
       ·obtain ⟨j, hj⟩ : ∃ j, j + 1 = k := ⟨k - 1, by omega⟩
        have hjl : j < l.length := by have := HN.out; omega
        have HY : Hid (∀ W, All W [.cells gx 64 (ksC x), .cells ge 25 (envC kind Ap np cp (some ad) ns cs), .low (.kss B (some ad) ns l), .kept w w.heap.size] → ∀ q s, (ksC l[j])[q]? = some s → W.cell? ((ad.add (j * 20)).add q) = some s) := Lib.hid (fun W hW => by
         obtain ⟨a', e, -, hc⟩ := Els.elem (hW.at_ 2 rfl : Kss W B (some ad) ns l ∧ _).1.els hjl
         obtain rfl := Option.some.inj e
         exact hc)
        have hy := Lib.hid (HJD.out j hjl)
        have HO4 : Hid (okK l k = lessD (idK l[j]) (idK x)) := Lib.hid (HO3.out HSK.out j hjl hj)
        generalize l[j] = y at *
        have d2 : decide (0 < (k : Int)) = true := by simp; omega
        have d3 : decide (0 < k) = true := by simp; omega
        have w1 : IntKind.i64.wrap ((k : Int) - 1) = (j : Int) := by rw [IntWalk.i64_in _ (by omega)]; omega
        have wj1 : (0 : Int) ≤ (j : Int) := by omega
        have wj2 : (j : Int) < (ns : Int) := by omega
        have wj3 : ((j : Int)).toNat = j := by omega
        have HK := Lib.hid hj
        clear hj hk0
        obtain ⟨v, hv⟩ : ∃ v, Lib.compareBytes (idK y) (idK x) = v := ⟨_, rfl⟩
        have HV := Lib.hid hv
        have HL : Hid (lessD (idK y) (idK x) = decide (v < 0)) := Lib.hid (by rw [lessD, hv])
        clear hv
        cases hb : decide (v < 0) with
        | false =>
         have HF : Hid (validK kind np l = false) := Lib.hid (by rw [HVK.out]; exact okKs_no hkl (by rw [HO4.out, HL.out, hb]))
         have d7 : decide (0 ≤ v) = true := by have := of_decide_eq_false hb; simp; omega
         clear hb
         refine wp_region_hopsH 22 (29 :: 30 :: 31 :: 32 :: 33 :: 34 :: 35 :: 36 :: 37 :: 38 :: 39 :: 40 :: 41 :: 42 :: 43 :: 44 :: 45 :: 46 :: 47 :: 48 :: 49 :: 50 :: []) _
          (.eq (.pointer (some ⟨gx, 0, none⟩)) :: .eq (.agg (pkCells x.h x.r).toArray) :: .eq (.pointer (some ⟨gx, 17, none⟩)) :: .eq (.agg (sgCells x.leaf x.Ac x.chain.length x.cc x.Ap x.path.length x.cp).toArray) :: .eq (.bool true) :: .eq (.bool false) :: .eq (.bool false) :: .eq (.int .i64 k) :: .eq (.bool true) :: .eq (.bool true) :: .eq (.pointer (some ⟨ge, 2, none⟩)) :: .eq (.slice (some ad) ns cs) :: .eq (.int .i64 k) :: .eq (.int .i64 j) :: .eq (.pointer (some (ad.add (j * 20)))) :: .eq (.agg (ksC y).toArray) :: .eq (.pointer (some ⟨gx, 0, none⟩)) :: .eq (.agg (pkCells x.h x.r).toArray) :: .eq (.agg ((idK x).map bv).toArray) :: .eq (.int .i64 v) :: .eq (.bool true) :: .eq (.bool true) :: [])
          (by kernel_rfl) (by kernel_rfl) hW2 rfl ?hops ?fin
         case hops =>
          refine ⟨?_, ?_, ?_, ?_, ?_, ?_, ?_, ?_, ?_, ?_, ?_, ?_, ?_, ?_, ?_, ?_, ?_, ?_, ?_, ?_, ?_, ?_, trivial⟩
          ·intro a W hW hb hd K hK
           have b4 := hb 4 rfl
           go_simp
           exact hK _ _ (World.grownBy.refl _ _) rfl
          ·intro a W hW hb hd K hK
           have b29 : a.tmps[29]?.getD undef = _ := hd ⟨0, .data⟩ (by simp) rfl
           refine wp_load_any 62 (.tmp 29) rfl ⟨gx, 0, none⟩ (show a.eval (.tmp 29) = _ from by simp only [Act.eval, Array.getD_eq_getD_getElem?]; exact b29) (pkCells x.h x.r) _ (Cells.sub (hW.at_ 0 rfl) 0 (ks_pk x)) Try.underlying62 rfl (by rw [pkLen hx.out]; kernel_rfl) ?_
           exact hK _ _ (World.grownBy.refl _ _) rfl
          ·intro a W hW hb hd K hK
           have b4 := hb 4 rfl
           go_simp
           exact hK _ _ (World.grownBy.refl _ _) rfl
          ·intro a W hW hb hd K hK
           have b31 : a.tmps[31]?.getD undef = _ := hd ⟨2, .data⟩ (by simp) rfl
           refine wp_load_any 60 (.tmp 31) rfl ⟨gx, 17, none⟩ (show a.eval (.tmp 31) = _ from by simp only [Act.eval, Array.getD_eq_getD_getElem?]; exact b31) (sgCells x.leaf x.Ac x.chain.length x.cc x.Ap x.path.length x.cp) _ (Cells.sub (hW.at_ 0 rfl) 17 (ks_sg hx.out)) Try.underlying60 rfl (by kernel_rfl) ?_
           exact hK _ _ (World.grownBy.refl _ _) rfl
          ·intro a W hW hb hd K hK
           have b30 : a.tmps[30]?.getD undef = _ := hd ⟨1, .data⟩ (by simp) rfl
           have b32 : a.tmps[32]?.getD undef = _ := hd ⟨3, .data⟩ (by simp) rfl
           go_simp
           refine (Shaped_any W x.r hx.out x.leaf x.Ac x.chain.length x.cc x.Ap x.path.length x.cp x.h).mono ?_
           rintro e w' ⟨rfl, hb'⟩
           exact hK _ _ (grown_of_below hb') (congrArg Value.bool HS.out)
          ·intro a W hW hb hd K hK
           have b33 : a.tmps[33]?.getD undef = _ := hd ⟨4, .data⟩ (by simp) rfl
           go_simp
           exact hK _ _ (World.grownBy.refl _ _) rfl
          ·intro a W hW hb hd K hK
           have b34 : a.tmps[34]?.getD undef = _ := hd ⟨5, .data⟩ (by simp) rfl
           go_simp
           exact hK _ _ (World.grownBy.refl _ _) rfl
          ·refine Or.inl ⟨fun v w h => h, ?_⟩
           intro a W hW hb hd K hK
           have b3 := hb 3 rfl
           go_simp
           exact hK _ _ (World.grownBy.refl _ _) rfl
          ·refine Or.inl ⟨fun v w h => h, ?_⟩
           intro a W hW hb hd K hK
           have b36 : a.tmps[36]?.getD undef = _ := hd ⟨7, .data⟩ (by simp) rfl
           go_simp
           exact hK _ _ (World.grownBy.refl _ _) rfl
          ·refine Or.inl ⟨fun v w h => h, ?_⟩
           intro a W hW hb hd K hK
           have b37 : a.tmps[37]?.getD undef = _ := hd ⟨8, .data⟩ (by simp) rfl
           go_simp
           exact hK _ _ (World.grownBy.refl _ _) rfl
          ·refine Or.inl ⟨fun v w h => h, ?_⟩
           intro a W hW hb hd K hK
           have b1 := hb 1 rfl
           go_simp
           exact hK _ _ (World.grownBy.refl _ _) rfl
          ·refine Or.inl ⟨fun v w h => h, ?_⟩
           intro a W hW hb hd K hK
           have b39 : a.tmps[39]?.getD undef = _ := hd ⟨10, .data⟩ (by simp) rfl
           have q1 := (env_cells _ _ _ _ _ _ _ (hW.at_ 1 rfl)).2.2
           go_simp
           exact hK _ _ (World.grownBy.refl _ _) rfl
          ·refine Or.inl ⟨fun v w h => h, ?_⟩
           intro a W hW hb hd K hK
           have b3 := hb 3 rfl
           go_simp
           exact hK _ _ (World.grownBy.refl _ _) rfl
          ·refine Or.inl ⟨fun v w h => h, ?_⟩
           intro a W hW hb hd K hK
           have b41 : a.tmps[41]?.getD undef = _ := hd ⟨12, .data⟩ (by simp) rfl
           go_simp
           exact hK _ _ (World.grownBy.refl _ _) rfl
          ·refine Or.inl ⟨fun v w h => h, ?_⟩
           intro a W hW hb hd K hK
           have b40 : a.tmps[40]?.getD undef = _ := hd ⟨11, .data⟩ (by simp) rfl
           have b42 : a.tmps[42]?.getD undef = _ := hd ⟨13, .data⟩ (by simp) rfl
           go_simp
           exact hK _ _ (World.grownBy.refl _ _) rfl
          ·refine Or.inl ⟨fun v w h => h, ?_⟩
           intro a W hW hb hd K hK
           have b43 : a.tmps[43]?.getD undef = _ := hd ⟨14, .data⟩ (by simp) rfl
           refine wp_load_any 64 (.tmp 43) rfl (ad.add (j * 20)) (show a.eval (.tmp 43) = _ from by simp only [Act.eval, Array.getD_eq_getD_getElem?]; exact b43) (ksC y) _ (HY.out W hW) Try.underlying64 rfl (by rw [ksC_len hy.out]; kernel_rfl) ?_
           exact hK _ _ (World.grownBy.refl _ _) rfl
          ·refine Or.inl ⟨fun v w h => h, ?_⟩
           intro a W hW hb hd K hK
           have b4 := hb 4 rfl
           go_simp
           exact hK _ _ (World.grownBy.refl _ _) rfl
          ·refine Or.inl ⟨fun v w h => h, ?_⟩
           intro a W hW hb hd K hK
           have b45 : a.tmps[45]?.getD undef = _ := hd ⟨16, .data⟩ (by simp) rfl
           refine wp_load_any 62 (.tmp 45) rfl ⟨gx, 0, none⟩ (show a.eval (.tmp 45) = _ from by simp only [Act.eval, Array.getD_eq_getD_getElem?]; exact b45) (pkCells x.h x.r) _ (Cells.sub (hW.at_ 0 rfl) 0 (ks_pk x)) Try.underlying62 rfl (by rw [pkLen hx.out]; kernel_rfl) ?_
           exact hK _ _ (World.grownBy.refl _ _) rfl
          ·refine Or.inl ⟨fun v w h => h, ?_⟩
           intro a W hW hb hd K hK
           have b46 : a.tmps[46]?.getD undef = _ := hd ⟨17, .data⟩ (by simp) rfl
           go_simp
           refine (ID_any W x.h x.r hx.out).mono ?_
           rintro e w' ⟨rfl, hb'⟩
           exact hK _ _ (grown_of_below hb') rfl
          ·refine Or.inl ⟨fun v w h => h, ?_⟩
           intro a W hW hb hd K hK
           have b44 : a.tmps[44]?.getD undef = _ := hd ⟨15, .data⟩ (by simp) rfl
           have b47 : a.tmps[47]?.getD undef = _ := hd ⟨18, .data⟩ (by simp) rfl
           go_simp
           refine (named_any W y (idK x) hy.out (idK_len x)).mono ?_
           rintro e w' ⟨rfl, hb'⟩
           exact hK _ _ (grown_of_below hb') (congrArg (Value.int .i64) HV.out)
          ·refine Or.inl ⟨fun v w h => h, ?_⟩
           intro a W hW hb hd K hK
           have b48 : a.tmps[48]?.getD undef = _ := hd ⟨19, .data⟩ (by simp) rfl
           go_simp
           exact hK _ _ (World.grownBy.refl _ _) rfl
          ·refine Or.inl ⟨fun v w h => h, ?_⟩
           intro a W hW hb hd K hK
           have b38 : a.tmps[38]?.getD undef = _ := hd ⟨9, .data⟩ (by simp) rfl
           have b49 : a.tmps[49]?.getD undef = _ := hd ⟨20, .data⟩ (by simp) rfl
           go_simp
           exact hK _ _ (World.grownBy.refl _ _) rfl
         case fin =>
          intro vs W hW hv
          have e6 : vs 6 = _ := hv 6 (by decide)
          have e21 : vs 21 = _ := hv 21 (by decide)
          clear hv
          simp only [putAll, List.drop_succ_cons, List.drop_zero, e6, e21, Act.put, List.setIfInBounds_toArray, List.set_cons_succ, List.set_cons_zero]
          clear e6 e21
          go_wp2_with fail
          go_ret
          exact ⟨ret_bool (by rw [HF.out]), (hW.at_ 3 rfl : _ ∧ _).1⟩
        | true =>
         have HF : Hid (okK l k = true) := Lib.hid (by rw [HO4.out, HL.out, hb])
         have d7 : decide (0 ≤ v) = false := by have := of_decide_eq_true hb; simp; omega
         clear hb
         refine wp_region_hopsH 22 (29 :: 30 :: 31 :: 32 :: 33 :: 34 :: 35 :: 36 :: 37 :: 38 :: 39 :: 40 :: 41 :: 42 :: 43 :: 44 :: 45 :: 46 :: 47 :: 48 :: 49 :: 50 :: []) _
          (.eq (.pointer (some ⟨gx, 0, none⟩)) :: .eq (.agg (pkCells x.h x.r).toArray) :: .eq (.pointer (some ⟨gx, 17, none⟩)) :: .eq (.agg (sgCells x.leaf x.Ac x.chain.length x.cc x.Ap x.path.length x.cp).toArray) :: .eq (.bool true) :: .eq (.bool false) :: .eq (.bool false) :: .eq (.int .i64 k) :: .eq (.bool true) :: .eq (.bool true) :: .eq (.pointer (some ⟨ge, 2, none⟩)) :: .eq (.slice (some ad) ns cs) :: .eq (.int .i64 k) :: .eq (.int .i64 j) :: .eq (.pointer (some (ad.add (j * 20)))) :: .eq (.agg (ksC y).toArray) :: .eq (.pointer (some ⟨gx, 0, none⟩)) :: .eq (.agg (pkCells x.h x.r).toArray) :: .eq (.agg ((idK x).map bv).toArray) :: .eq (.int .i64 v) :: .eq (.bool false) :: .eq (.bool false) :: [])
          (by kernel_rfl) (by kernel_rfl) hW2 rfl ?hops ?fin
         case hops =>
          refine ⟨?_, ?_, ?_, ?_, ?_, ?_, ?_, ?_, ?_, ?_, ?_, ?_, ?_, ?_, ?_, ?_, ?_, ?_, ?_, ?_, ?_, ?_, trivial⟩
          ·intro a W hW hb hd K hK
           have b4 := hb 4 rfl
           go_simp
           exact hK _ _ (World.grownBy.refl _ _) rfl
          ·intro a W hW hb hd K hK
           have b29 : a.tmps[29]?.getD undef = _ := hd ⟨0, .data⟩ (by simp) rfl
           refine wp_load_any 62 (.tmp 29) rfl ⟨gx, 0, none⟩ (show a.eval (.tmp 29) = _ from by simp only [Act.eval, Array.getD_eq_getD_getElem?]; exact b29) (pkCells x.h x.r) _ (Cells.sub (hW.at_ 0 rfl) 0 (ks_pk x)) Try.underlying62 rfl (by rw [pkLen hx.out]; kernel_rfl) ?_
           exact hK _ _ (World.grownBy.refl _ _) rfl
          ·intro a W hW hb hd K hK
           have b4 := hb 4 rfl
           go_simp
           exact hK _ _ (World.grownBy.refl _ _) rfl
          ·intro a W hW hb hd K hK
           have b31 : a.tmps[31]?.getD undef = _ := hd ⟨2, .data⟩ (by simp) rfl
           refine wp_load_any 60 (.tmp 31) rfl ⟨gx, 17, none⟩ (show a.eval (.tmp 31) = _ from by simp only [Act.eval, Array.getD_eq_getD_getElem?]; exact b31) (sgCells x.leaf x.Ac x.chain.length x.cc x.Ap x.path.length x.cp) _ (Cells.sub (hW.at_ 0 rfl) 17 (ks_sg hx.out)) Try.underlying60 rfl (by kernel_rfl) ?_
           exact hK _ _ (World.grownBy.refl _ _) rfl
          ·intro a W hW hb hd K hK
           have b30 : a.tmps[30]?.getD undef = _ := hd ⟨1, .data⟩ (by simp) rfl
           have b32 : a.tmps[32]?.getD undef = _ := hd ⟨3, .data⟩ (by simp) rfl
           go_simp
           refine (Shaped_any W x.r hx.out x.leaf x.Ac x.chain.length x.cc x.Ap x.path.length x.cp x.h).mono ?_
           rintro e w' ⟨rfl, hb'⟩
           exact hK _ _ (grown_of_below hb') (congrArg Value.bool HS.out)
          ·intro a W hW hb hd K hK
           have b33 : a.tmps[33]?.getD undef = _ := hd ⟨4, .data⟩ (by simp) rfl
           go_simp
           exact hK _ _ (World.grownBy.refl _ _) rfl
          ·intro a W hW hb hd K hK
           have b34 : a.tmps[34]?.getD undef = _ := hd ⟨5, .data⟩ (by simp) rfl
           go_simp
           exact hK _ _ (World.grownBy.refl _ _) rfl
          ·refine Or.inl ⟨fun v w h => h, ?_⟩
           intro a W hW hb hd K hK
           have b3 := hb 3 rfl
           go_simp
           exact hK _ _ (World.grownBy.refl _ _) rfl
          ·refine Or.inl ⟨fun v w h => h, ?_⟩
           intro a W hW hb hd K hK
           have b36 : a.tmps[36]?.getD undef = _ := hd ⟨7, .data⟩ (by simp) rfl
           go_simp
           exact hK _ _ (World.grownBy.refl _ _) rfl
          ·refine Or.inl ⟨fun v w h => h, ?_⟩
           intro a W hW hb hd K hK
           have b37 : a.tmps[37]?.getD undef = _ := hd ⟨8, .data⟩ (by simp) rfl
           go_simp
           exact hK _ _ (World.grownBy.refl _ _) rfl
          ·refine Or.inl ⟨fun v w h => h, ?_⟩
           intro a W hW hb hd K hK
           have b1 := hb 1 rfl
           go_simp
           exact hK _ _ (World.grownBy.refl _ _) rfl
          ·refine Or.inl ⟨fun v w h => h, ?_⟩
           intro a W hW hb hd K hK
           have b39 : a.tmps[39]?.getD undef = _ := hd ⟨10, .data⟩ (by simp) rfl
           have q1 := (env_cells _ _ _ _ _ _ _ (hW.at_ 1 rfl)).2.2
           go_simp
           exact hK _ _ (World.grownBy.refl _ _) rfl
          ·refine Or.inl ⟨fun v w h => h, ?_⟩
           intro a W hW hb hd K hK
           have b3 := hb 3 rfl
           go_simp
           exact hK _ _ (World.grownBy.refl _ _) rfl
          ·refine Or.inl ⟨fun v w h => h, ?_⟩
           intro a W hW hb hd K hK
           have b41 : a.tmps[41]?.getD undef = _ := hd ⟨12, .data⟩ (by simp) rfl
           go_simp
           exact hK _ _ (World.grownBy.refl _ _) rfl
          ·refine Or.inl ⟨fun v w h => h, ?_⟩
           intro a W hW hb hd K hK
           have b40 : a.tmps[40]?.getD undef = _ := hd ⟨11, .data⟩ (by simp) rfl
           have b42 : a.tmps[42]?.getD undef = _ := hd ⟨13, .data⟩ (by simp) rfl
           go_simp
           exact hK _ _ (World.grownBy.refl _ _) rfl
          ·refine Or.inl ⟨fun v w h => h, ?_⟩
           intro a W hW hb hd K hK
           have b43 : a.tmps[43]?.getD undef = _ := hd ⟨14, .data⟩ (by simp) rfl
           refine wp_load_any 64 (.tmp 43) rfl (ad.add (j * 20)) (show a.eval (.tmp 43) = _ from by simp only [Act.eval, Array.getD_eq_getD_getElem?]; exact b43) (ksC y) _ (HY.out W hW) Try.underlying64 rfl (by rw [ksC_len hy.out]; kernel_rfl) ?_
           exact hK _ _ (World.grownBy.refl _ _) rfl
          ·refine Or.inl ⟨fun v w h => h, ?_⟩
           intro a W hW hb hd K hK
           have b4 := hb 4 rfl
           go_simp
           exact hK _ _ (World.grownBy.refl _ _) rfl
          ·refine Or.inl ⟨fun v w h => h, ?_⟩
           intro a W hW hb hd K hK
           have b45 : a.tmps[45]?.getD undef = _ := hd ⟨16, .data⟩ (by simp) rfl
           refine wp_load_any 62 (.tmp 45) rfl ⟨gx, 0, none⟩ (show a.eval (.tmp 45) = _ from by simp only [Act.eval, Array.getD_eq_getD_getElem?]; exact b45) (pkCells x.h x.r) _ (Cells.sub (hW.at_ 0 rfl) 0 (ks_pk x)) Try.underlying62 rfl (by rw [pkLen hx.out]; kernel_rfl) ?_
           exact hK _ _ (World.grownBy.refl _ _) rfl
          ·refine Or.inl ⟨fun v w h => h, ?_⟩
           intro a W hW hb hd K hK
           have b46 : a.tmps[46]?.getD undef = _ := hd ⟨17, .data⟩ (by simp) rfl
           go_simp
           refine (ID_any W x.h x.r hx.out).mono ?_
           rintro e w' ⟨rfl, hb'⟩
           exact hK _ _ (grown_of_below hb') rfl
          ·refine Or.inl ⟨fun v w h => h, ?_⟩
           intro a W hW hb hd K hK
           have b44 : a.tmps[44]?.getD undef = _ := hd ⟨15, .data⟩ (by simp) rfl
           have b47 : a.tmps[47]?.getD undef = _ := hd ⟨18, .data⟩ (by simp) rfl
           go_simp
           refine (named_any W y (idK x) hy.out (idK_len x)).mono ?_
           rintro e w' ⟨rfl, hb'⟩
           exact hK _ _ (grown_of_below hb') (congrArg (Value.int .i64) HV.out)
          ·refine Or.inl ⟨fun v w h => h, ?_⟩
           intro a W hW hb hd K hK
           have b48 : a.tmps[48]?.getD undef = _ := hd ⟨19, .data⟩ (by simp) rfl
           go_simp
           exact hK _ _ (World.grownBy.refl _ _) rfl
          ·refine Or.inl ⟨fun v w h => h, ?_⟩
           intro a W hW hb hd K hK
           have b38 : a.tmps[38]?.getD undef = _ := hd ⟨9, .data⟩ (by simp) rfl
           have b49 : a.tmps[49]?.getD undef = _ := hd ⟨20, .data⟩ (by simp) rfl
           go_simp
           exact hK _ _ (World.grownBy.refl _ _) rfl
         case fin =>
          intro vs W hW hv
          have e6 : vs 6 = _ := hv 6 (by decide)
          have e21 : vs 21 = _ := hv 21 (by decide)
          clear hv
          simp only [putAll, List.drop_succ_cons, List.drop_zero, e6, e21, Act.put, List.setIfInBounds_toArray, List.set_cons_succ, List.set_cons_zero]
          clear e6 e21
          go_wp2_with fail
          refine ⟨⟨k + 1, by omega, by go_num, fun i hi => ?_, hW.2⟩, by simp [intOf]; omega⟩
          by_cases hik : i = k
          ·rw [hik]; exact HF.out
          ·exact HA.out i (by omega)
     ·have d1 : decide ((k : Int) < (ns : Int)) = false := by simp; omega
      have HF : Hid (validK kind np l = true) := Lib.hid (by rw [HVK.out]; exact okKs_all (fun i hi => HA.out i (by have := HN.out; omega)))
      go_wp2_with fail
      go_ret
      exact ⟨ret_bool (by rw [HF.out]), (hI.at_ 2 rfl : _ ∧ _).1⟩
   ·have d8 : decide (8 < (ns : Int)) = true := by simp; omega
    have d82 : decide (8 < ns) = true := by simp; omega
    have HF : Hid (validK kind np l = false) := Lib.hid (validK_many (by rw [HN.out]; exact h8))
    clear h8
    go_wp2_with (go_at_call 25; refine hnm.mono ?_; clear hnm; rintro e w2 ⟨rfl, rfl⟩)
    go_ret
    exact ⟨ret_bool (by rw [HF.out]), (hI0.at_ 2 rfl : _ ∧ _).1⟩
  ·have dp : decide (32768 < (np : Int)) = true := by simp; omega
   have dp2 : decide (32768 < np) = true := by simp; omega
   have HF : Hid (validK kind np l = false) := Lib.hid (validK_long hp)
   clear hp
   go_wp2_with (go_at_call 25; refine hnm.mono ?_; clear hnm; rintro e w2 ⟨rfl, rfl⟩)
   go_ret
   exact ⟨ret_bool (by rw [HF.out]), (hI0.at_ 2 rfl : _ ∧ _).1⟩

set_option maxHeartbeats 6400000 in
theorem refValidE_any (w : World) (B : Nat) (kind : ByteArray) (Ap : Option Addr) (np cp : Nat) (As : Option Addr) (ns cs : Nat) (l : List Ks) (hl : Kss w B As ns l) (hk : kind.size ≤ 140737488355328) (hnp : np ≤ 140737488355328) (hns : ns ≤ 140737488355328) (hB : B ≤ w.heap.size) :
  Calls Try.prog 12 #[.agg (envC kind Ap np cp As ns cs).toArray] w fun e w' => e = .returned (.bool (validK kind np l)) ∧ Below w.heap.size w w' := by
 have hR : All w [.low (.kss B As ns l), .kept w w.heap.size] := ⟨⟨hl, hB⟩, ⟨Below.refl _ _, Nat.le_refl _⟩, trivial⟩
 have HN := Lib.hid hl.len
 clear hl
 have hzr := zero_ks
 go_enter Try.func12, Try.ntmps12
 go_upto_region 1 with (fail)
 obtain ⟨ge, hge⟩ : ∃ g, g = w.heap.size := ⟨_, rfl⟩
 have hI0 := hR.new (l := envC kind Ap np cp As ns cs) _ 25 hge rfl
 simp only [← hge]
 have hgw : w.heap.size ≤ ge := by omega
 have hgB : B ≤ ge := by omega
 clear hR hge
 refine wp_gen hI0 ?_
 clear hI0
 intro W1 hI0
 obtain ⟨q0, q1, q2⟩ := env_cells _ _ _ _ _ _ _ (hI0.at_ 0 rfl)
 have hnm := refName_any kind W1 hk
 cases qn : nameB kind with
 | false =>
  have HF : Hid (validK kind np l = false) := Lib.hid (validK_name qn)
  rw [qn] at hnm
  clear qn
  go_wp2_with (go_at_call 29; refine hnm.mono ?_; clear hnm; rintro e w2 ⟨rfl, rfl⟩)
  go_ret
  exact ⟨ret_bool (by rw [HF.out]), (hI0.at_ 2 rfl : _ ∧ _).1⟩
 | true =>
  rw [qn] at hnm
  have HQ := Lib.hid qn
  clear qn
  by_cases hp : np ≤ 32768
  ·have dp : decide (32768 < (np : Int)) = false := by simp; omega
   have dp2 : decide (32768 < np) = false := by simp; omega
   by_cases h8 : ns ≤ 8
   ·have d8 : decide (8 < (ns : Int)) = false := by simp; omega
    have d82 : decide (8 < ns) = false := by simp; omega
    have HVK : Hid (validK kind np l = okKs l) := Lib.hid (validK_at HQ.out hp (by rw [HN.out]; exact h8))
    clear hp
    go_upto_region 4 with (go_at_call 29; refine hnm.mono ?_; clear hnm; rintro e w2 ⟨rfl, rfl⟩)
    clear q0 q1 q2 dp dp2 d8 d82
    go_wp2_with fail
    go_loopw [3] (fun i wr => ∃ (k : Nat), k ≤ ns ∧ i = .int .i64 k ∧ (∀ i < k, okK l i = true) ∧ All wr [.cells ge 25 (envC kind Ap np cp As ns cs), .low (.kss B As ns l), .kept w w.heap.size]) (fun i _ => ns - (intOf i).toNat)
    case atStart => exact ⟨0, by omega, rfl, fun i hi => absurd hi (by omega), hI0⟩
    case round =>
     obtain ⟨k, hk, rfl, hA, hI⟩ := hrel
     have HA := Lib.hid hA
     clear hA hI0
     have qe := (env_cells _ _ _ _ _ _ _ (hI.at_ 0 rfl)).2.2
     by_cases hlt : k < ns
     ·have hkl : k < l.length := by rw [HN.out]; exact hlt
      have hbl := (hI.at_ 1 rfl : Kss wr B As ns l ∧ B ≤ wr.heap.size)
      obtain ⟨ad, rfl, hadB, hc⟩ := Els.elem hbl.1.els hkl
      have HC := Lib.hid hc
      have hx := Lib.hid (hbl.1.each _ (List.getElem_mem hkl)).r16
      have HO1 : Hid (shK l[k] = false → okKs l = false) := Lib.hid (fun h => okKs_no hkl (okK_bad hkl h))
      have HO2 : Hid (shK l[k] = true → k = 0 → okK l k = true) := Lib.hid (fun h h0 => okK_zero hkl h h0)
      have HO3 : Hid (shK l[k] = true → ∀ j (hj : j < l.length), j + 1 = k → okK l k = lessD (idK l[j]) (idK l[k])) := Lib.hid (fun h j hj hjk => okK_next hkl hj hjk h)
      have HJD : Hid (∀ j (hjl : j < l.length), l[j].r.length = 16) := Lib.hid (fun j hjl => (hbl.1.each _ (List.getElem_mem hjl)).r16)
      have hBr : B ≤ wr.heap.size := hbl.2
      clear hc hbl
      generalize l[k] = x at *
      have hsz : w.heap.size ≤ wr.heap.size := hI.size_kept 2 rfl
      have hgg : ge < wr.heap.size := Cells.lt (hI.at_ 0 rfl)
      have d1 : decide ((k : Int) < (ns : Int)) = true := by simp; omega
      have wk0 : (0 : Int) ≤ (k : Int) := by omega
      have wk1 : (k : Int) < (ns : Int) := by omega
      have wk2 : ((k : Int)).toNat = k := by omega
      obtain ⟨gx, hgx⟩ : ∃ gx, gx = wr.heap.size := ⟨_, rfl⟩
      go_upto_region 7 with (first
       | (refine wl_load_any rfl 64 (.tmp 31) rfl (ad.add (k * 20)) rfl (ksC x) _ HC.out Try.underlying64 rfl (by rw [ksC_len hx.out]; kernel_rfl) ?_)
       | (refine wl_store_at (hI.new (l := ksZ) _ 64 hgx rfl) 0 rfl 64 (.tmp 4) (.tmp 32) rfl gx _ _ (ksC x) rfl (by rw [hgx]; rfl) rfl (by rw [ksC_len hx.out]; rfl) (by rw [ksC_len hx.out]; kernel_rfl) (ksC_one x) ⟨fun e => (by injection e with e; omega), fun g' e => (by injection e with e; subst e; show B ≤ gx; omega), fun g' e => (by injection e with e; subst e; omega), trivial⟩ ?_; intro W2 hW2 hs2; simp only [List.set_cons_zero] at hW2))
      simp only [← hgx]
      clear hgx hI hgg hBr HC qe
      cases hsq : shK x with
      | false =>
       have HS : Hid (shapedB x.h x.leaf x.chain.length x.path.length = false) := Lib.hid hsq
       have HF : Hid (validK kind np l = false) := Lib.hid (by rw [HVK.out]; exact HO1.out hsq)
       clear hsq
       have hsh := refShaped_any W2 x.r hx.out x.leaf x.Ac x.chain.length x.cc x.Ap x.path.length x.cp x.h
       rw [HS.out] at hsh
       go_wp2_with (first
        | (refine wl_load_any rfl 62 (.tmp 33) rfl ⟨gx, 0, none⟩ rfl (pkCells x.h x.r) _ (Cells.sub (hW2.at_ 0 rfl) 0 (ks_pk x)) Try.underlying62 rfl (by rw [pkLen hx.out]; kernel_rfl) ?_)
        | (refine wl_load_any rfl 60 (.tmp 35) rfl ⟨gx, 17, none⟩ rfl (sgCells x.leaf x.Ac x.chain.length x.cc x.Ap x.path.length x.cp) _ (Cells.sub (hW2.at_ 0 rfl) 17 (ks_sg hx.out)) Try.underlying60 rfl (by kernel_rfl) ?_)
        | (go_at_call 30; refine hsh.mono ?_; clear hsh; rintro e w3 ⟨rfl, hb3⟩; have hW3 := hW2.call hb3; clear hW2 hb3))
       go_ret
       exact ⟨ret_bool (by rw [HF.out]), (hW3.at_ 3 rfl : _ ∧ _).1⟩
      | true =>
       have HS : Hid (shapedB x.h x.leaf x.chain.length x.path.length = true) := Lib.hid hsq
       have HSK := Lib.hid hsq
       clear hsq
       have hsh := refShaped_any W2 x.r hx.out x.leaf x.Ac x.chain.length x.cc x.Ap x.path.length x.cp x.h
       rw [HS.out] at hsh
       go_upto_region 9 with (first
        | (refine wl_load_any rfl 62 (.tmp 33) rfl ⟨gx, 0, none⟩ rfl (pkCells x.h x.r) _ (Cells.sub (hW2.at_ 0 rfl) 0 (ks_pk x)) Try.underlying62 rfl (by rw [pkLen hx.out]; kernel_rfl) ?_)
        | (refine wl_load_any rfl 60 (.tmp 35) rfl ⟨gx, 17, none⟩ rfl (sgCells x.leaf x.Ac x.chain.length x.cc x.Ap x.path.length x.cp) _ (Cells.sub (hW2.at_ 0 rfl) 17 (ks_sg hx.out)) Try.underlying60 rfl (by kernel_rfl) ?_)
        | (go_at_call 30; refine hsh.mono ?_; clear hsh; rintro e w3 ⟨rfl, hb3⟩; have hW3 := hW2.call hb3; clear hW2 hb3))
       have hW2 := hW3
       clear hW3
       by_cases hk0 : k = 0
       ·have HF : Hid (okK l k = true) := Lib.hid (HO2.out HSK.out hk0)
        have d2 : decide (0 < (k : Int)) = false := by simp; omega
        have d3 : decide (0 < k) = false := by simp; omega
        clear hk0
        refine wp_region_hopsH 16 (39 :: 40 :: 41 :: 42 :: 43 :: 44 :: 45 :: 46 :: 47 :: 48 :: 49 :: 50 :: 51 :: 52 :: 53 :: 54 :: []) _
         (.eq (.int .i64 k) :: .eq (.bool false) :: .eq (.bool false) :: .eq undef :: .eq undef :: .eq undef :: .eq undef :: .eq undef :: .eq undef :: .eq undef :: .eq undef :: .eq undef :: .eq undef :: .eq undef :: .eq undef :: .eq undef :: [])
         (by kernel_rfl) (by kernel_rfl) hW2 rfl ?hops ?fin
        case hops =>
         refine ⟨?_, ?_, ?_, ?_, ?_, ?_, ?_, ?_, ?_, ?_, ?_, ?_, ?_, ?_, ?_, ?_, trivial⟩
         ·intro a W hW hb hd K hK
          have b3 := hb 3 rfl
          go_simp
          exact hK _ _ (World.grownBy.refl _ _) rfl
         ·intro a W hW hb hd K hK
          have b39 : a.tmps[39]?.getD undef = _ := hd ⟨0, .data⟩ (by simp) rfl
          go_simp
          exact hK _ _ (World.grownBy.refl _ _) rfl
         ·intro a W hW hb hd K hK
          have b40 : a.tmps[40]?.getD undef = _ := hd ⟨1, .data⟩ (by simp) rfl
          go_simp
          exact hK _ _ (World.grownBy.refl _ _) rfl
         ·exact Or.inr ⟨fun v w h => by rw [show v = _ from h]; first | (intro h2; cases h2) | (simp [undef]), fun w => rfl⟩
         ·exact Or.inr ⟨fun v w h => by rw [show v = _ from h]; first | (intro h2; cases h2) | (simp [undef]), fun w => rfl⟩
         ·exact Or.inr ⟨fun v w h => by rw [show v = _ from h]; first | (intro h2; cases h2) | (simp [undef]), fun w => rfl⟩
         ·exact Or.inr ⟨fun v w h => by rw [show v = _ from h]; first | (intro h2; cases h2) | (simp [undef]), fun w => rfl⟩
         ·exact Or.inr ⟨fun v w h => by rw [show v = _ from h]; first | (intro h2; cases h2) | (simp [undef]), fun w => rfl⟩
         ·exact Or.inr ⟨fun v w h => by rw [show v = _ from h]; first | (intro h2; cases h2) | (simp [undef]), fun w => rfl⟩
         ·exact Or.inr ⟨fun v w h => by rw [show v = _ from h]; first | (intro h2; cases h2) | (simp [undef]), fun w => rfl⟩
         ·exact Or.inr ⟨fun v w h => by rw [show v = _ from h]; first | (intro h2; cases h2) | (simp [undef]), fun w => rfl⟩
         ·exact Or.inr ⟨fun v w h => by rw [show v = _ from h]; first | (intro h2; cases h2) | (simp [undef]), fun w => rfl⟩
         ·exact Or.inr ⟨fun v w h => by rw [show v = _ from h]; first | (intro h2; cases h2) | (simp [undef]), fun w => rfl⟩
         ·exact Or.inr ⟨fun v w h => by rw [show v = _ from h]; first | (intro h2; cases h2) | (simp [undef]), fun w => rfl⟩
         ·exact Or.inr ⟨fun v w h => by rw [show v = _ from h]; first | (intro h2; cases h2) | (simp [undef]), fun w => rfl⟩
         ·exact Or.inr ⟨fun v w h => by rw [show v = _ from h]; first | (intro h2; cases h2) | (simp [undef]), fun w => rfl⟩
        case fin =>
         intro vs W hW hv
         have e2 : vs 2 = _ := hv 2 (by decide)
         have e15 : vs 15 = _ := hv 15 (by decide)
         clear hv
         simp only [putAll, List.drop_succ_cons, List.drop_zero, e2, e15, Act.put, List.setIfInBounds_toArray, List.set_cons_succ, List.set_cons_zero]
         clear e2 e15
         have qe := (env_cells _ _ _ _ _ _ _ (hW.at_ 1 rfl)).2.2
         go_wp2_with fail
         refine ⟨⟨k + 1, by omega, by go_num, fun i hi => ?_, hW.2⟩, by simp [intOf]; omega⟩
         by_cases hik : i = k
         ·rw [hik]; exact HF.out
         ·exact HA.out i (by omega)
       ·obtain ⟨j, hj⟩ : ∃ j, j + 1 = k := ⟨k - 1, by omega⟩
        have hjl : j < l.length := by have := HN.out; omega
        have HY : Hid (∀ W, All W [.cells gx 64 (ksC x), .cells ge 25 (envC kind Ap np cp (some ad) ns cs), .low (.kss B (some ad) ns l), .kept w w.heap.size] → ∀ q s, (ksC l[j])[q]? = some s → W.cell? ((ad.add (j * 20)).add q) = some s) := Lib.hid (fun W hW => by
         obtain ⟨a', e, -, hc⟩ := Els.elem (hW.at_ 2 rfl : Kss W B (some ad) ns l ∧ _).1.els hjl
         obtain rfl := Option.some.inj e
         exact hc)
        have hy := Lib.hid (HJD.out j hjl)
        have HO4 : Hid (okK l k = lessD (idK l[j]) (idK x)) := Lib.hid (HO3.out HSK.out j hjl hj)
        generalize l[j] = y at *
        have d2 : decide (0 < (k : Int)) = true := by simp; omega
        have d3 : decide (0 < k) = true := by simp; omega
        have w1 : IntKind.i64.wrap ((k : Int) - 1) = (j : Int) := by rw [IntWalk.i64_in _ (by omega)]; omega
        have wj1 : (0 : Int) ≤ (j : Int) := by omega
        have wj2 : (j : Int) < (ns : Int) := by omega
        have wj3 : ((j : Int)).toNat = j := by omega
        have HK := Lib.hid hj
        clear hj hk0
        cases hb : lessD (idK y) (idK x) with
        | false =>
         have HV := Lib.hid hb
         have HF : Hid (validK kind np l = false) := Lib.hid (by rw [HVK.out]; exact okKs_no hkl (by rw [HO4.out, hb]))
         clear hb
         refine wp_region_hopsH 16 (39 :: 40 :: 41 :: 42 :: 43 :: 44 :: 45 :: 46 :: 47 :: 48 :: 49 :: 50 :: 51 :: 52 :: 53 :: 54 :: []) _
          (.eq (.int .i64 k) :: .eq (.bool true) :: .eq (.bool true) :: .eq (.pointer (some ⟨ge, 2, none⟩)) :: .eq (.slice (some ad) ns cs) :: .eq (.int .i64 k) :: .eq (.int .i64 j) :: .eq (.pointer (some (ad.add (j * 20)))) :: .eq (.pointer (some (ad.add (j * 20)))) :: .eq (.agg (pkCells y.h y.r).toArray) :: .eq (.agg ((idK y).map bv).toArray) :: .eq (.pointer (some ⟨gx, 0, none⟩)) :: .eq (.agg (pkCells x.h x.r).toArray) :: .eq (.agg ((idK x).map bv).toArray) :: .eq (.bool false) :: .eq (.bool true) :: [])
          (by kernel_rfl) (by kernel_rfl) hW2 rfl ?hops ?fin
         case hops =>
          refine ⟨?_, ?_, ?_, ?_, ?_, ?_, ?_, ?_, ?_, ?_, ?_, ?_, ?_, ?_, ?_, ?_, trivial⟩
          ·intro a W hW hb hd K hK
           have b3 := hb 3 rfl
           go_simp
           exact hK _ _ (World.grownBy.refl _ _) rfl
          ·intro a W hW hb hd K hK
           have b39 : a.tmps[39]?.getD undef = _ := hd ⟨0, .data⟩ (by simp) rfl
           go_simp
           exact hK _ _ (World.grownBy.refl _ _) rfl
          ·intro a W hW hb hd K hK
           have b40 : a.tmps[40]?.getD undef = _ := hd ⟨1, .data⟩ (by simp) rfl
           go_simp
           exact hK _ _ (World.grownBy.refl _ _) rfl
          ·refine Or.inl ⟨fun v w h => h, ?_⟩
           intro a W hW hb hd K hK
           have b1 := hb 1 rfl
           go_simp
           exact hK _ _ (World.grownBy.refl _ _) rfl
          ·refine Or.inl ⟨fun v w h => h, ?_⟩
           intro a W hW hb hd K hK
           have b42 : a.tmps[42]?.getD undef = _ := hd ⟨3, .data⟩ (by simp) rfl
           have q1 := (env_cells _ _ _ _ _ _ _ (hW.at_ 1 rfl)).2.2
           go_simp
           exact hK _ _ (World.grownBy.refl _ _) rfl
          ·refine Or.inl ⟨fun v w h => h, ?_⟩
           intro a W hW hb hd K hK
           have b3 := hb 3 rfl
           go_simp
           exact hK _ _ (World.grownBy.refl _ _) rfl
          ·refine Or.inl ⟨fun v w h => h, ?_⟩
           intro a W hW hb hd K hK
           have b44 : a.tmps[44]?.getD undef = _ := hd ⟨5, .data⟩ (by simp) rfl
           go_simp
           exact hK _ _ (World.grownBy.refl _ _) rfl
          ·refine Or.inl ⟨fun v w h => h, ?_⟩
           intro a W hW hb hd K hK
           have b43 : a.tmps[43]?.getD undef = _ := hd ⟨4, .data⟩ (by simp) rfl
           have b45 : a.tmps[45]?.getD undef = _ := hd ⟨6, .data⟩ (by simp) rfl
           go_simp
           exact hK _ _ (World.grownBy.refl _ _) rfl
          ·refine Or.inl ⟨fun v w h => h, ?_⟩
           intro a W hW hb hd K hK
           have b46 : a.tmps[46]?.getD undef = _ := hd ⟨7, .data⟩ (by simp) rfl
           go_simp
           exact hK _ _ (World.grownBy.refl _ _) (by first | rfl | (rw [add_zero]; rfl) | (simp [add_zero]; rfl))
          ·refine Or.inl ⟨fun v w h => h, ?_⟩
           intro a W hW hb hd K hK
           have b47 : a.tmps[47]?.getD undef = _ := hd ⟨8, .data⟩ (by simp) rfl
           refine wp_load_any 62 (.tmp 47) rfl (ad.add (j * 20)) (show a.eval (.tmp 47) = _ from by simp only [Act.eval, Array.getD_eq_getD_getElem?]; exact b47) (pkCells y.h y.r) _ (fun q s hs => HY.out W hW q s (by have := ks_pk y q s hs; rwa [Nat.zero_add] at this)) Try.underlying62 rfl (by rw [pkLen hy.out]; kernel_rfl) ?_
           exact hK _ _ (World.grownBy.refl _ _) rfl
          ·refine Or.inl ⟨fun v w h => h, ?_⟩
           intro a W hW hb hd K hK
           have b48 : a.tmps[48]?.getD undef = _ := hd ⟨9, .data⟩ (by simp) rfl
           go_simp
           refine (refID_any W y.h y.r hy.out).mono ?_
           rintro e w' ⟨rfl, hb'⟩
           exact hK _ _ (grown_of_below hb') rfl
          ·refine Or.inl ⟨fun v w h => h, ?_⟩
           intro a W hW hb hd K hK
           have b4 := hb 4 rfl
           go_simp
           exact hK _ _ (World.grownBy.refl _ _) rfl
          ·refine Or.inl ⟨fun v w h => h, ?_⟩
           intro a W hW hb hd K hK
           have b50 : a.tmps[50]?.getD undef = _ := hd ⟨11, .data⟩ (by simp) rfl
           refine wp_load_any 62 (.tmp 50) rfl ⟨gx, 0, none⟩ (show a.eval (.tmp 50) = _ from by simp only [Act.eval, Array.getD_eq_getD_getElem?]; exact b50) (pkCells x.h x.r) _ (Cells.sub (hW.at_ 0 rfl) 0 (ks_pk x)) Try.underlying62 rfl (by rw [pkLen hx.out]; kernel_rfl) ?_
           exact hK _ _ (World.grownBy.refl _ _) rfl
          ·refine Or.inl ⟨fun v w h => h, ?_⟩
           intro a W hW hb hd K hK
           have b51 : a.tmps[51]?.getD undef = _ := hd ⟨12, .data⟩ (by simp) rfl
           go_simp
           refine (refID_any W x.h x.r hx.out).mono ?_
           rintro e w' ⟨rfl, hb'⟩
           exact hK _ _ (grown_of_below hb') rfl
          ·refine Or.inl ⟨fun v w h => h, ?_⟩
           intro a W hW hb hd K hK
           have b49 : a.tmps[49]?.getD undef = _ := hd ⟨10, .data⟩ (by simp) rfl
           have b52 : a.tmps[52]?.getD undef = _ := hd ⟨13, .data⟩ (by simp) rfl
           go_simp
           refine (Less_any W (idK y) (idK x) (idK_len y) (idK_len x)).mono ?_
           rintro e w' ⟨rfl, hb'⟩
           exact hK _ _ (grown_of_below hb') (congrArg Value.bool HV.out)
          ·refine Or.inl ⟨fun v w h => h, ?_⟩
           intro a W hW hb hd K hK
           have b53 : a.tmps[53]?.getD undef = _ := hd ⟨14, .data⟩ (by simp) rfl
           go_simp
           exact hK _ _ (World.grownBy.refl _ _) rfl
         case fin =>
          intro vs W hW hv
          have e2 : vs 2 = _ := hv 2 (by decide)
          have e15 : vs 15 = _ := hv 15 (by decide)
          clear hv
          simp only [putAll, List.drop_succ_cons, List.drop_zero, e2, e15, Act.put, List.setIfInBounds_toArray, List.set_cons_succ, List.set_cons_zero]
          clear e2 e15
          go_wp2_with fail
          go_ret
          exact ⟨ret_bool (by rw [HF.out]), (hW.at_ 3 rfl : _ ∧ _).1⟩
        | true =>
         have HV := Lib.hid hb
         have HF : Hid (okK l k = true) := Lib.hid (by rw [HO4.out, hb])
         clear hb
         refine wp_region_hopsH 16 (39 :: 40 :: 41 :: 42 :: 43 :: 44 :: 45 :: 46 :: 47 :: 48 :: 49 :: 50 :: 51 :: 52 :: 53 :: 54 :: []) _
          (.eq (.int .i64 k) :: .eq (.bool true) :: .eq (.bool true) :: .eq (.pointer (some ⟨ge, 2, none⟩)) :: .eq (.slice (some ad) ns cs) :: .eq (.int .i64 k) :: .eq (.int .i64 j) :: .eq (.pointer (some (ad.add (j * 20)))) :: .eq (.pointer (some (ad.add (j * 20)))) :: .eq (.agg (pkCells y.h y.r).toArray) :: .eq (.agg ((idK y).map bv).toArray) :: .eq (.pointer (some ⟨gx, 0, none⟩)) :: .eq (.agg (pkCells x.h x.r).toArray) :: .eq (.agg ((idK x).map bv).toArray) :: .eq (.bool true) :: .eq (.bool false) :: [])
          (by kernel_rfl) (by kernel_rfl) hW2 rfl ?hops ?fin
         case hops =>
          refine ⟨?_, ?_, ?_, ?_, ?_, ?_, ?_, ?_, ?_, ?_, ?_, ?_, ?_, ?_, ?_, ?_, trivial⟩
          ·intro a W hW hb hd K hK
           have b3 := hb 3 rfl
           go_simp
           exact hK _ _ (World.grownBy.refl _ _) rfl
          ·intro a W hW hb hd K hK
           have b39 : a.tmps[39]?.getD undef = _ := hd ⟨0, .data⟩ (by simp) rfl
           go_simp
           exact hK _ _ (World.grownBy.refl _ _) rfl
          ·intro a W hW hb hd K hK
           have b40 : a.tmps[40]?.getD undef = _ := hd ⟨1, .data⟩ (by simp) rfl
           go_simp
           exact hK _ _ (World.grownBy.refl _ _) rfl
          ·refine Or.inl ⟨fun v w h => h, ?_⟩
           intro a W hW hb hd K hK
           have b1 := hb 1 rfl
           go_simp
           exact hK _ _ (World.grownBy.refl _ _) rfl
          ·refine Or.inl ⟨fun v w h => h, ?_⟩
           intro a W hW hb hd K hK
           have b42 : a.tmps[42]?.getD undef = _ := hd ⟨3, .data⟩ (by simp) rfl
           have q1 := (env_cells _ _ _ _ _ _ _ (hW.at_ 1 rfl)).2.2
           go_simp
           exact hK _ _ (World.grownBy.refl _ _) rfl
          ·refine Or.inl ⟨fun v w h => h, ?_⟩
           intro a W hW hb hd K hK
           have b3 := hb 3 rfl
           go_simp
           exact hK _ _ (World.grownBy.refl _ _) rfl
          ·refine Or.inl ⟨fun v w h => h, ?_⟩
           intro a W hW hb hd K hK
           have b44 : a.tmps[44]?.getD undef = _ := hd ⟨5, .data⟩ (by simp) rfl
           go_simp
           exact hK _ _ (World.grownBy.refl _ _) rfl
          ·refine Or.inl ⟨fun v w h => h, ?_⟩
           intro a W hW hb hd K hK
           have b43 : a.tmps[43]?.getD undef = _ := hd ⟨4, .data⟩ (by simp) rfl
           have b45 : a.tmps[45]?.getD undef = _ := hd ⟨6, .data⟩ (by simp) rfl
           go_simp
           exact hK _ _ (World.grownBy.refl _ _) rfl
          ·refine Or.inl ⟨fun v w h => h, ?_⟩
           intro a W hW hb hd K hK
           have b46 : a.tmps[46]?.getD undef = _ := hd ⟨7, .data⟩ (by simp) rfl
           go_simp
           exact hK _ _ (World.grownBy.refl _ _) (by first | rfl | (rw [add_zero]; rfl) | (simp [add_zero]; rfl))
          ·refine Or.inl ⟨fun v w h => h, ?_⟩
           intro a W hW hb hd K hK
           have b47 : a.tmps[47]?.getD undef = _ := hd ⟨8, .data⟩ (by simp) rfl
           refine wp_load_any 62 (.tmp 47) rfl (ad.add (j * 20)) (show a.eval (.tmp 47) = _ from by simp only [Act.eval, Array.getD_eq_getD_getElem?]; exact b47) (pkCells y.h y.r) _ (fun q s hs => HY.out W hW q s (by have := ks_pk y q s hs; rwa [Nat.zero_add] at this)) Try.underlying62 rfl (by rw [pkLen hy.out]; kernel_rfl) ?_
           exact hK _ _ (World.grownBy.refl _ _) rfl
          ·refine Or.inl ⟨fun v w h => h, ?_⟩
           intro a W hW hb hd K hK
           have b48 : a.tmps[48]?.getD undef = _ := hd ⟨9, .data⟩ (by simp) rfl
           go_simp
           refine (refID_any W y.h y.r hy.out).mono ?_
           rintro e w' ⟨rfl, hb'⟩
           exact hK _ _ (grown_of_below hb') rfl
          ·refine Or.inl ⟨fun v w h => h, ?_⟩
           intro a W hW hb hd K hK
           have b4 := hb 4 rfl
           go_simp
           exact hK _ _ (World.grownBy.refl _ _) rfl
          ·refine Or.inl ⟨fun v w h => h, ?_⟩
           intro a W hW hb hd K hK
           have b50 : a.tmps[50]?.getD undef = _ := hd ⟨11, .data⟩ (by simp) rfl
           refine wp_load_any 62 (.tmp 50) rfl ⟨gx, 0, none⟩ (show a.eval (.tmp 50) = _ from by simp only [Act.eval, Array.getD_eq_getD_getElem?]; exact b50) (pkCells x.h x.r) _ (Cells.sub (hW.at_ 0 rfl) 0 (ks_pk x)) Try.underlying62 rfl (by rw [pkLen hx.out]; kernel_rfl) ?_
           exact hK _ _ (World.grownBy.refl _ _) rfl
          ·refine Or.inl ⟨fun v w h => h, ?_⟩
           intro a W hW hb hd K hK
           have b51 : a.tmps[51]?.getD undef = _ := hd ⟨12, .data⟩ (by simp) rfl
           go_simp
           refine (refID_any W x.h x.r hx.out).mono ?_
           rintro e w' ⟨rfl, hb'⟩
           exact hK _ _ (grown_of_below hb') rfl
          ·refine Or.inl ⟨fun v w h => h, ?_⟩
           intro a W hW hb hd K hK
           have b49 : a.tmps[49]?.getD undef = _ := hd ⟨10, .data⟩ (by simp) rfl
           have b52 : a.tmps[52]?.getD undef = _ := hd ⟨13, .data⟩ (by simp) rfl
           go_simp
           refine (Less_any W (idK y) (idK x) (idK_len y) (idK_len x)).mono ?_
           rintro e w' ⟨rfl, hb'⟩
           exact hK _ _ (grown_of_below hb') (congrArg Value.bool HV.out)
          ·refine Or.inl ⟨fun v w h => h, ?_⟩
           intro a W hW hb hd K hK
           have b53 : a.tmps[53]?.getD undef = _ := hd ⟨14, .data⟩ (by simp) rfl
           go_simp
           exact hK _ _ (World.grownBy.refl _ _) rfl
         case fin =>
          intro vs W hW hv
          have e2 : vs 2 = _ := hv 2 (by decide)
          have e15 : vs 15 = _ := hv 15 (by decide)
          clear hv
          simp only [putAll, List.drop_succ_cons, List.drop_zero, e2, e15, Act.put, List.setIfInBounds_toArray, List.set_cons_succ, List.set_cons_zero]
          clear e2 e15
          have qe := (env_cells _ _ _ _ _ _ _ (hW.at_ 1 rfl)).2.2
          go_wp2_with fail
          refine ⟨⟨k + 1, by omega, by go_num, fun i hi => ?_, hW.2⟩, by simp [intOf]; omega⟩
          by_cases hik : i = k
          ·rw [hik]; exact HF.out
          ·exact HA.out i (by omega)
     ·have d1 : decide ((k : Int) < (ns : Int)) = false := by simp; omega
      have HF : Hid (validK kind np l = true) := Lib.hid (by rw [HVK.out]; exact okKs_all (fun i hi => HA.out i (by have := HN.out; omega)))
      go_wp2_with fail
      go_ret
      exact ⟨ret_bool (by rw [HF.out]), (hI.at_ 2 rfl : _ ∧ _).1⟩
   ·have d8 : decide (8 < (ns : Int)) = true := by simp; omega
    have d82 : decide (8 < ns) = true := by simp; omega
    have HF : Hid (validK kind np l = false) := Lib.hid (validK_many (by rw [HN.out]; exact h8))
    clear h8
    go_wp2_with (go_at_call 29; refine hnm.mono ?_; clear hnm; rintro e w2 ⟨rfl, rfl⟩)
    go_ret
    exact ⟨ret_bool (by rw [HF.out]), (hI0.at_ 2 rfl : _ ∧ _).1⟩
  ·have dp : decide (32768 < (np : Int)) = true := by simp; omega
   have dp2 : decide (32768 < np) = true := by simp; omega
   have HF : Hid (validK kind np l = false) := Lib.hid (validK_long hp)
   clear hp
   go_wp2_with (go_at_call 29; refine hnm.mono ?_; clear hnm; rintro e w2 ⟨rfl, rfl⟩)
   go_ret
   exact ⟨ret_bool (by rw [HF.out]), (hI0.at_ 2 rfl : _ ∧ _).1⟩
end Go.Proofs.Ytfakjamocpamiaa

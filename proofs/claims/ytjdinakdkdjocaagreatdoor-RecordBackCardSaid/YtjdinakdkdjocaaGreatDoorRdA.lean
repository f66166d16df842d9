/- The readers of records: a line of a snapshot. The readers of records: a line of a variable. The readers of records: the first two lines. Lines taken off one by one: plain Lean. Reading a record: the state of the reader, kept by each step. What the decoding of a record answers: plain Lean. -/
import Derived.Test.YtjdinakdkdjocaaGreatDoorRdTR
import Derived.Test.YtjdinakdkdjocaaGreatDoorRecD
import Derived.Test.YtjdinakdkdjocaaGreatDoorParQ
import Derived.Test.YtjdinakdkdjocaaGreatDoorLit2
import Derived.Test.YtjdinakdkdjocaaGreatDoorRec2
import Derived.Test.YtjdinakdkdjocaaGreatDoorMade
import Derived.Test.YtjdinakdkdjocaaGreatDoorFreA
import Derived.Test.YtjdinakdkdjocaaGreatDoorNum2
import Derived.Test.YtjdinakdkdjocaaGreatDoorTapA
import Derived.Test.YtjdinakdkdjocaaGreatDoorDecF
set_option linter.unusedSimpArgs false
set_option linter.unusedVariables false
set_option maxRecDepth 100000
namespace Go.AdR
open Go Go.RowKit Go.Adm
def Low.strs (B : Nat) (A : Option Addr) (n : Nat) (l : List ByteArray) : Low := ⟨B, fun w => Strs w B A n l, fun _ _ hk h => h.keep hk⟩
def entOf : List ByteArray → Option E
  | [p, d] => (AdP.parseD d.data.toList).map fun v => ⟨p, v⟩
  | _ => none
def entD (l : List ByteArray) : E := match l with
  | [p, d] => ⟨p, AdP.parsed d.data.toList⟩
  | _ => ⟨ByteArray.empty, z32⟩
theorem entOf_two (p d : ByteArray) : (entOf [p, d]).isSome = (AdP.parseD d.data.toList).isSome := by
  simp [entOf]
end Go.AdR
namespace Go.Proofs.YtjdinakdkdjocaaGreatDoor
open Go Go.RowKit Go.Adm Go.AdR
theorem zero_dig (w : World) : (zeroValue 68).run Tryz.prog w = .ok (.agg (List.replicate 32 (Value.int .u8 0)).toArray) w := by kernel_rfl
set_option maxHeartbeats 3200000 in
theorem entry_any (w : World) (gr B : Nat) (A : Option Addr) (n c : Nat) (l : List ByteArray) (cs : List Value) (bad : Bool) (hcl : cs.length = 9) (hc8 : cs[8]? = some (.bool bad)) (rs : List Res) (hR : All w (.low (Go.AdR.Low.strs B A n l) :: .cells gr 64 cs :: rs)) (hB : B ≤ gr) (hap : ∀ g, g = gr ∨ w.heap.size ≤ g → Apart (some g) rs) :
    Calls Tryz.prog 24 #[.pointer (some ⟨gr, 0, none⟩), .slice A n c] w fun e w' => e = .returned (.agg (entC (entD l)).toArray) ∧ All w' (.low (Go.AdR.Low.strs B A n l) :: .cells gr 64 (cs.set 8 (.bool (bad || !(entOf l).isSome))) :: rs) ∧ w.heap.size ≤ w'.heap.size := by
  have hgr := Cells.lt (hR.at_ 1 rfl)
  have hl := (hR.at_ 0 rfl : Strs w B A n l ∧ _).1
  have hn := hl.len
  have HAP := Lib.hid hap
  have HC8 := Lib.hid hc8
  have HCL := Lib.hid hcl
  have hzr := zero_ent
  have hzd := zero_dig
  clear hap hc8 hcl
  have HR1 := hR.new (l := entZ) entZ.toArray 70 (g := w.heap.size) rfl rfl
  clear hR
  by_cases h2 : n = 2
  · subst h2
    obtain ⟨p, d, rfl⟩ : ∃ p d, l = [p, d] := by
      match l, hn with
      | [p, d], _ => exact ⟨p, d, rfl⟩
      | [], hn => simp at hn
      | [_], hn => simp at hn
      | _ :: _ :: _ :: _, hn => simp at hn
    obtain ⟨ad, rfl, hadB, -, -⟩ := hl.at_ (k := 0) (by simp)
    have HPZ := Lib.hid (hl.small p (by simp))
    clear hl hn
    have HS0 : Hid (∀ W, Strs W B (some ad) 2 [p, d] → W.cell? ad = some (.string p) ∧ W.cell? ⟨ad.block, ad.off + 1, none⟩ = some (.string d)) := Lib.hid (fun W h => by
      obtain ⟨ad', e, _, s0, _⟩ := h.at_ (k := 0) (by simp)
      injection e with e
      subst e
      obtain ⟨ad', e, _, s1, _⟩ := h.at_ (k := 1) (by simp)
      injection e with e
      subst e
      rw [add_zero] at s0
      exact ⟨s0, s1⟩)
    obtain ⟨pd, hpd⟩ : ∃ x, x = AdP.parsed d.data.toList := ⟨_, rfl⟩
    obtain ⟨ok, hok⟩ : ∃ b, b = (AdP.parseD d.data.toList).isSome := ⟨_, rfl⟩
    have HPA : Hid (∀ W, Calls Tryz.prog 55 #[.string d] W fun e w' => e = .returned (.tuple #[.agg (pd.map bv).toArray, .bool ok]) ∧ Below W.heap.size W w') := Lib.hid (fun W => by rw [hpd, hok]; exact Parse_any d W)
    have HPL : Hid (pd.length = 32) := Lib.hid (by rw [hpd]; exact AdP.parsed_len _)
    have HED : Hid (entD [p, d] = ⟨p, pd⟩ ∧ (entOf [p, d]).isSome = ok) := Lib.hid ⟨by rw [hpd]; rfl, by rw [hok]; exact entOf_two p d⟩
    clear hpd hok
    go_enter Tryz.func24, Tryz.ntmps24
    go_upto_region 1 with (fail)
    refine wp_gen HR1 ?_
    clear HR1 hzr
    intro W hW
    have s1 := (HS0.out W (hW.at_ 1 rfl : _ ∧ _).1).2
    have hsW := Cells.lt (hW.at_ 0 rfl)
    go_upto_region 5 with (first
      | (go_at_call 55; refine (HPA.out _).mono ?_; rintro e w2 ⟨rfl, hb2⟩; have hW2 := hW.call hb2; have hs2 := hb2.size; clear hW s1 hb2)
      | (refine wl_store_at (hW2.new (l := List.replicate 32 (Value.int .u8 0)) (List.replicate 32 (Value.int .u8 0)).toArray 68 (g := w2.heap.size) rfl (by simp)) 0 rfl 68 (.tmp 5) (.tmp 19) rfl w2.heap.size _ (List.replicate 32 (Value.int .u8 0)) (pd.map bv) rfl rfl rfl (by rw [List.length_map, HPL.out]; rfl) (by rw [List.length_map, HPL.out]; kernel_rfl) (bv_one _) ⟨fun e => by injection e with e; omega, fun g e => (by injection e with e; subst e; show B ≤ _; omega), fun e => by injection e with e; omega, HAP.out w2.heap.size (.inr (by omega))⟩ ?_; intro W3 hW3 hs3))
    simp only [List.set_cons_zero] at hW3
    obtain ⟨g5, hg5⟩ : ∃ g, g = w2.heap.size := ⟨_, rfl⟩
    have hg5' : w.heap.size < g5 := by omega
    rw [← hg5] at hW3 ⊢
    clear hW2 hs3 hs2 hg5 hzd
    have c8 : W3.cell? ⟨gr, 8, none⟩ = some (.bool bad) := cell_of (hW3.at_ 3 rfl) HC8.out
    have f8 := Cells.frozen (hW3.at_ 3 rfl) 8
    have hap8 : Apart (some gr) (.cells g5 68 (pd.map bv) :: .cells w.heap.size 70 entZ :: .low (Go.AdR.Low.strs B (some ad) 2 [p, d]) :: rs) := ⟨fun e => by injection e with e; omega, fun e => by injection e with e; omega, fun g e => (by injection e with e; subst e; exact hB), HAP.out gr (.inl rfl)⟩
    have hS := All.store hW3 3 rfl 8 (.bool (bad || !ok)) hap8
    simp only [List.set_cons_succ, List.set_cons_zero] at hS
    have HFIN : Hid (∀ w', All w' (.cells w.heap.size 70 (entC ⟨p, pd⟩) :: .low (Go.AdR.Low.strs B (some ad) 2 [p, d]) :: .cells gr 64 (cs.set 8 (.bool (bad || !ok))) :: rs) → All w' (.low (Go.AdR.Low.strs B (some ad) 2 [p, d]) :: .cells gr 64 (cs.set 8 (.bool (bad || !(entOf [p, d]).isSome))) :: rs) ∧ w.heap.size ≤ w'.heap.size) := Lib.hid (fun w' h => ⟨by rw [HED.out.2]; exact h.2, by have := Cells.lt (h.at_ 0 rfl); omega⟩)
    have HCE : Hid ((entC ⟨p, pd⟩).length = 33) := Lib.hid (entC_len ⟨HPL.out, HPZ.out⟩)
    clear hW3 hap8
    cases bad <;> cases ok
    all_goals
      go_upto_region 6 with (fail)
      refine wp_gen hS ?_
      clear hS c8 f8
      intro V hV
      refine wp_region_hops 4 [32, 33, 34, 35] _ [.eq (.slice (some ad) 2 c), .eq (.pointer (some ad)), .eq (.string p), .eq (.agg (pd.map bv).toArray)] (by kernel_rfl) (by kernel_rfl) hV rfl ?_ ?_
      · refine ⟨?_, ?_, ?_, ?_, trivial⟩
        · intro a' W hW hb hd K hK
          have b1 := hb 1 rfl
          go_simp
          exact hK _ _ (World.grownBy.refl _ _) rfl
        · intro a' W hW hb hd K hK
          have b32 : a'.tmps[32]?.getD undef = _ := hd ⟨0, .data⟩ (by simp) rfl
          go_simp
          exact hK _ _ (World.grownBy.refl _ _) (by first | rfl | (rw [add_zero]; rfl) | (simp [add_zero]; rfl))
        · intro a' W hW hb hd K hK
          have b33 : a'.tmps[33]?.getD undef = _ := hd ⟨1, .data⟩ (by simp) rfl
          have s0 := (HS0.out W (hW.at_ 2 rfl : _ ∧ _).1).1
          go_simp
          exact hK _ _ (World.grownBy.refl _ _) rfl
        · intro a' W hW hb hd K hK
          have b5 := hb 5 rfl
          refine wp_load_any 68 (.tmp 5) rfl ⟨g5, 0, none⟩ (show a'.eval (.tmp 5) = _ from by simp only [Act.eval, Array.getD_eq_getD_getElem?]; exact b5) (pd.map bv) _ (cell_all (hW.at_ 0 rfl)) Tryz.underlying68 rfl (by rw [List.length_map, HPL.out]; kernel_rfl) ?_
          exact hK _ _ (World.grownBy.refl _ _) rfl
      · intro vs U hU hv
        have e2 : vs 2 = _ := hv 2 (by decide)
        have e3 : vs 3 = _ := hv 3 (by decide)
        clear hv hV
        simp only [putAll, Nat.zero_add, Nat.reduceAdd, List.drop_succ_cons, List.drop_zero, e2, e3, Act.put, List.setIfInBounds_toArray, List.set_cons_succ, List.set_cons_zero]
        clear e2 e3
        go_wp2_with (first
          | (refine wl_build rfl 70 [(0, .tmp 34), (1, .tmp 35)] rfl _ _ #[(0, 1), (1, 32)] (entC ⟨p, pd⟩).toArray zero_ent Tryz.underlying70 (fun w => by kernel_rfl) ?_ ?_; exact fill_ent p pd HPL.out)
          | (refine wl_store_at hU 1 rfl 70 (.tmp 4) (.tmp 36) rfl w.heap.size _ entZ (entC ⟨p, pd⟩) rfl rfl rfl (by rw [HCE.out]; rfl) (by rw [HCE.out]; kernel_rfl) (entC_one _ ) ⟨fun e => by injection e with e; omega, fun g e => (by injection e with e; subst e; show B ≤ _; omega), fun e => by injection e with e; omega, HAP.out w.heap.size (.inr (Nat.le_refl _))⟩ ?_; intro V2 hV2 hs2))
        simp only [List.set_cons_succ, List.set_cons_zero] at hV2
        have hc4 : Cells V2 w.heap.size 70 (entC ⟨p, pd⟩) := hV2.at_ 1 rfl
        refine bodyPost_ret (results_cell_row rfl _ _ w.heap.size 70 (entC ⟨p, pd⟩).toArray (0, 0) _ rfl hc4 Tryz.underlying70 rfl (by rw [List.size_toArray, HCE.out]; kernel_rfl)) rfl ?_
        exact ⟨by rw [HED.out.1], HFIN.out _ hV2.2⟩
  · have d1 : decide ((n : Int) = 2) = false := by simp; omega
    have d2 : ((n : Int) != 2) = true := by simp; omega
    have hoe : Hid (entOf l = none ∧ entD l = ⟨ByteArray.empty, z32⟩) := Lib.hid (by
      match l, hn with
      | [], _ => exact ⟨rfl, rfl⟩
      | [_], _ => exact ⟨rfl, rfl⟩
      | [_, _], hn => exact absurd hn (by simp; omega)
      | _ :: _ :: _ :: _, _ => exact ⟨rfl, rfl⟩)
    clear hl hn
    go_enter Tryz.func24, Tryz.ntmps24
    go_upto_region 1 with (fail)
    refine wp_gen HR1 ?_
    clear HR1 hzr hzd
    intro W hW
    have c8 : W.cell? ⟨gr, 8, none⟩ = some (.bool bad) := cell_of (hW.at_ 2 rfl) HC8.out
    have f8 := Cells.frozen (hW.at_ 2 rfl) 8
    have hsW := Cells.lt (hW.at_ 0 rfl)
    have hS := All.store hW 2 rfl 8 (.bool true) ⟨fun e => by injection e with e; omega, fun g e => (by injection e with e; subst e; exact hB), HAP.out gr (.inl rfl)⟩
    simp only [List.set_cons_succ, List.set_cons_zero] at hS
    go_upto_region 3 with (fail)
    refine wp_gen hS ?_
    clear hS hW c8 f8
    intro V hV
    go_wp2_with (first
      | (refine wl_build rfl 70 [] rfl _ _ #[(0, 1), (1, 32)] entZ.toArray zero_ent Tryz.underlying70 (fun w => by kernel_rfl) ?_ ?_; exact (by rfl))
      | (refine wl_store_at hV 0 rfl 70 (.tmp 4) (.tmp 13) rfl w.heap.size _ entZ entZ rfl rfl rfl rfl (by kernel_rfl) (by decide +kernel) ⟨fun g e => (by injection e with e; subst e; show B ≤ _; omega), fun e => by injection e with e; omega, HAP.out w.heap.size (.inr (Nat.le_refl _))⟩ ?_; intro V2 hV2 hs2))
    simp only [List.set_cons_zero] at hV2
    have hc4 : Cells V2 w.heap.size 70 entZ := hV2.at_ 0 rfl
    have hlt2 := Cells.lt hc4
    refine bodyPost_ret (results_cell_row rfl _ _ w.heap.size 70 entZ.toArray (0, 0) _ rfl hc4 Tryz.underlying70 rfl (by kernel_rfl)) rfl ?_
    refine ⟨by rw [hoe.out.2]; rfl, ?_, by omega⟩
    rw [hoe.out.1]
    have := hV2.2
    simpa using this
end Go.Proofs.YtjdinakdkdjocaaGreatDoor
set_option linter.unusedSimpArgs false
set_option linter.unusedVariables false
set_option maxRecDepth 100000
namespace Go.AdR
open Go Go.RowKit Go.Adm
/-- a drawn region that appends one element: which operations came, what they left -/
def JV (Φ : Nat → Value → Prop) (I O0 : World → Prop) (R13 O14 : Value → World → Prop) (L : Nat → Bool) (vs : Nat → Value) (W : World) : Prop :=
  (∀ j, L j = true → j ≠ 13 → j ≠ 14 → Φ j (vs j)) ∧ I W ∧ (L 14 = false → O0 W) ∧ (L 13 = true → L 14 = false → R13 (vs 13) W) ∧ (L 14 = true → O14 (vs 14) W)
section
variable {Φ : Nat → Value → Prop} {I O0 : World → Prop} {R13 O14 : Value → World → Prop} {L : Nat → Bool} {vs : Nat → Value} {W W' : World} {v : Value}
theorem JV.start (hI : I W) (h0 : O0 W) : JV Φ I O0 R13 O14 (fun _ => false) (fun _ => undef) W := ⟨fun j h => (Bool.false_ne_true h).elim, hI, fun _ => h0, fun h => (Bool.false_ne_true h).elim, fun h => (Bool.false_ne_true h).elim⟩
theorem JV.phi (h : ∀ j, L j = true → j ≠ 13 → j ≠ 14 → Φ j (vs j)) (k : Nat) (hv : k ≠ 13 → k ≠ 14 → Φ k v) : ∀ j, markC L k j = true → j ≠ 13 → j ≠ 14 → Φ j (if j = k then v else vs j) := fun j hj h1 h2 => by
  unfold markC at hj
  by_cases e : j = k
  · rw [if_pos e, e]; exact hv (e ▸ h1) (e ▸ h2)
  · rw [if_neg e] at hj ⊢; exact h j hj h1 h2
theorem JV.quiet (h : JV Φ I O0 R13 O14 L vs W) (k : Nat) (h1 : 13 ≠ k) (h2 : 14 ≠ k) (hv : Φ k v) : JV Φ I O0 R13 O14 (markC L k) (fun i => if i = k then v else vs i) W := by
  obtain ⟨a, b, c, d, e⟩ := h
  refine ⟨JV.phi a k (fun _ _ => hv), b, ?_⟩
  simp only [markC, if_neg h1, if_neg h2]
  exact ⟨c, d, e⟩
theorem JV.lit (h : JV Φ I O0 R13 O14 L vs W) (hI : I W') (h0 : O0 W → O0 W') (h4 : ∀ v, O14 v W → O14 v W') (hr : R13 v W') : JV Φ I O0 R13 O14 (markC L 13) (fun i => if i = 13 then v else vs i) W' := by
  obtain ⟨a, b, c, d, e⟩ := h
  refine ⟨JV.phi a 13 (fun h => absurd rfl h), hI, ?_⟩
  simp only [markC, Nat.reduceEqDiff, if_false, if_true]
  exact ⟨fun h => h0 (c h), fun _ _ => hr, fun h => h4 _ (e h)⟩
theorem JV.app (h : JV Φ I O0 R13 O14 L vs W) (hI : I W') (hr : O14 v W') : JV Φ I O0 R13 O14 (markC L 14) (fun i => if i = 14 then v else vs i) W' := by
  obtain ⟨a, b, c, d, e⟩ := h
  refine ⟨JV.phi a 14 (fun _ h => absurd rfl h), hI, ?_⟩
  simp only [markC, Nat.reduceEqDiff, if_false, if_true]
  exact ⟨fun h => (Bool.false_ne_true h.symm).elim, fun _ h => (Bool.false_ne_true h.symm).elim, fun _ => hr⟩
end
end Go.AdR
namespace Go.Proofs.YtjdinakdkdjocaaGreatDoor
open Go Go.RowKit Go.Adm Go.AdR
set_option maxHeartbeats 6400000 in
theorem variable_any (w : World) (gr B base : Nat) (A : Option Addr) (n c : Nat) (l : List ByteArray) (cs : List Value) (bad : Bool) (eA : Option Addr) (en ec : Nat) (xs : List Value) (hcl : cs.length = 9) (hc5 : cs[5]? = some (.slice eA en ec)) (hc8 : cs[8]? = some (.bool bad)) (rs : List Res) (hR : All w (.low (Go.AdR.Low.strs B A n l) :: .cells gr 64 cs :: rs)) (hO : Go.Adm.Own w base 49 2 eA en ec xs) (hen : en ≤ 100000) (hB : B ≤ gr) (hBb : B ≤ base) (hb : base ≤ w.heap.size) (hap : Apart (some gr) rs) (hapo : ∀ g, base ≤ g → (Value.slice eA en ec).ownBlock = some g → Apart (some g) rs) :
    Calls Tryz.prog 23 #[.pointer (some ⟨gr, 0, none⟩), .slice A n c] w fun e w' => e = .returned (.tuple #[]) ∧ w.heap.size ≤ w'.heap.size ∧
      ((n ≠ 2 ∧ All w' (.low (Go.AdR.Low.strs B A n l) :: .cells gr 64 (cs.set 8 (.bool true)) :: rs) ∧ Go.Adm.Own w' base 49 2 eA en ec xs) ∨
       ∃ p d A' c', l = [p, d] ∧ All w' (.low (Go.AdR.Low.strs B A n l) :: .cells gr 64 (cs.set 5 (.slice A' (en + 1) c')) :: rs) ∧ Go.Adm.Own w' base 49 2 A' (en + 1) c' (xs ++ varC ⟨p, d⟩)) := by
  have hgr := Cells.lt (hR.at_ 1 rfl)
  have hl := (hR.at_ 0 rfl : Strs w B A n l ∧ _).1
  have hn := hl.len
  have HAP := Lib.hid hap
  have HAPO := Lib.hid hapo
  have HC8 := Lib.hid hc8
  have HC5 := Lib.hid hc5
  clear hap hc8 hcl hapo hc5
  by_cases h2 : n = 2
  · subst h2
    obtain ⟨p, d, rfl⟩ : ∃ p d, l = [p, d] := by
      match l, hn with
      | [p, d], _ => exact ⟨p, d, rfl⟩
      | [], hn => simp at hn
      | [_], hn => simp at hn
      | _ :: _ :: _ :: _, hn => simp at hn
    obtain ⟨ad, rfl, hadB, -, -⟩ := hl.at_ (k := 0) (by simp)
    clear hl hn
    have HS0 : Hid (∀ W, Strs W B (some ad) 2 [p, d] → W.cell? ad = some (.string p) ∧ W.cell? ⟨ad.block, ad.off + 1, none⟩ = some (.string d)) := Lib.hid (fun W h => by
      obtain ⟨ad', e, _, s0, _⟩ := h.at_ (k := 0) (by simp)
      injection e with e
      subst e
      obtain ⟨ad', e, _, s1, _⟩ := h.at_ (k := 1) (by simp)
      injection e with e
      subst e
      rw [add_zero] at s0
      exact ⟨s0, s1⟩)
    go_enter Tryz.func23, Tryz.ntmps23
    go_upto_region 2 with (fail)
    refine wp_region_cut 15 [10, 11, 12, 13, 14, 15, 16, 17, 18, 19, 20, 21, 22, 23, 24]
      (JV (fun j v => match j with
          | 0 => v = .pointer (some ⟨gr, 0, none⟩)
          | 1 => v = .pointer (some ⟨gr, 0, none⟩)
          | 2 => v = .pointer (some ⟨gr, 0, none⟩)
          | 3 => v = .pointer (some ⟨gr, 0, none⟩)
          | 4 => v = .pointer (some ⟨gr, 5, none⟩)
          | 5 => v = .slice eA en ec
          | 6 => v = .slice (some ad) 2 c
          | 7 => v = .pointer (some ad)
          | 8 => v = .string p
          | 9 => v = .slice (some ad) 2 c
          | 10 => v = .pointer (some ⟨ad.block, ad.off + 1, none⟩)
          | 11 => v = .string d
          | 12 => v = .agg (varC ⟨p, d⟩).toArray
          | _ => True)
        (fun W => All W (.low (Go.AdR.Low.strs B (some ad) 2 [p, d]) :: .cells gr 64 cs :: rs) ∧ base ≤ W.heap.size ∧ w.heap.size ≤ W.heap.size)
        (fun W => Go.Adm.Own W base 49 2 eA en ec xs)
        (fun v W => ∃ g, v = .slice (some ⟨g, 0, none⟩) 1 1 ∧ Cells W g 49 (varC ⟨p, d⟩))
        (fun v W => ∃ A' c', v = .slice A' (en + 1) c' ∧ Go.Adm.Own W base 49 2 A' (en + 1) c' (xs ++ varC ⟨p, d⟩)))
      (by kernel_rfl) (by kernel_rfl) (JV.start ⟨hR.drew, hb, Nat.le_refl _⟩ hO) rfl ?hops ?fin
    case hops =>
      refine ⟨?_, ?_, ?_, ?_, ?_, ?_, ?_, ?_, ?_, ?_, ?_, ?_, ?_, ?_, ?_, trivial⟩
      · refine ⟨rfl, ?_⟩
        intro a W L vs hJ hk hcl hbd K hK
        have b0 := hcl 0 rfl
        go_simp
        exact hK _ _ (hJ.quiet 0 (by decide) (by decide) rfl)
      · refine ⟨rfl, ?_⟩
        intro a W L vs hJ hk hcl hbd K hK
        have b0 := hcl 0 rfl
        go_simp
        exact hK _ _ (hJ.quiet 1 (by decide) (by decide) rfl)
      · refine ⟨rfl, ?_⟩
        intro a W L vs hJ hk hcl hbd K hK
        obtain ⟨h1, b11⟩ := hbd ⟨1, .data⟩ (by simp) rfl
        have e1 : vs 1 = _ := hJ.1 1 h1 (by decide) (by decide)
        replace b11 : a.tmps[11]?.getD undef = vs 1 := b11
        rw [e1] at b11
        go_simp
        exact hK _ _ (hJ.quiet 2 (by decide) (by decide) rfl)
      · refine ⟨rfl, ?_⟩
        intro a W L vs hJ hk hcl hbd K hK
        obtain ⟨h2, b12⟩ := hbd ⟨2, .data⟩ (by simp) rfl
        have e2 : vs 2 = _ := hJ.1 2 h2 (by decide) (by decide)
        replace b12 : a.tmps[12]?.getD undef = vs 2 := b12
        rw [e2] at b12
        go_simp
        exact hK _ _ (hJ.quiet 3 (by decide) (by decide) rfl)
      · refine ⟨rfl, ?_⟩
        intro a W L vs hJ hk hcl hbd K hK
        obtain ⟨h3, b13⟩ := hbd ⟨3, .data⟩ (by simp) rfl
        have e3 : vs 3 = _ := hJ.1 3 h3 (by decide) (by decide)
        replace b13 : a.tmps[13]?.getD undef = vs 3 := b13
        rw [e3] at b13
        go_simp
        exact hK _ _ (hJ.quiet 4 (by decide) (by decide) rfl)
      · refine ⟨rfl, ?_⟩
        intro a W L vs hJ hk hcl hbd K hK
        obtain ⟨h4, b14⟩ := hbd ⟨4, .data⟩ (by simp) rfl
        have e4 : vs 4 = _ := hJ.1 4 h4 (by decide) (by decide)
        replace b14 : a.tmps[14]?.getD undef = vs 4 := b14
        rw [e4] at b14
        have cc : W.cell? ⟨gr, 5, none⟩ = some (.slice eA en ec) := cell_of (hJ.2.1.1.at_ 1 rfl) HC5.out
        go_simp
        exact hK _ _ (hJ.quiet 5 (by decide) (by decide) rfl)
      · refine ⟨rfl, ?_⟩
        intro a W L vs hJ hk hcl hbd K hK
        have b1 := hcl 1 rfl
        go_simp
        exact hK _ _ (hJ.quiet 6 (by decide) (by decide) rfl)
      · refine ⟨rfl, ?_⟩
        intro a W L vs hJ hk hcl hbd K hK
        obtain ⟨h6, b16⟩ := hbd ⟨6, .data⟩ (by simp) rfl
        have e6 : vs 6 = _ := hJ.1 6 h6 (by decide) (by decide)
        replace b16 : a.tmps[16]?.getD undef = vs 6 := b16
        rw [e6] at b16
        go_simp
        exact hK _ _ (hJ.quiet 7 (by decide) (by decide) (by first | rfl | (rw [add_zero]; rfl) | (simp [add_zero]; rfl)))
      · refine ⟨rfl, ?_⟩
        intro a W L vs hJ hk hcl hbd K hK
        obtain ⟨h7, b17⟩ := hbd ⟨7, .data⟩ (by simp) rfl
        have e7 : vs 7 = _ := hJ.1 7 h7 (by decide) (by decide)
        replace b17 : a.tmps[17]?.getD undef = vs 7 := b17
        rw [e7] at b17
        have s0 := (HS0.out W (hJ.2.1.1.at_ 0 rfl : _ ∧ _).1).1
        go_simp
        exact hK _ _ (hJ.quiet 8 (by decide) (by decide) rfl)
      · refine ⟨rfl, ?_⟩
        intro a W L vs hJ hk hcl hbd K hK
        have b1 := hcl 1 rfl
        go_simp
        exact hK _ _ (hJ.quiet 9 (by decide) (by decide) rfl)
      · refine ⟨rfl, ?_⟩
        intro a W L vs hJ hk hcl hbd K hK
        obtain ⟨h9, b19⟩ := hbd ⟨9, .data⟩ (by simp) rfl
        have e9 : vs 9 = _ := hJ.1 9 h9 (by decide) (by decide)
        replace b19 : a.tmps[19]?.getD undef = vs 9 := b19
        rw [e9] at b19
        go_simp
        exact hK _ _ (hJ.quiet 10 (by decide) (by decide) rfl)
      · refine ⟨rfl, ?_⟩
        intro a W L vs hJ hk hcl hbd K hK
        obtain ⟨h10, b20⟩ := hbd ⟨10, .data⟩ (by simp) rfl
        have e10 : vs 10 = _ := hJ.1 10 h10 (by decide) (by decide)
        replace b20 : a.tmps[20]?.getD undef = vs 10 := b20
        rw [e10] at b20
        have s1 := (HS0.out W (hJ.2.1.1.at_ 0 rfl : _ ∧ _).1).2
        go_simp
        exact hK _ _ (hJ.quiet 11 (by decide) (by decide) rfl)
      · refine ⟨rfl, ?_⟩
        intro a W L vs hJ hk hcl hbd K hK
        obtain ⟨h8, b18⟩ := hbd ⟨8, .data⟩ (by simp) rfl
        have e8 : vs 8 = _ := hJ.1 8 h8 (by decide) (by decide)
        replace b18 : a.tmps[18]?.getD undef = vs 8 := b18
        rw [e8] at b18
        obtain ⟨h11, b21⟩ := hbd ⟨11, .data⟩ (by simp) rfl
        have e11 : vs 11 = _ := hJ.1 11 h11 (by decide) (by decide)
        replace b21 : a.tmps[21]?.getD undef = vs 11 := b21
        rw [e11] at b21
        refine wp_build_at 49 [(0, .tmp 18), (1, .tmp 21)] rfl _ _ #[(0, 1), (1, 1)] (varC ⟨p, d⟩).toArray zero_var Tryz.underlying49 (fun w => by kernel_rfl) ?_ ?_
        · simp only [List.map_cons, List.map_nil, Act.eval, Array.getD_eq_getD_getElem?, b18, b21]
          exact fill_var p d
        exact hK _ _ (hJ.quiet 12 (by decide) (by decide) rfl)
      · refine ⟨rfl, ?_⟩
        intro a W L vs hJ hk hcl hbd K hK
        obtain ⟨h12, b22⟩ := hbd ⟨12, .data⟩ (by simp) rfl
        have e12 : vs 12 = _ := hJ.1 12 h12 (by decide) (by decide)
        replace b22 : a.tmps[22]?.getD undef = vs 12 := b22
        rw [e12] at b22
        refine wp_lit1 el_var2 (.tmp 22) rfl (varC ⟨p, d⟩) (show a.eval (.tmp 22) = _ from by simp only [Act.eval, Array.getD_eq_getD_getElem?]; exact b22) rfl (by decide) ?_
        exact hK _ _ (hJ.lit ⟨hJ.2.1.1.alloc _, by have := hJ.2.1.2.1; simp; omega, by have := hJ.2.1.2.2; simp; omega⟩ (fun h => h.alloc _) (fun v ⟨A3, c3, e, h⟩ => ⟨A3, c3, e, h.alloc _⟩) ⟨W.heap.size, rfl, Cells.new' W 49 _ rfl rfl⟩)
      · refine ⟨rfl, ?_⟩
        intro a W L vs hJ hk hcl hbd K hK
        obtain ⟨h5, b15⟩ := hbd ⟨5, .data⟩ (by simp) rfl
        obtain ⟨h13, b23⟩ := hbd ⟨13, .data⟩ (by simp) rfl
        have e5 : vs 5 = _ := hJ.1 5 h5 (by decide) (by decide)
        obtain ⟨g9, e13, hc9⟩ := hJ.2.2.2.1 h13 hk
        have hown := hJ.2.2.1 hk
        replace b15 : a.tmps[15]?.getD undef = vs 5 := b15
        rw [e5] at b15
        replace b23 : a.tmps[23]?.getD undef = vs 13 := b23
        rw [e13] at b23
        refine wp_app W el_var2 (.tmp 15) (.tmp 23) rfl base eA en ec xs (show a.eval (.tmp 15) = _ from by simp only [Act.eval, Array.getD_eq_getD_getElem?]; exact b15) hown (g9 + 1) (some ⟨g9, 0, none⟩) 1 1 (varC ⟨p, d⟩) (show a.eval (.tmp 23) = _ from by simp only [Act.eval, Array.getD_eq_getD_getElem?]; exact b23) ⟨rfl, fun _ => ⟨⟨g9, 0, none⟩, rfl, Nat.lt_succ_self _, cell_all hc9⟩⟩ (by intro u hu; simp only [varC, List.mem_cons, List.mem_nil_iff, or_false] at hu; rcases hu with rfl | rfl <;> rfl) (by omega) hJ.2.1.2.1 ?_
        intro A' c' w' ho' hb' hg'
        refine hK _ _ (hJ.app ⟨?_, by have := hJ.2.1.2.1; have := hg'.size; omega, by have := hJ.2.1.2.2; have := hg'.size; omega⟩ ⟨A', c', rfl, ho'⟩)
        refine All.step hg' hJ.2.1.1 ?_
        cases ho : (Value.slice eA en ec).ownBlock with
        | none => exact Apart.none _
        | some g =>
          have hgb := (hown.lt ho).1
          exact ⟨fun g' e => (by injection e with e; subst e; show B ≤ _; omega), fun e => own_ne_cells hown (hJ.2.1.1.at_ 1 rfl) (by decide) (by rw [ho, ← e]), HAPO.out g hgb ho⟩
    case fin =>
      intro vs U L hJ hL
      obtain ⟨hP, ⟨hU, hbU, hsU⟩, -, -, h14⟩ := hJ
      have e0 : vs 0 = _ := hP 0 (hL 0 (by decide)) (by decide) (by decide)
      obtain ⟨A', c', e14, hO'⟩ := h14 (hL 14 (by decide))
      clear hP h14 hL hR hO
      simp only [putAll, Nat.zero_add, Nat.reduceAdd, List.drop_succ_cons, List.drop_zero, e0, e14, Act.put, List.setIfInBounds_toArray, List.set_cons_succ, List.set_cons_zero]
      clear e0 e14
      have c5 : U.cell? ⟨gr, 5, none⟩ = some (.slice eA en ec) := cell_of (hU.at_ 1 rfl) HC5.out
      have f5 := Cells.frozen (hU.at_ 1 rfl) 5
      have hO2 : All U (.own base 49 2 A' (en + 1) c' (xs ++ varC ⟨p, d⟩) :: .low (Go.AdR.Low.strs B (some ad) 2 [p, d]) :: .cells gr 64 cs :: rs) := ⟨hO', hU⟩
      have hS := All.store hO2 2 rfl 5 (.slice A' (en + 1) c') ⟨fun g e => .inr (by injection e with e; subst e; exact own_ne_cells hO' (hU.at_ 1 rfl) (by decide)), fun g e => (by injection e with e; subst e; exact hB), HAP.out⟩
      simp only [List.set_cons_succ, List.set_cons_zero] at hS
      clear hO2 hO' hU
      go_wp2_with fail
      first | refine bodyPost_ret (results_none rfl _ _ _) rfl ?_ | refine bodyPost_end (results_none rfl _ _ _) rfl ?_
      exact ⟨rfl, by simpa using hsU, .inr ⟨p, d, A', c', rfl, hS.2, hS.1⟩⟩
  · have d1 : decide ((n : Int) = 2) = false := by simp; omega
    have d2 : ((n : Int) != 2) = true := by simp; omega
    have c8 : w.cell? ⟨gr, 8, none⟩ = some (.bool bad) := cell_of (hR.at_ 1 rfl) HC8.out
    have f8 := Cells.frozen (hR.at_ 1 rfl) 8
    have hO2 : All w (.own base 49 2 eA en ec xs :: .low (Go.AdR.Low.strs B A n l) :: .cells gr 64 cs :: rs) := ⟨hO, hR⟩
    have hS := All.store hO2 2 rfl 8 (.bool true) ⟨fun g e => .inr (by injection e with e; subst e; exact own_ne_cells hO (hR.at_ 1 rfl) (by decide)), fun g e => (by injection e with e; subst e; exact hB), HAP.out⟩
    simp only [List.set_cons_succ, List.set_cons_zero] at hS
    clear hl hn hO2 hR hO
    go_enter Tryz.func23, Tryz.ntmps23
    go_wp2_with fail
    first | refine bodyPost_ret (results_none rfl _ _ _) rfl ?_ | refine bodyPost_end (results_none rfl _ _ _) rfl ?_
    exact ⟨rfl, by simp, .inl ⟨h2, hS.2, hS.1⟩⟩
end Go.Proofs.YtjdinakdkdjocaaGreatDoor
set_option linter.unusedSimpArgs false
set_option linter.unusedVariables false
set_option maxRecDepth 100000
namespace Go.Proofs.YtjdinakdkdjocaaGreatDoor
open Go Go.RowKit Go.Adm Go.AdR
set_option maxHeartbeats 6400000 in
theorem header_any (w : World) (gr B : Nat) (A1 : Option Addr) (n c1 : Nat) (l : List ByteArray) (A2 : Option Addr) (cn c2 : Nat) (cmd : List ByteArray) (a0 a1 a2 a3 a4 a5 a6 a7 : Value) (bad : Bool) (rs : List Res) (hR : All w (.low (Go.AdR.Low.strs B A1 n l) :: .low (Go.AdR.Low.strs B A2 cn cmd) :: .cells gr 64 [a0, a1, a2, a3, a4, a5, a6, a7, .bool bad] :: rs)) (hcn : cn ≤ 1000000) (hB : B ≤ gr) (hap : ∀ g, g = gr ∨ w.heap.size ≤ g → Apart (some g) rs) :
    Calls Tryz.prog 22 #[.pointer (some ⟨gr, 0, none⟩), .slice A1 n c1, .slice A2 cn c2] w fun e w' => e = .returned (.tuple #[]) ∧ w.heap.size ≤ w'.heap.size ∧
      ((n ≠ 4 ∧ All w' (.low (Go.AdR.Low.strs B A1 n l) :: .low (Go.AdR.Low.strs B A2 cn cmd) :: .cells gr 64 [a0, a1, a2, a3, a4, a5, a6, a7, .bool true] :: rs)) ∨
       ∃ f0 f1 f2 f3 A' c', l = [f0, f1, f2, f3] ∧ All w' (.low (Go.AdR.Low.strs B A1 n l) :: .low (Go.AdR.Low.strs B A2 cn cmd) :: .cells gr 64 [.string f0, .string f1, .string f2, .int .i64 (((parseS f3.data.toList).getD 0 : Nat) : Int), .slice A' cn c', a5, a6, a7, .bool (bad || !(parseS f3.data.toList).isSome)] :: rs) ∧ Go.Adm.Own w' w.heap.size 9 1 A' cn c' (cmd.map sv)) := by
  have hgr := Cells.lt (hR.at_ 2 rfl)
  have hl := (hR.at_ 0 rfl : Strs w B A1 n l ∧ _).1
  have hn := hl.len
  have HAP := Lib.hid hap
  clear hap
  by_cases h4 : n = 4
  · subst h4
    obtain ⟨f0, f1, f2, f3, rfl⟩ : ∃ f0 f1 f2 f3, l = [f0, f1, f2, f3] := by
      match l, hn with
      | [f0, f1, f2, f3], _ => exact ⟨f0, f1, f2, f3, rfl⟩
      | [], hn => simp at hn
      | [_], hn => simp at hn
      | [_, _], hn => simp at hn
      | [_, _, _], hn => simp at hn
      | _ :: _ :: _ :: _ :: _ :: _, hn => simp at hn
    obtain ⟨ad, rfl, hadB, -, -⟩ := hl.at_ (k := 0) (by simp)
    clear hl hn
    have HS0 : Hid (∀ W, Strs W B (some ad) 4 [f0, f1, f2, f3] → W.cell? ad = some (.string f0) ∧ W.cell? ⟨ad.block, ad.off + 1, none⟩ = some (.string f1) ∧ W.cell? ⟨ad.block, ad.off + 2, none⟩ = some (.string f2) ∧ W.cell? ⟨ad.block, ad.off + 3, none⟩ = some (.string f3)) := Lib.hid (fun W h => by
      have key : ∀ k (hk : k < 4) s, [f0, f1, f2, f3][k]? = some s → W.cell? (ad.add k) = some (.string s) := fun k hk s hs => by
        obtain ⟨ad', e, _, s0, _⟩ := h.at_ (k := k) (by simpa using hk)
        injection e with e
        subst e
        rw [List.getElem?_eq_getElem (by simpa using hk)] at hs
        injection hs with hs
        rw [← hs]
        exact s0
      have k0 := key 0 (by decide) f0 rfl
      rw [add_zero] at k0
      exact ⟨k0, key 1 (by decide) f1 rfl, key 2 (by decide) f2 rfl, key 3 (by decide) f3 rfl⟩)
    obtain ⟨k, hk⟩ : ∃ k : Int, k = (((parseS f3.data.toList).getD 0 : Nat) : Int) := ⟨_, rfl⟩
    obtain ⟨ok, hok⟩ : ∃ b, b = (parseS f3.data.toList).isSome := ⟨_, rfl⟩
    have HPN : Hid (∀ W, Calls Tryz.prog 53 #[.string f3] W fun e w' => e = .returned (.tuple #[.int .i64 k, .bool ok]) ∧ W = w') := Lib.hid (fun W => by rw [hk, hok]; exact (ParseN_any f3 W).mono fun e w' ⟨h1, h2⟩ => ⟨h1, h2.symm⟩)
    have HKE := Lib.hid hk
    have HOE := Lib.hid hok
    clear hk hok
    have s3 := (HS0.out w (hR.at_ 0 rfl : _ ∧ _).1).2.2.2
    have HF : Hid (∃ g0 g1 g2 g3 : ByteArray, True) := Lib.hid ⟨f0, f1, f2, f3, trivial⟩
    go_enter Tryz.func22, Tryz.ntmps22
    go_upto_region 3 with (go_at_call 53; refine (HPN.out _).mono ?_; rintro e w' ⟨rfl, rfl⟩)
    refine wp_region_order [21, 22, 23, 24, 25, 26, 27, 28, 29, 30, 31, 32, 33, 34, 35, 36, 37, 1017, 38, 39, 40, 1021, 41, 42, 43, 1025, 44, 45, 46, 1029] (fun L W => All W (.low (Go.AdR.Low.strs B (some ad) 4 [f0, f1, f2, f3]) :: .low (Go.AdR.Low.strs B A2 cn cmd) :: .cells gr 64 [if L 17 then .string f0 else a0, if L 21 then .string f1 else a1, if L 25 then .string f2 else a2, if L 29 then .int .i64 k else a3, a4, a5, a6, a7, .bool bad] :: rs) ∧ w.heap.size ≤ W.heap.size)
      (fun k0 => [.pointer (some ⟨gr, 0, none⟩), .pointer (some ⟨gr, 0, none⟩), .pointer (some ⟨gr, 0, none⟩), .pointer (some ⟨gr, 0, none⟩), .slice (some ad) 4 c1, .pointer (some ad), .string f0, .slice (some ad) 4 c1, .pointer (some ⟨ad.block, ad.off + 1, none⟩), .string f1, .slice (some ad) 4 c1, .pointer (some ⟨ad.block, ad.off + 2, none⟩), .string f2, .int .i64 k, .pointer (some ⟨gr, 0, none⟩), .pointer (some ⟨gr, 0, none⟩), .pointer (some ⟨gr, 0, none⟩), undef, .pointer (some ⟨gr, 0, none⟩), .pointer (some ⟨gr, 0, none⟩), .pointer (some ⟨gr, 1, none⟩), undef, .pointer (some ⟨gr, 0, none⟩), .pointer (some ⟨gr, 0, none⟩), .pointer (some ⟨gr, 2, none⟩), undef, .pointer (some ⟨gr, 0, none⟩), .pointer (some ⟨gr, 0, none⟩), .pointer (some ⟨gr, 3, none⟩), undef].getD k0 undef)
      (by kernel_rfl) (by kernel_rfl) (by simp) ?hev ⟨hR.drew, Nat.le_refl _⟩ rfl ?hops ?fin
    case hev =>
      intro j t hj ht
      have hlt : j < 30 := (List.getElem?_eq_some_iff.1 hj).1
      have key : ∀ j : Fin 30, 1000 ≤ [21, 22, 23, 24, 25, 26, 27, 28, 29, 30, 31, 32, 33, 34, 35, 36, 37, 1017, 38, 39, 40, 1021, 41, 42, 43, 1025, 44, 45, 46, 1029].getD j.val 0 → j.val = 17 ∨ j.val = 21 ∨ j.val = 25 ∨ j.val = 29 := by decide
      have h0 : [21, 22, 23, 24, 25, 26, 27, 28, 29, 30, 31, 32, 33, 34, 35, 36, 37, 1017, 38, 39, 40, 1021, 41, 42, 43, 1025, 44, 45, 46, 1029].getD j 0 = t := by rw [List.getD, hj]; rfl
      rcases key ⟨j, hlt⟩ (by rw [h0]; exact ht) with h | h | h | h <;> (simp only at h; subst h; rfl)
    case hops =>
        refine ⟨?_, ?_, ?_, ?_, ?_, ?_, ?_, ?_, ?_, ?_, ?_, ?_, ?_, ?_, ?_, ?_, ?_, ?_, ?_, ?_, ?_, ?_, ?_, ?_, ?_, ?_, ?_, ?_, ?_, ?_, trivial⟩
        · refine ⟨rfl, ?_⟩
          intro a W L hJ hk hcl hold hb K hK
          have b0 := hold 0 rfl
          go_simp
          exact hK _ hJ
        · refine ⟨rfl, ?_⟩
          intro a W L hJ hk hcl hold hb K hK
          have b0 := hold 0 rfl
          go_simp
          exact hK _ hJ
        · refine ⟨rfl, ?_⟩
          intro a W L hJ hk hcl hold hb K hK
          have b0 := hold 0 rfl
          go_simp
          exact hK _ hJ
        · refine ⟨rfl, ?_⟩
          intro a W L hJ hk hcl hold hb K hK
          have b0 := hold 0 rfl
          go_simp
          exact hK _ hJ
        · refine ⟨rfl, ?_⟩
          intro a W L hJ hk hcl hold hb K hK
          have b1 := hold 1 rfl
          go_simp
          exact hK _ hJ
        · refine ⟨rfl, ?_⟩
          intro a W L hJ hk hcl hold hb K hK
          have b25 : a.tmps[25]?.getD undef = _ := (hb ⟨4, .data⟩ (by simp) rfl).2
          go_simp
          first | exact hK _ hJ | (rw [add_zero]; exact hK _ hJ) | (simp only [add_zero]; exact hK _ hJ)
        · refine ⟨rfl, ?_⟩
          intro a W L hJ hk hcl hold hb K hK
          have b26 : a.tmps[26]?.getD undef = _ := (hb ⟨5, .data⟩ (by simp) rfl).2
          have s0 := (HS0.out W (hJ.1.at_ 0 rfl : _ ∧ _).1).1
          go_simp
          exact hK _ hJ
        · refine ⟨rfl, ?_⟩
          intro a W L hJ hk hcl hold hb K hK
          have b1 := hold 1 rfl
          go_simp
          exact hK _ hJ
        · refine ⟨rfl, ?_⟩
          intro a W L hJ hk hcl hold hb K hK
          have b28 : a.tmps[28]?.getD undef = _ := (hb ⟨7, .data⟩ (by simp) rfl).2
          go_simp
          exact hK _ hJ
        · refine ⟨rfl, ?_⟩
          intro a W L hJ hk hcl hold hb K hK
          have b29 : a.tmps[29]?.getD undef = _ := (hb ⟨8, .data⟩ (by simp) rfl).2
          have s0 := (HS0.out W (hJ.1.at_ 0 rfl : _ ∧ _).1).2.1
          go_simp
          exact hK _ hJ
        · refine ⟨rfl, ?_⟩
          intro a W L hJ hk hcl hold hb K hK
          have b1 := hold 1 rfl
          go_simp
          exact hK _ hJ
        · refine ⟨rfl, ?_⟩
          intro a W L hJ hk hcl hold hb K hK
          have b31 : a.tmps[31]?.getD undef = _ := (hb ⟨10, .data⟩ (by simp) rfl).2
          go_simp
          exact hK _ hJ
        · refine ⟨rfl, ?_⟩
          intro a W L hJ hk hcl hold hb K hK
          have b32 : a.tmps[32]?.getD undef = _ := (hb ⟨11, .data⟩ (by simp) rfl).2
          have s0 := (HS0.out W (hJ.1.at_ 0 rfl : _ ∧ _).1).2.2.1
          go_simp
          exact hK _ hJ
        · refine ⟨rfl, ?_⟩
          intro a W L hJ hk hcl hold hb K hK
          have b6 := hold 6 rfl
          go_simp
          exact hK _ hJ
        · refine ⟨rfl, ?_⟩
          intro a W L hJ hk hcl hold hb K hK
          have b21 : a.tmps[21]?.getD undef = _ := (hb ⟨0, .data⟩ (by simp) rfl).2
          go_simp
          exact hK _ hJ
        · refine ⟨rfl, ?_⟩
          intro a W L hJ hk hcl hold hb K hK
          have b35 : a.tmps[35]?.getD undef = _ := (hb ⟨14, .data⟩ (by simp) rfl).2
          go_simp
          exact hK _ hJ
        · refine ⟨rfl, ?_⟩
          intro a W L hJ hk hcl hold hb K hK
          have b36 : a.tmps[36]?.getD undef = _ := (hb ⟨15, .data⟩ (by simp) rfl).2
          go_simp
          exact hK _ hJ
        · refine ⟨rfl, ?_⟩
          intro a W L hJ hk hcl hold hb K hK
          have b37 : a.tmps[37]?.getD undef = _ := (hb ⟨16, .data⟩ (by simp) rfl).2
          have b27 : a.tmps[27]?.getD undef = _ := (hb ⟨6, .data⟩ (by simp) rfl).2
          have hC : Cells W gr 64 _ := hJ.1.at_ 2 rfl
          have cc : W.cell? ⟨gr, 0, none⟩ = some (if L 17 then .string f0 else a0) := cell_of hC (i := 0) rfl
          have ff := Cells.frozen hC 0
          have hS := All.store hJ.1 2 rfl 0 (.string f0) ⟨fun g e => (by injection e with e; subst e; exact hB), fun g e => (by injection e with e; subst e; exact hB), HAP.out gr (.inl rfl)⟩
          go_simp
          exact hK _ ⟨hS, by simpa using hJ.2⟩
        · refine ⟨rfl, ?_⟩
          intro a W L hJ hk hcl hold hb K hK
          have b22 : a.tmps[22]?.getD undef = _ := (hb ⟨1, .data⟩ (by simp) rfl).2
          go_simp
          exact hK _ hJ
        · refine ⟨rfl, ?_⟩
          intro a W L hJ hk hcl hold hb K hK
          have b38 : a.tmps[38]?.getD undef = _ := (hb ⟨18, .data⟩ (by simp) rfl).2
          go_simp
          exact hK _ hJ
        · refine ⟨rfl, ?_⟩
          intro a W L hJ hk hcl hold hb K hK
          have b39 : a.tmps[39]?.getD undef = _ := (hb ⟨19, .data⟩ (by simp) rfl).2
          go_simp
          exact hK _ hJ
        · refine ⟨rfl, ?_⟩
          intro a W L hJ hk hcl hold hb K hK
          have b40 : a.tmps[40]?.getD undef = _ := (hb ⟨20, .data⟩ (by simp) rfl).2
          have b30 : a.tmps[30]?.getD undef = _ := (hb ⟨9, .data⟩ (by simp) rfl).2
          have hC : Cells W gr 64 _ := hJ.1.at_ 2 rfl
          have cc : W.cell? ⟨gr, 1, none⟩ = some (if L 21 then .string f1 else a1) := cell_of hC (i := 1) rfl
          have ff := Cells.frozen hC 1
          have hS := All.store hJ.1 2 rfl 1 (.string f1) ⟨fun g e => (by injection e with e; subst e; exact hB), fun g e => (by injection e with e; subst e; exact hB), HAP.out gr (.inl rfl)⟩
          go_simp
          exact hK _ ⟨hS, by simpa using hJ.2⟩
        · refine ⟨rfl, ?_⟩
          intro a W L hJ hk hcl hold hb K hK
          have b23 : a.tmps[23]?.getD undef = _ := (hb ⟨2, .data⟩ (by simp) rfl).2
          go_simp
          exact hK _ hJ
        · refine ⟨rfl, ?_⟩
          intro a W L hJ hk hcl hold hb K hK
          have b41 : a.tmps[41]?.getD undef = _ := (hb ⟨22, .data⟩ (by simp) rfl).2
          go_simp
          exact hK _ hJ
        · refine ⟨rfl, ?_⟩
          intro a W L hJ hk hcl hold hb K hK
          have b42 : a.tmps[42]?.getD undef = _ := (hb ⟨23, .data⟩ (by simp) rfl).2
          go_simp
          exact hK _ hJ
        · refine ⟨rfl, ?_⟩
          intro a W L hJ hk hcl hold hb K hK
          have b43 : a.tmps[43]?.getD undef = _ := (hb ⟨24, .data⟩ (by simp) rfl).2
          have b33 : a.tmps[33]?.getD undef = _ := (hb ⟨12, .data⟩ (by simp) rfl).2
          have hC : Cells W gr 64 _ := hJ.1.at_ 2 rfl
          have cc : W.cell? ⟨gr, 2, none⟩ = some (if L 25 then .string f2 else a2) := cell_of hC (i := 2) rfl
          have ff := Cells.frozen hC 2
          have hS := All.store hJ.1 2 rfl 2 (.string f2) ⟨fun g e => (by injection e with e; subst e; exact hB), fun g e => (by injection e with e; subst e; exact hB), HAP.out gr (.inl rfl)⟩
          go_simp
          exact hK _ ⟨hS, by simpa using hJ.2⟩
        · refine ⟨rfl, ?_⟩
          intro a W L hJ hk hcl hold hb K hK
          have b24 : a.tmps[24]?.getD undef = _ := (hb ⟨3, .data⟩ (by simp) rfl).2
          go_simp
          exact hK _ hJ
        · refine ⟨rfl, ?_⟩
          intro a W L hJ hk hcl hold hb K hK
          have b44 : a.tmps[44]?.getD undef = _ := (hb ⟨26, .data⟩ (by simp) rfl).2
          go_simp
          exact hK _ hJ
        · refine ⟨rfl, ?_⟩
          intro a W L hJ hk hcl hold hb K hK
          have b45 : a.tmps[45]?.getD undef = _ := (hb ⟨27, .data⟩ (by simp) rfl).2
          go_simp
          exact hK _ hJ
        · refine ⟨rfl, ?_⟩
          intro a W L hJ hk hcl hold hb K hK
          have b46 : a.tmps[46]?.getD undef = _ := (hb ⟨28, .data⟩ (by simp) rfl).2
          have b34 : a.tmps[34]?.getD undef = _ := (hb ⟨13, .data⟩ (by simp) rfl).2
          have hC : Cells W gr 64 _ := hJ.1.at_ 2 rfl
          have cc : W.cell? ⟨gr, 3, none⟩ = some (if L 29 then .int .i64 k else a3) := cell_of hC (i := 3) rfl
          have ff := Cells.frozen hC 3
          have hS := All.store hJ.1 2 rfl 3 (.int .i64 k) ⟨fun g e => (by injection e with e; subst e; exact hB), fun g e => (by injection e with e; subst e; exact hB), HAP.out gr (.inl rfl)⟩
          go_simp
          exact hK _ ⟨hS, by simpa using hJ.2⟩
    case fin =>
      intro W L hJ hall
      have h17 := hall 17 (by decide)
      have h21 := hall 21 (by decide)
      have h25 := hall 25 (by decide)
      have h29 := hall 29 (by decide)
      obtain ⟨hJ, hsz⟩ := hJ
      simp only [h17, h21, h25, h29, if_true] at hJ
      clear h17 h21 h25 h29 hall hR s3
      simp only [putAll, Act.put, List.setIfInBounds_toArray, List.set_cons_succ, List.set_cons_zero]
      have hcl := CloneS_any W B A2 cn c2 cmd (hJ.at_ 1 rfl : Strs W B A2 cn cmd ∧ _).1 hcn (hJ.at_ 1 rfl : _ ∧ _).2
      go_upto_region 5 with (go_at_call 54; refine hcl.mono ?_; clear hcl; rintro e w2 ⟨A', c', rfl, hb2, ho2⟩; have hs2 := hb2.size; have hW2 : All w2 (.own W.heap.size 9 1 A' cn c' (cmd.map sv) :: .low (Go.AdR.Low.strs B (some ad) 4 [f0, f1, f2, f3]) :: .low (Go.AdR.Low.strs B A2 cn cmd) :: .cells gr 64 [.string f0, .string f1, .string f2, .int .i64 k, a4, a5, a6, a7, .bool bad] :: rs) := ⟨ho2, hJ.call hb2⟩; have c4 : w2.cell? ⟨gr, 4, none⟩ = some a4 := cell_of (hW2.at_ 3 rfl) (i := 4) rfl; have f4 := Cells.frozen (hW2.at_ 3 rfl) 4; have hS4 := All.store hW2 3 rfl 4 (.slice A' cn c') ⟨fun g e => .inr (by injection e with e; subst e; exact own_ne_cells (hW2.at_ 0 rfl) (hW2.at_ 3 rfl) (by decide)), fun g e => (by injection e with e; subst e; exact hB), fun g e => (by injection e with e; subst e; exact hB), HAP.out gr (.inl rfl)⟩)
      simp only [List.set_cons_succ, List.set_cons_zero] at hS4
      refine wp_genP (Pr := fun V => All V (.own W.heap.size 9 1 A' cn c' (cmd.map sv) :: .low (Go.AdR.Low.strs B (some ad) 4 [f0, f1, f2, f3]) :: .low (Go.AdR.Low.strs B A2 cn cmd) :: .cells gr 64 [.string f0, .string f1, .string f2, .int .i64 k, .slice A' cn c', a5, a6, a7, .bool bad] :: rs) ∧ w.heap.size ≤ V.heap.size) ⟨hS4, by simp; omega⟩ ?_
      clear hS4 hW2 c4 f4 hJ ho2 hb2 hs2
      rintro V ⟨hV, hsV⟩
      have c8 : V.cell? ⟨gr, 8, none⟩ = some (.bool bad) := cell_of (hV.at_ 3 rfl) (i := 8) rfl
      have f8 := Cells.frozen (hV.at_ 3 rfl) 8
      have hS8 := All.store hV 3 rfl 8 (.bool (bad || !ok)) ⟨fun g e => .inr (by injection e with e; subst e; exact own_ne_cells (hV.at_ 0 rfl) (hV.at_ 3 rfl) (by decide)), fun g e => (by injection e with e; subst e; exact hB), fun g e => (by injection e with e; subst e; exact hB), HAP.out gr (.inl rfl)⟩
      simp only [List.set_cons_succ, List.set_cons_zero] at hS8
      clear hV
      have HFIN : Hid (∀ w', w.heap.size ≤ w'.heap.size → All w' (.own W.heap.size 9 1 A' cn c' (cmd.map sv) :: .low (Go.AdR.Low.strs B (some ad) 4 [f0, f1, f2, f3]) :: .low (Go.AdR.Low.strs B A2 cn cmd) :: .cells gr 64 [.string f0, .string f1, .string f2, .int .i64 k, .slice A' cn c', a5, a6, a7, .bool (bad || !ok)] :: rs) → ∃ g0 g1 g2 g3 A' c', [f0, f1, f2, f3] = [g0, g1, g2, g3] ∧ All w' (.low (Go.AdR.Low.strs B (some ad) 4 [f0, f1, f2, f3]) :: .low (Go.AdR.Low.strs B A2 cn cmd) :: .cells gr 64 [.string g0, .string g1, .string g2, .int .i64 (((parseS g3.data.toList).getD 0 : Nat) : Int), .slice A' cn c', a5, a6, a7, .bool (bad || !(parseS g3.data.toList).isSome)] :: rs) ∧ Go.Adm.Own w' w.heap.size 9 1 A' cn c' (cmd.map sv)) := Lib.hid (fun w' _ h => ⟨f0, f1, f2, f3, A', c', rfl, by rw [← HKE.out, ← HOE.out]; exact h.2, (h.1 : Go.Adm.Own w' _ _ _ _ _ _ _).less hsz⟩)
      cases bad <;> cases ok
      all_goals
        go_wp2_with fail
        first | refine bodyPost_ret (results_none rfl _ _ _) rfl ?_ | refine bodyPost_end (results_none rfl _ _ _) rfl ?_
        exact ⟨rfl, by simpa using hsV, .inr (HFIN.out _ (by simpa using hsV) hS8)⟩
  · have d1 : decide ((n : Int) = 4) = false := by simp; omega
    have d2 : ((n : Int) != 4) = true := by simp; omega
    have c8 : w.cell? ⟨gr, 8, none⟩ = some (.bool bad) := cell_of (hR.at_ 2 rfl) (i := 8) rfl
    have f8 := Cells.frozen (hR.at_ 2 rfl) 8
    have hS := All.store hR 2 rfl 8 (.bool true) ⟨fun g e => (by injection e with e; subst e; exact hB), fun g e => (by injection e with e; subst e; exact hB), HAP.out gr (.inl rfl)⟩
    simp only [List.set_cons_succ, List.set_cons_zero] at hS
    clear hl hn hR
    go_enter Tryz.func22, Tryz.ntmps22
    go_wp2_with fail
    first | refine bodyPost_ret (results_none rfl _ _ _) rfl ?_ | refine bodyPost_end (results_none rfl _ _ _) rfl ?_
    exact ⟨rfl, by simp, .inl ⟨h4, hS⟩⟩
end Go.Proofs.YtjdinakdkdjocaaGreatDoor
set_option linter.unusedSimpArgs false
set_option linter.unusedVariables false
namespace Go.AdR
open Go Go.RowKit Go.Adm
theorem takeS_some {word : ByteArray} {ls : List (List ByteArray)} {l : List ByteArray} {rest : List (List ByteArray)} (h : takeS word ls = some (l, rest)) : ls = (word :: l) :: rest := by
  unfold takeS at h
  split at h
  · split at h
    · rename_i ht
      injection h with h
      injection h with h1 h2
      rw [ht, h1, h2]
    · cases h
  · cases h
theorem takeS_none {word : ByteArray} {ls : List (List ByteArray)} (h : takeS word ls = none) : ls.takeWhile (isTag word) = [] ∧ ls.dropWhile (isTag word) = ls := by
  unfold takeS at h
  split at h
  · rename_i t l rest
    split at h
    · cases h
    · rename_i ht
      have h2 : isTag word (t :: l) = false := by simp [isTag, ht]
      simp [List.takeWhile_cons, List.dropWhile_cons, h2]
  · rename_i hno
    match ls, hno with
    | [], _ => exact ⟨rfl, rfl⟩
    | [] :: rest, _ => simp [List.takeWhile_cons, List.dropWhile_cons, isTag]
    | (t :: l) :: rest, hno => exact absurd rfl (hno t l rest)
theorem cut_pre {α : Type} {p : α → Bool} : ∀ (pre suf : List α), (∀ x ∈ pre, p x = true) → suf.takeWhile p = [] ∧ suf.dropWhile p = suf → (pre ++ suf).takeWhile p = pre ∧ (pre ++ suf).dropWhile p = suf
  | [], suf, _, h => by simpa using h
  | x :: pre, suf, h1, h2 => by
    have hx := h1 x List.mem_cons_self
    obtain ⟨h3, h4⟩ := cut_pre pre suf (fun z hz => h1 z (List.mem_cons_of_mem _ hz)) h2
    simp [List.takeWhile_cons, List.dropWhile_cons, hx, h3, h4]
theorem lineOf_tag (tag : ByteArray) (l : List ByteArray) : lineOf tag (tag :: l) = entOf l := by
  unfold lineOf entOf
  match l with
  | [] => rfl
  | [_] => rfl
  | [p, d] => simp
  | _ :: _ :: _ :: _ => rfl
theorem varOf_two (t : ByteArray) (p d : ByteArray) : varOf [t, p, d] = some ⟨p, d⟩ := rfl
theorem varOf_not {t : ByteArray} {l : List ByteArray} (h : l.length ≠ 2) : varOf (t :: l) = none := by
  match l, h with
  | [], _ => rfl
  | [_], _ => rfl
  | [_, _], h => exact absurd rfl h
  | _ :: _ :: _ :: _, _ => rfl
theorem entD_of {l : List ByteArray} {y : E} (h : entOf l = some y) : entD l = y := by
  unfold entOf at h
  split at h
  · rename_i p d
    rw [Option.map_eq_some_iff] at h
    obtain ⟨v, hv, rfl⟩ := h
    show (⟨p, AdP.parsed d.data.toList⟩ : E) = _
    rw [AdP.parsed, hv]
    rfl
  · cases h
/-- where all lines are good, what was appended is what they say -/
theorem ents_good {tag : ByteArray} : ∀ (ls : List (List ByteArray)), (ls.all fun l => (entOf l).isSome) = true → ls.map entD = (ls.map (tag :: ·)).filterMap (lineOf tag)
  | [], _ => rfl
  | l :: ls, h => by
    rw [List.all_cons, Bool.and_eq_true] at h
    obtain ⟨y, hy⟩ := Option.isSome_iff_exists.1 h.1
    rw [List.map_cons, List.map_cons, List.filterMap_cons_some ((lineOf_tag tag l).trans hy), entD_of hy, ents_good ls h.2]
end Go.AdR
set_option linter.unusedSimpArgs false
set_option linter.unusedVariables false
set_option maxRecDepth 100000
namespace Go.AdR
open Go Go.RowKit Go.Adm
def Low.lines (B : Nat) (A : Option Addr) (n : Nat) (ls : List (List ByteArray)) : Low := ⟨B, fun w => Lines w B A n ls, fun _ _ hk h => h.keep hk⟩
/-- the variable of a line -/
def pv (l : List ByteArray) : Option Var := match l with
  | [p, d] => some ⟨p, d⟩
  | _ => none
theorem pv_not {l : List ByteArray} (h : l.length ≠ 2) : pv l = none := by
  match l, h with
  | [], _ => rfl
  | [_], _ => rfl
  | [_, _], h => exact absurd rfl h
  | _ :: _ :: _ :: _, _ => rfl
def hdV (f : List ByteArray) : ByteArray × ByteArray × ByteArray × Int := match f with
  | [f0, f1, f2, f3] => (f0, f1, f2, (((parseS f3.data.toList).getD 0 : Nat) : Int))
  | _ => (ByteArray.empty, ByteArray.empty, ByteArray.empty, 0)
def hdB (f : List ByteArray) : Bool := match f with
  | [_, _, _, f3] => !(parseS f3.data.toList).isSome
  | _ => true
def hdC (f cmd : List ByteArray) : List ByteArray := match f with
  | [_, _, _, _] => cmd
  | _ => []
theorem hd_not {f cmd : List ByteArray} (h : f.length ≠ 4) : hdV f = (ByteArray.empty, ByteArray.empty, ByteArray.empty, 0) ∧ hdB f = true ∧ hdC f cmd = [] := by
  match f, h with
  | [], _ => exact ⟨rfl, rfl, rfl⟩
  | [_], _ => exact ⟨rfl, rfl, rfl⟩
  | [_, _], _ => exact ⟨rfl, rfl, rfl⟩
  | [_, _, _], _ => exact ⟨rfl, rfl, rfl⟩
  | [_, _, _, _], h => exact absurd rfl h
  | _ :: _ :: _ :: _ :: _ :: _, _ => exact ⟨rfl, rfl, rfl⟩
def slN : Sl := ⟨none, 0, 0⟩
def recN : Rec := ⟨ByteArray.empty, ByteArray.empty, ByteArray.empty, 0, [], [], [], []⟩

end Go.AdR
namespace Go.Proofs.YtjdinakdkdjocaaGreatDoor
open Go Go.RowKit Go.Adm Go.AdR
theorem take_all (word : ByteArray) (w : World) (gl B : Nat) (A : Option Addr) (n c : Nat) (ls : List (List ByteArray)) (rs : List Res) (hR : All w (.cells gl 47 [.slice A n c] :: .low (Go.AdR.Low.lines B A n ls) :: rs)) (hnc : n ≤ c) (hcm : c ≤ maxLen) (hne : ∀ l ∈ ls, l ≠ []) (hBl : B ≤ gl) (hap : Apart (some gl) rs) :
    Calls Tryz.prog 51 #[.string word, .pointer (some ⟨gl, 0, none⟩)] w fun e w' =>
      (takeS word ls = none ∧ e = .returned (.tuple #[.slice none 0 0, .bool false]) ∧ w' = w) ∨
      ∃ l rest A1 c1 A', ls = (word :: l) :: rest ∧ e = .returned (.tuple #[.slice A1 l.length c1, .bool true]) ∧ l.length ≤ c1 ∧ c1 ≤ maxLen ∧ All w' (.low (Go.AdR.Low.strs B A1 l.length l) :: .cells gl 47 [.slice A' (n - 1) (c - 1)] :: .low (Go.AdR.Low.lines B A' (n - 1) rest) :: rs) ∧ w'.heap.size = w.heap.size := by
  refine (take_any word w gl B A n c ls (hR.at_ 0 rfl) (hR.at_ 1 rfl : _ ∧ _).1 hnc hcm hne).mono ?_
  rintro e w' (h | ⟨l, rest, A1, c1, A', h1, h2, h3, h4, rfl, h6, h7⟩)
  · exact .inl h
  · right
    have hsz : (w.setCell ⟨gl, 0, none⟩ (.slice A' (n - 1) (c - 1))).heap.size = w.heap.size := by simp
    have hB : B ≤ w.heap.size := (hR.at_ 1 rfl : _ ∧ B ≤ w.heap.size).2
    have hk : ∀ p : Addr, p.block < B → (w.setCell ⟨gl, 0, none⟩ (.slice A' (n - 1) (c - 1))).cell? p = w.cell? p := fun p hp => World.cell?_of_block (w := w) ((grown_setCell w ⟨gl, 0, none⟩ _).block p.block (by omega) (by intro e; injection e with e; have e2 : p.block = gl := e; omega))
    have hS := All.store hR 0 rfl 0 (.slice A' (n - 1) (c - 1)) ⟨fun g e => (by injection e with e; subst e; exact hBl), hap⟩
    simp only [List.set_cons_zero] at hS
    exact ⟨l, rest, A1, c1, A', takeS_some h1, h2, h3, h4, ⟨⟨h6.keep hk, by rw [hsz]; exact hB⟩, hS.1, ⟨h7.keep hk, by rw [hsz]; exact hB⟩, hS.2.2⟩, hsz⟩
def rdL (w : World) (gl gr B b b2 : Nat) (a0 a1 a2 a3 : Value) (sl sc se sm sp : Sl) (cur : List (List ByteArray)) (cmd : List ByteArray) (vs : List Var) (ms ps : List E) (bad : Bool) : List Res :=
  [.cells gl 47 [sl.v], .low (Go.AdR.Low.lines B sl.A sl.n cur), .cells gr 64 [a0, a1, a2, a3, sc.v, se.v, sm.v, sp.v, .bool bad], .own b 9 1 sc.A sc.n sc.c (cmd.map sv), .own b 49 2 se.A se.n se.c (vs.map varC).flatten, .own b 70 33 sm.A sm.n sm.c (ms.map entC).flatten, .own b2 70 33 sp.A sp.n sp.c (ps.map entC).flatten, .cells w.heap.size 31 recZ, .kept w w.heap.size]
/-- the state of the reader -/
structure RdS (w : World) (gl gr B b b2 : Nat) (a0 a1 a2 a3 : Value) (sl sc se sm sp : Sl) (cur : List (List ByteArray)) (cmd : List ByteArray) (vs : List Var) (ms ps : List E) (bad : Bool) (W : World) : Prop where
  all : All W (rdL w gl gr B b b2 a0 a1 a2 a3 sl sc se sm sp cur cmd vs ms ps bad)
  wB : w.heap.size < B
  Bl : B ≤ gl
  lr : gl < gr
  rb : gr < b
  b12 : b ≤ b2
  bW : b2 ≤ W.heap.size
  cap : sl.n ≤ sl.c ∧ sl.c ≤ maxLen
  ne : ∀ l ∈ cur, l ≠ []
  lens : sc.n = cmd.length ∧ se.n = vs.length ∧ sm.n = ms.length ∧ sp.n = ps.length
section
variable {w : World} {gl gr B b b2 : Nat} {a0 a1 a2 a3 : Value} {sl sc se sm sp : Sl} {cur : List (List ByteArray)} {cmd : List ByteArray} {vs : List Var} {ms ps : List E} {bad : Bool} {W : World}
theorem take_st (word : ByteArray) (h : RdS w gl gr B b b2 a0 a1 a2 a3 sl sc se sm sp cur cmd vs ms ps bad W) :
    Calls Tryz.prog 51 #[.string word, .pointer (some ⟨gl, 0, none⟩)] W fun e W' =>
      (takeS word cur = none ∧ e = .returned (.tuple #[.slice none 0 0, .bool false]) ∧ RdS w gl gr B b b2 a0 a1 a2 a3 sl sc se sm sp cur cmd vs ms ps bad W') ∨
      ∃ l rest A1 c1 sl', cur = (word :: l) :: rest ∧ e = .returned (.tuple #[.slice A1 l.length c1, .bool true]) ∧ l.length ≤ c1 ∧ c1 ≤ maxLen ∧ RdS w gl gr B b b2 a0 a1 a2 a3 sl' sc se sm sp rest cmd vs ms ps bad W' ∧ Strs W' B A1 l.length l := by
  have h1 := h.wB; have h2 := h.Bl; have h3 := h.lr; have h4 := h.rb; have h5 := h.b12
  have hA := h.all
  have hC := h.cap
  refine (take_all word W gl B sl.A sl.n sl.c cur _ hA hC.1 hC.2 h.ne h2 ⟨fun e => (by injection e with e; omega), fun g e => .inl (by injection e with e; omega), fun g e => .inl (by injection e with e; omega), fun g e => .inl (by injection e with e; omega), fun g e => .inl (by injection e with e; omega), fun e => (by injection e with e; omega), fun g e => (by injection e with e; omega), trivial⟩).mono ?_
  rintro e W' (⟨q1, q2, rfl⟩ | ⟨l, rest, A1, c1, A', rfl, rfl, q3, q4, hN, hs⟩)
  · exact .inl ⟨q1, q2, h⟩
  · refine .inr ⟨l, rest, A1, c1, ⟨A', sl.n - 1, sl.c - 1⟩, rfl, rfl, q3, q4, ?_, (hN.1 : _ ∧ _).1⟩
    exact { all := hN.2, wB := h1, Bl := h2, lr := h3, rb := h4, b12 := h5, bW := by rw [hs]; exact h.bW, cap := ⟨by show sl.n - 1 ≤ sl.c - 1; omega, by show sl.c - 1 ≤ maxLen; omega⟩, ne := fun l hl => h.ne l (List.mem_cons_of_mem _ hl), lens := h.lens }
/-- what taking a line left: the line, or none -/
def Pend (word : ByteArray) (B : Nat) (full : List (List ByteArray)) (St : Sl → List (List ByteArray) → World → Prop) (v : Value) (m : Bool) (W : World) : Prop :=
  (m = false ∧ v = .slice none 0 0 ∧ takeS word full = none ∧ ∃ sl, St sl full W) ∨
  ∃ l rest A1 c1 sl, m = true ∧ v = .slice A1 l.length c1 ∧ full = (word :: l) :: rest ∧ St sl rest W ∧ Strs W B A1 l.length l
theorem take_pend (word : ByteArray) (h : RdS w gl gr B b b2 a0 a1 a2 a3 sl sc se sm sp cur cmd vs ms ps bad W) :
    Calls Tryz.prog 51 #[.string word, .pointer (some ⟨gl, 0, none⟩)] W fun e W' => ∃ v m, e = .returned (.tuple #[v, .bool m]) ∧ Pend word B cur (fun sl' cur' W => RdS w gl gr B b b2 a0 a1 a2 a3 sl' sc se sm sp cur' cmd vs ms ps bad W) v m W' := by
  refine (take_st word h).mono ?_
  rintro e W' (⟨h1, rfl, h2⟩ | ⟨l, rest, A1, c1, sl', h1, rfl, _, _, h2, h3⟩)
  · exact ⟨_, _, rfl, .inl ⟨rfl, rfl, h1, sl, h2⟩⟩
  · exact ⟨_, _, rfl, .inr ⟨l, rest, A1, c1, sl', rfl, rfl, h1, h2, h3⟩⟩
/-- how many lines are left -/
def lenAt (gl : Nat) (v : Value) (W : World) : Nat := (match W.cell? ⟨gl, 0, none⟩ with
  | some (.slice _ n _) => n
  | _ => 0) + match v with
  | .bool true => 1
  | _ => 0
theorem pend_len {word : ByteArray} {full : List (List ByteArray)} {v : Value} {m : Bool} (h : Pend word B full (fun sl' cur' W => RdS w gl gr B b b2 a0 a1 a2 a3 sl' sc se sm sp cur' cmd vs ms ps bad W) v m W) : lenAt gl (.bool m) W = full.length := by
  rcases h with ⟨rfl, _, _, sl', hS⟩ | ⟨l, rest, A1, c1, sl', rfl, _, rfl, hS, _⟩
  · have hc : W.cell? ⟨gl, 0, none⟩ = some (.slice sl'.A sl'.n sl'.c) := cell_of (hS.all.at_ 0 rfl) (i := 0) rfl
    have hl : full.length = sl'.n := (hS.all.at_ 1 rfl : Lines W B sl'.A sl'.n full ∧ _).1.len
    unfold lenAt
    rw [hc, hl]
    rfl
  · have hc : W.cell? ⟨gl, 0, none⟩ = some (.slice sl'.A sl'.n sl'.c) := cell_of (hS.all.at_ 0 rfl) (i := 0) rfl
    have hl : rest.length = sl'.n := (hS.all.at_ 1 rfl : Lines W B sl'.A sl'.n rest ∧ _).1.len
    unfold lenAt
    rw [hc, List.length_cons, hl]
theorem mat_ap (h : RdS w gl gr B b b2 a0 a1 a2 a3 sl sc se sm slN cur cmd vs ms [] bad W) : ∀ g, b ≤ g → (Value.slice sm.A sm.n sm.c).ownBlock = some g → Apart (some g) ((rdL w gl gr B b b2 a0 a1 a2 a3 sl sc se sm slN cur cmd vs ms [] bad).eraseIdx 5) := by
  have h1 := h.wB; have h2 := h.Bl; have h3 := h.lr; have h4 := h.rb; have h5 := h.b12
  have hA := h.all
  have HC : Go.Adm.Own W b 9 1 sc.A sc.n sc.c (cmd.map sv) := hA.at_ 3 rfl
  have HE : Go.Adm.Own W b 49 2 se.A se.n se.c (vs.map varC).flatten := hA.at_ 4 rfl
  have HM : Go.Adm.Own W b 70 33 sm.A sm.n sm.c (ms.map entC).flatten := hA.at_ 5 rfl
  intro g hg ho
  exact ⟨fun e => (by injection e with e; omega), fun g' e => (by injection e with e; subst e; show B ≤ _; omega), fun e => (by injection e with e; omega), fun g' e => .inr (by injection e with e; subst e; exact own_ne_own HC HM (by decide) ho), fun g' e => .inr (by injection e with e; subst e; exact own_ne_own HE HM (by decide) ho), fun g' e => .inr (fun e' => by cases e'), fun e => (by injection e with e; omega), fun g' e => (by injection e with e; omega), trivial⟩
theorem pro_ap (h : RdS w gl gr B b b2 a0 a1 a2 a3 sl sc se sm sp cur cmd vs ms ps bad W) (hold : ∀ g, sm.v.ownBlock = some g → g < b2) : ∀ g, b2 ≤ g → (Value.slice sp.A sp.n sp.c).ownBlock = some g → Apart (some g) ((rdL w gl gr B b b2 a0 a1 a2 a3 sl sc se sm sp cur cmd vs ms ps bad).eraseIdx 6) := by
  have h1 := h.wB; have h2 := h.Bl; have h3 := h.lr; have h4 := h.rb; have h5 := h.b12
  have hA := h.all
  have HC : Go.Adm.Own W b 9 1 sc.A sc.n sc.c (cmd.map sv) := hA.at_ 3 rfl
  have HE : Go.Adm.Own W b 49 2 se.A se.n se.c (vs.map varC).flatten := hA.at_ 4 rfl
  have HP : Go.Adm.Own W b2 70 33 sp.A sp.n sp.c (ps.map entC).flatten := hA.at_ 6 rfl
  intro g hg ho
  exact ⟨fun e => (by injection e with e; omega), fun g' e => (by injection e with e; subst e; show B ≤ _; omega), fun e => (by injection e with e; omega), fun g' e => .inr (by injection e with e; subst e; exact own_ne_own HC HP (by decide) ho), fun g' e => .inr (by injection e with e; subst e; exact own_ne_own HE HP (by decide) ho), fun g' e => .inr (fun e' => by injection e with e; subst e; have := hold _ e'; omega), fun e => (by injection e with e; omega), fun g' e => (by injection e with e; omega), trivial⟩
theorem RdS.alloc (h : RdS w gl gr B b b2 a0 a1 a2 a3 sl sc se sm sp cur cmd vs ms ps bad W) (o : Obj) : RdS w gl gr B b b2 a0 a1 a2 a3 sl sc se sm sp cur cmd vs ms ps bad (W.alloc o) :=
  { all := h.all.alloc o, wB := h.wB, Bl := h.Bl, lr := h.lr, rb := h.rb, b12 := h.b12, bW := Nat.le_trans h.bW (by simp), cap := h.cap, ne := h.ne, lens := h.lens }
theorem RdS.drew (h : RdS w gl gr B b b2 a0 a1 a2 a3 sl sc se sm sp cur cmd vs ms ps bad W) : RdS w gl gr B b b2 a0 a1 a2 a3 sl sc se sm sp cur cmd vs ms ps bad W.drew :=
  { all := h.all.drew, wB := h.wB, Bl := h.Bl, lr := h.lr, rb := h.rb, b12 := h.b12, bW := h.bW, cap := h.cap, ne := h.ne, lens := h.lens }
/-- the third list begins -/
theorem RdS.rebase (h : RdS w gl gr B b b2 a0 a1 a2 a3 sl sc se sm slN cur cmd vs ms [] bad W) : RdS w gl gr B b W.heap.size a0 a1 a2 a3 sl sc se sm slN cur cmd vs ms [] bad W ∧ ∀ g, sm.v.ownBlock = some g → g < W.heap.size := by
  have hA := h.all
  refine ⟨{ all := ⟨hA.at_ 0 rfl, hA.at_ 1 rfl, hA.at_ 2 rfl, hA.at_ 3 rfl, hA.at_ 4 rfl, hA.at_ 5 rfl, Go.Adm.Own.nil _ _ _ _, hA.at_ 7 rfl, hA.at_ 8 rfl, trivial⟩, wB := h.wB, Bl := h.Bl, lr := h.lr, rb := h.rb, b12 := Nat.le_trans h.b12 h.bW, bW := Nat.le_refl _, cap := h.cap, ne := h.ne, lens := h.lens }, fun g hg => ?_⟩
  exact ((hA.at_ 5 rfl : Go.Adm.Own W b 70 33 sm.A sm.n sm.c (ms.map entC).flatten).lt hg).2
theorem mat_new {e : E} {A' : Option Addr} {c' : Nat} {w7 : World} (h : RdS w gl gr B b b2 a0 a1 a2 a3 sl sc se sm slN cur cmd vs ms [] bad W) (h7 : All w7 ((rdL w gl gr B b b2 a0 a1 a2 a3 sl sc se sm slN cur cmd vs ms [] bad).set 5 (.own b 70 33 A' (sm.n + 1) c' ((ms.map entC).flatten ++ entC e)))) (hs : W.heap.size ≤ w7.heap.size) :
    RdS w gl gr B b b2 a0 a1 a2 a3 sl sc se ⟨A', sm.n + 1, c'⟩ slN cur cmd vs (ms ++ [e]) [] bad (w7.setCell ⟨gr, 6, none⟩ (.slice A' (sm.n + 1) c')) := by
  have h1 := h.wB; have h2 := h.Bl; have h3 := h.lr; have h4 := h.rb; have h5 := h.b12
  have hL := h.lens
  have hS := All.store h7 2 rfl 6 (.slice A' (sm.n + 1) c') ⟨fun e => (by injection e with e; omega), fun g' e => (by injection e with e; subst e; show B ≤ _; omega), fun g e => .inl (by injection e with e; omega), fun g e => .inl (by injection e with e; omega), fun g e => .inl (by injection e with e; omega), fun g e => .inl (by injection e with e; omega), fun e => (by injection e with e; omega), fun g' e => (by injection e with e; omega), trivial⟩
  refine { all := ?_, wB := h1, Bl := h2, lr := h3, rb := h4, b12 := h5, bW := by have := h.bW; simp; omega, cap := h.cap, ne := h.ne, lens := ⟨hL.1, hL.2.1, by show sm.n + 1 = _; rw [List.length_append, hL.2.2.1]; rfl, hL.2.2.2⟩ }
  have e1 : ((ms ++ [e]).map entC).flatten = (ms.map entC).flatten ++ entC e := by simp
  unfold rdL
  rw [e1]
  exact hS
theorem pro_new {e : E} {A' : Option Addr} {c' : Nat} {w7 : World} (h : RdS w gl gr B b b2 a0 a1 a2 a3 sl sc se sm sp cur cmd vs ms ps bad W) (h7 : All w7 ((rdL w gl gr B b b2 a0 a1 a2 a3 sl sc se sm sp cur cmd vs ms ps bad).set 6 (.own b2 70 33 A' (sp.n + 1) c' ((ps.map entC).flatten ++ entC e)))) (hs : W.heap.size ≤ w7.heap.size) :
    RdS w gl gr B b b2 a0 a1 a2 a3 sl sc se sm ⟨A', sp.n + 1, c'⟩ cur cmd vs ms (ps ++ [e]) bad (w7.setCell ⟨gr, 7, none⟩ (.slice A' (sp.n + 1) c')) := by
  have h1 := h.wB; have h2 := h.Bl; have h3 := h.lr; have h4 := h.rb; have h5 := h.b12
  have hL := h.lens
  have hS := All.store h7 2 rfl 7 (.slice A' (sp.n + 1) c') ⟨fun e => (by injection e with e; omega), fun g' e => (by injection e with e; subst e; show B ≤ _; omega), fun g e => .inl (by injection e with e; omega), fun g e => .inl (by injection e with e; omega), fun g e => .inl (by injection e with e; omega), fun g e => .inl (by injection e with e; omega), fun e => (by injection e with e; omega), fun g' e => (by injection e with e; omega), trivial⟩
  refine { all := ?_, wB := h1, Bl := h2, lr := h3, rb := h4, b12 := h5, bW := by have := h.bW; simp; omega, cap := h.cap, ne := h.ne, lens := ⟨hL.1, hL.2.1, hL.2.2.1, by show sp.n + 1 = _; rw [List.length_append, hL.2.2.2]; rfl⟩ }
  have e1 : ((ps ++ [e]).map entC).flatten = (ps.map entC).flatten ++ entC e := by simp
  unfold rdL
  rw [e1]
  exact hS
theorem variable_st (h : RdS w gl gr B b b2 a0 a1 a2 a3 sl sc se slN slN cur cmd vs [] [] bad W) (A1 : Option Addr) (c1 : Nat) (l : List ByteArray) (hS : Strs W B A1 l.length l) (hv : vs.length ≤ 100000) :
    Calls Tryz.prog 23 #[.pointer (some ⟨gr, 0, none⟩), .slice A1 l.length c1] W fun e W' =>
      e = .returned (.tuple #[]) ∧ ∃ se', RdS w gl gr B b b2 a0 a1 a2 a3 sl sc se' slN slN cur cmd (vs ++ (pv l).toList) [] [] (bad || (pv l).isNone) W' := by
  have h1 := h.wB; have h2 := h.Bl; have h3 := h.lr; have h4 := h.rb; have h5 := h.b12; have h6 := h.bW
  have hA := h.all
  have hC := h.cap
  have hL := h.lens
  have HE : Go.Adm.Own W b 49 2 se.A se.n se.c (vs.map varC).flatten := hA.at_ 4 rfl
  have HC : Go.Adm.Own W b 9 1 sc.A sc.n sc.c (cmd.map sv) := hA.at_ 3 rfl
  have hBW := (hA.at_ 1 rfl : _ ∧ B ≤ W.heap.size).2
  have hR : All W (.low (Go.AdR.Low.strs B A1 l.length l) :: .cells gr 64 [a0, a1, a2, a3, sc.v, se.v, slN.v, slN.v, .bool bad] :: [.cells gl 47 [sl.v], .low (Go.AdR.Low.lines B sl.A sl.n cur), .own b 9 1 sc.A sc.n sc.c (cmd.map sv), .cells w.heap.size 31 recZ, .kept w w.heap.size]) := ⟨⟨hS, hBW⟩, hA.at_ 2 rfl, hA.at_ 0 rfl, hA.at_ 1 rfl, hA.at_ 3 rfl, hA.at_ 7 rfl, hA.at_ 8 rfl, trivial⟩
  refine (variable_any W gr B b A1 l.length c1 l _ bad se.A se.n se.c _ rfl rfl rfl _ hR HE (by rw [hL.2.1]; exact hv) (by omega) (by omega) (by omega) ⟨fun e => (by injection e with e; omega), fun g e => (by injection e with e; subst e; show B ≤ _; omega), fun g e => .inl (by injection e with e; omega), fun e => (by injection e with e; omega), fun g e => (by injection e with e; omega), trivial⟩ (fun g hg ho => ⟨fun e => (by injection e with e; omega), fun g' e => (by injection e with e; subst e; show B ≤ _; omega), fun g' e => .inr (by injection e with e; subst e; exact own_ne_own HC HE (by decide) ho), fun e => (by injection e with e; omega), fun g' e => (by injection e with e; omega), trivial⟩)).mono ?_
  rintro e W' ⟨rfl, hs, ⟨hn, hAll, hO⟩ | ⟨p, d, A', c', rfl, hAll, hO⟩⟩
  · refine ⟨rfl, se, ?_⟩
    rw [pv_not hn]
    simp only [List.set_cons_succ, List.set_cons_zero] at hAll
    refine { all := ?_, wB := h1, Bl := h2, lr := h3, rb := h4, b12 := h5, bW := by omega, cap := hC, ne := h.ne, lens := by simpa using hL }
    refine ⟨hAll.at_ 2 rfl, hAll.at_ 3 rfl, by simpa using (hAll.at_ 1 rfl), hAll.at_ 4 rfl, by rw [show (none : Option Var).toList = [] from rfl, List.append_nil]; exact hO, Go.Adm.Own.nil _ _ _ _, Go.Adm.Own.nil _ _ _ _, hAll.at_ 5 rfl, hAll.at_ 6 rfl, trivial⟩
  · refine ⟨rfl, ⟨A', se.n + 1, c'⟩, ?_⟩
    simp only [List.set_cons_succ, List.set_cons_zero] at hAll
    refine { all := ?_, wB := h1, Bl := h2, lr := h3, rb := h4, b12 := h5, bW := by omega, cap := hC, ne := h.ne, lens := ⟨hL.1, by show se.n + 1 = _; rw [List.length_append, hL.2.1]; rfl, hL.2.2⟩ }
    refine ⟨hAll.at_ 2 rfl, hAll.at_ 3 rfl, by simpa [pv, Sl.v] using (hAll.at_ 1 rfl), hAll.at_ 4 rfl, ?_, Go.Adm.Own.nil _ _ _ _, Go.Adm.Own.nil _ _ _ _, hAll.at_ 5 rfl, hAll.at_ 6 rfl, trivial⟩
    have : ((vs ++ (pv [p, d]).toList).map varC).flatten = (vs.map varC).flatten ++ varC ⟨p, d⟩ := by simp [pv]
    rw [this]
    exact hO
theorem entry_st (h : RdS w gl gr B b b2 a0 a1 a2 a3 sl sc se sm sp cur cmd vs ms ps bad W) (A1 : Option Addr) (c1 : Nat) (l : List ByteArray) (hS : Strs W B A1 l.length l) :
    Calls Tryz.prog 24 #[.pointer (some ⟨gr, 0, none⟩), .slice A1 l.length c1] W fun e W' =>
      e = .returned (.agg (entC (entD l)).toArray) ∧ RdS w gl gr B b b2 a0 a1 a2 a3 sl sc se sm sp cur cmd vs ms ps (bad || !(entOf l).isSome) W' := by
  have h1 := h.wB; have h2 := h.Bl; have h3 := h.lr; have h4 := h.rb; have h5 := h.b12; have h6 := h.bW
  have hA := h.all
  have hgrW := Cells.lt (hA.at_ 2 rfl)
  have hBW := (hA.at_ 1 rfl : _ ∧ B ≤ W.heap.size).2
  have HC : Go.Adm.Own W b 9 1 sc.A sc.n sc.c (cmd.map sv) := hA.at_ 3 rfl
  have HE : Go.Adm.Own W b 49 2 se.A se.n se.c (vs.map varC).flatten := hA.at_ 4 rfl
  have HM : Go.Adm.Own W b 70 33 sm.A sm.n sm.c (ms.map entC).flatten := hA.at_ 5 rfl
  have HP : Go.Adm.Own W b2 70 33 sp.A sp.n sp.c (ps.map entC).flatten := hA.at_ 6 rfl
  have hR : All W (.low (Go.AdR.Low.strs B A1 l.length l) :: .cells gr 64 [a0, a1, a2, a3, sc.v, se.v, sm.v, sp.v, .bool bad] :: [.cells gl 47 [sl.v], .low (Go.AdR.Low.lines B sl.A sl.n cur), .own b 9 1 sc.A sc.n sc.c (cmd.map sv), .own b 49 2 se.A se.n se.c (vs.map varC).flatten, .own b 70 33 sm.A sm.n sm.c (ms.map entC).flatten, .own b2 70 33 sp.A sp.n sp.c (ps.map entC).flatten, .cells w.heap.size 31 recZ, .kept w w.heap.size]) := ⟨⟨hS, hBW⟩, hA.at_ 2 rfl, hA.at_ 0 rfl, hA.at_ 1 rfl, HC, HE, HM, HP, hA.at_ 7 rfl, hA.at_ 8 rfl, trivial⟩
  refine (entry_any W gr B A1 l.length c1 l _ bad rfl rfl _ hR (by omega) ?_).mono ?_
  · intro g hg
    have hgg : gr ≤ g := by omega
    have key : ∀ {base e size A n c xs}, b ≤ base → Go.Adm.Own W base e size A n c xs → ∀ g', some g = some g' → g' < base ∨ (Value.slice A n c).ownBlock ≠ some g' := by
      intro base e size A n c xs hb ho g' e'
      injection e' with e'
      subst e'
      rcases hg with hg | hg
      · exact .inl (by omega)
      · exact .inr (fun e => by have := (ho.lt e).2; omega)
    exact ⟨fun e => (by injection e with e; omega), fun g' e => (by injection e with e; subst e; show B ≤ _; omega), key (Nat.le_refl _) HC, key (Nat.le_refl _) HE, key (Nat.le_refl _) HM, key h5 HP, fun e => (by injection e with e; omega), fun g' e => (by injection e with e; omega), trivial⟩
  · rintro e W' ⟨rfl, hAll, hs⟩
    simp only [List.set_cons_succ, List.set_cons_zero] at hAll
    refine ⟨rfl, { all := ?_, wB := h1, Bl := h2, lr := h3, rb := h4, b12 := h5, bW := by omega, cap := h.cap, ne := h.ne, lens := h.lens }⟩
    exact ⟨hAll.at_ 2 rfl, hAll.at_ 3 rfl, hAll.at_ 1 rfl, hAll.at_ 4 rfl, hAll.at_ 5 rfl, hAll.at_ 6 rfl, hAll.at_ 7 rfl, hAll.at_ 8 rfl, hAll.at_ 9 rfl, trivial⟩
end
theorem header_st (w : World) (gl gr B : Nat) (sl : Sl) (cur : List (List ByteArray)) (W : World) (hA : All W [.cells gr 64 [.string ByteArray.empty, .string ByteArray.empty, .string ByteArray.empty, .int .i64 0, slN.v, slN.v, slN.v, slN.v, .bool false], .cells gl 47 [sl.v], .low (Go.AdR.Low.lines B sl.A sl.n cur), .cells w.heap.size 31 recZ, .kept w w.heap.size]) (h1 : w.heap.size < B) (h2 : B ≤ gl) (h3 : gl < gr) (hC : sl.n ≤ sl.c ∧ sl.c ≤ maxLen) (hne : ∀ l ∈ cur, l ≠ []) (A1 A2 : Option Addr) (c1 c2 : Nat) (f cmd : List ByteArray) (hS1 : Strs W B A1 f.length f) (hS2 : Strs W B A2 cmd.length cmd) (hcn : cmd.length ≤ 1000000) :
    Calls Tryz.prog 22 #[.pointer (some ⟨gr, 0, none⟩), .slice A1 f.length c1, .slice A2 cmd.length c2] W fun e W' =>
      e = .returned (.tuple #[]) ∧ ∃ sc, RdS w gl gr B W.heap.size W.heap.size (.string (hdV f).1) (.string (hdV f).2.1) (.string (hdV f).2.2.1) (.int .i64 (hdV f).2.2.2) sl sc slN slN slN cur (hdC f cmd) [] [] [] (hdB f) W' := by
  have hgrW := Cells.lt (hA.at_ 0 rfl)
  have hBW := (hA.at_ 2 rfl : _ ∧ B ≤ W.heap.size).2
  have hR : All W (.low (Go.AdR.Low.strs B A1 f.length f) :: .low (Go.AdR.Low.strs B A2 cmd.length cmd) :: .cells gr 64 [.string ByteArray.empty, .string ByteArray.empty, .string ByteArray.empty, .int .i64 0, slN.v, slN.v, slN.v, slN.v, .bool false] :: [.cells gl 47 [sl.v], .low (Go.AdR.Low.lines B sl.A sl.n cur), .cells w.heap.size 31 recZ, .kept w w.heap.size]) := ⟨⟨hS1, hBW⟩, ⟨hS2, hBW⟩, hA.at_ 0 rfl, hA.at_ 1 rfl, hA.at_ 2 rfl, hA.at_ 3 rfl, hA.at_ 4 rfl, trivial⟩
  refine (header_any W gr B A1 f.length c1 f A2 cmd.length c2 cmd _ _ _ _ _ _ _ _ false _ hR hcn (by omega) ?_).mono ?_
  · intro g hg
    exact ⟨fun e => (by injection e with e; omega), fun g' e => (by injection e with e; subst e; show B ≤ _; omega), fun e => (by injection e with e; omega), fun g' e => (by injection e with e; omega), trivial⟩
  · rintro e W' ⟨rfl, hs, ⟨hn, hAll⟩ | ⟨f0, f1, f2, f3, A', c', rfl, hAll, hO⟩⟩
    · obtain ⟨e1, e2, e3⟩ := hd_not (cmd := cmd) hn
      rw [e1, e2, e3]
      exact ⟨rfl, slN, { all := ⟨hAll.at_ 3 rfl, hAll.at_ 4 rfl, hAll.at_ 2 rfl, Go.Adm.Own.nil _ _ _ _, Go.Adm.Own.nil _ _ _ _, Go.Adm.Own.nil _ _ _ _, Go.Adm.Own.nil _ _ _ _, hAll.at_ 5 rfl, hAll.at_ 6 rfl, trivial⟩, wB := h1, Bl := h2, lr := h3, rb := hgrW, b12 := Nat.le_refl _, bW := hs, cap := hC, ne := hne, lens := ⟨rfl, rfl, rfl, rfl⟩ }⟩
    · exact ⟨rfl, ⟨A', cmd.length, c'⟩, { all := ⟨hAll.at_ 3 rfl, hAll.at_ 4 rfl, by simpa [hdV, hdB, Sl.v] using (hAll.at_ 2 rfl), hO, Go.Adm.Own.nil _ _ _ _, Go.Adm.Own.nil _ _ _ _, Go.Adm.Own.nil _ _ _ _, hAll.at_ 5 rfl, hAll.at_ 6 rfl, trivial⟩, wB := h1, Bl := h2, lr := h3, rb := hgrW, b12 := Nat.le_refl _, bW := hs, cap := hC, ne := hne, lens := ⟨rfl, rfl, rfl, rfl⟩ }⟩
end Go.Proofs.YtjdinakdkdjocaaGreatDoor
set_option linter.unusedSimpArgs false
set_option linter.unusedVariables false
set_option maxRecDepth 100000
namespace Go.AdR
open Go Go.RowKit Go.Adm
theorem decR_good {b : List UInt8} : ∀ l ∈ (decR b).1, l ≠ [] ∧ l.length ≤ 120 ∧ ∀ s ∈ l, s.size ≤ 32768 := by
  by_cases h0 : (decR b).2 = 0
  · have h := (decR_zero h0 rfl).1
    have h2 := linesE_zero.1 (docE_zero h).2.1
    intro l hl
    have h3 := h2 l hl
    unfold lineE at h3
    split at h3
    · cases h3
    · rename_i q1
      split at h3
      · cases h3
      · rename_i q2
        split at h3
        · cases h3
        · rename_i q3
          refine ⟨fun e => q1 (by rw [e]; rfl), by omega, fun s hs => ?_⟩
          have : decide (32768 < s.size) = false := by
            cases hd : decide (32768 < s.size) with
            | false => rfl
            | true => exact absurd (List.any_eq_true.2 ⟨s, hs, hd⟩) q3
          simpa using this
  · intro l hl
    have : (decR b).1 = [] := by
      by_cases q1 : 262144 < b.length
      · rw [decR_long q1]
      · cases q2 : decO b with
        | none => rw [decR_none q1 q2]
        | some ls =>
          by_cases q3 : 1000 < ls.length
          · rw [decR_many q1 q2 q3]
          · exact absurd (by rw [decR_ok q1 q2 q3]) h0
    rw [this] at hl
    cases hl
theorem decR_count (b : List UInt8) : (decR b).1.length ≤ 1000 := by
  by_cases q1 : 262144 < b.length
  · rw [decR_long q1]; decide
  · cases q2 : decO b with
    | none => rw [decR_none q1 q2]; decide
    | some ls =>
      by_cases q3 : 1000 < ls.length
      · rw [decR_many q1 q2 q3]; decide
      · rw [decR_ok q1 q2 q3]; show ls.length ≤ 1000; omega
def pvOk (l : List ByteArray) : Bool := (pv l).isSome
theorem varOf_pv (t : ByteArray) (l : List ByteArray) : varOf (t :: l) = pv l := by
  match l with
  | [] => rfl
  | [_] => rfl
  | [_, _] => rfl
  | _ :: _ :: _ :: _ => rfl
theorem isTag_self (t : ByteArray) (l : List ByteArray) : isTag t (t :: l) = true := by simp [isTag]
theorem map_tag {t : ByteArray} (es : List (List ByteArray)) : ∀ x ∈ es.map (t :: ·), isTag t x = true := by
  intro x hx
  obtain ⟨l, _, rfl⟩ := List.mem_map.1 hx
  exact isTag_self t l
theorem fm_pv (t : ByteArray) : ∀ es : List (List ByteArray), (es.map (t :: ·)).filterMap varOf = es.filterMap pv
  | [] => rfl
  | l :: es => by
    rw [List.map_cons, List.filterMap_cons, List.filterMap_cons, varOf_pv, fm_pv t es]
theorem all_pv (t : ByteArray) (es : List (List ByteArray)) : (es.map (t :: ·)).all (fun l => (varOf l).isSome) = es.all pvOk := by
  rw [List.all_map]
  congr 1
  funext l
  show (varOf (t :: l)).isSome = _
  rw [varOf_pv]; rfl
theorem all_ent (t : ByteArray) (es : List (List ByteArray)) : (es.map (t :: ·)).all (fun l => (lineOf t l).isSome) = es.all (fun l => (entOf l).isSome) := by
  rw [List.all_map]
  congr 1
  funext l
  show (lineOf t (t :: l)).isSome = _
  rw [lineOf_tag]
def parB (f : List ByteArray) (es ms ps cur : List (List ByteArray)) : Bool := ((hdB f || !es.all pvOk) || !ms.all fun l => (entOf l).isSome) || !ps.all fun l => (entOf l).isSome
def parR (f cmd : List ByteArray) (es ms ps : List (List ByteArray)) : Rec := ⟨(hdV f).1, (hdV f).2.1, (hdV f).2.2.1, (hdV f).2.2.2, hdC f cmd, es.filterMap pv, ms.map entD, ps.map entD⟩
theorem tail_parts {es ms ps cur1 cur2 cur3 : List (List ByteArray)} (h1 : takeS envW cur1 = none) (e1 : cur1 = ms.map (matW :: ·) ++ cur2) (h2 : takeS matW cur2 = none) (e2 : cur2 = ps.map (proW :: ·) ++ cur3) (h3 : takeS proW cur3 = none) :
    (tailOk (es.map (envW :: ·) ++ cur1) = (es.all pvOk && ((ms.all fun l => (entOf l).isSome) && ((ps.all fun l => (entOf l).isSome) && cur3.isEmpty)))) ∧ ∀ a b c k cmd, tailOk (es.map (envW :: ·) ++ cur1) = true → tailR a b c k cmd (es.map (envW :: ·) ++ cur1) = ⟨a, b, c, k, cmd, es.filterMap pv, ms.map entD, ps.map entD⟩ := by
  obtain ⟨a1, a2⟩ := cut_pre (es.map (envW :: ·)) cur1 (map_tag es) (takeS_none h1)
  obtain ⟨b1, b2⟩ := cut_pre (ms.map (matW :: ·)) cur2 (map_tag ms) (takeS_none h2)
  obtain ⟨c1, c2⟩ := cut_pre (ps.map (proW :: ·)) cur3 (map_tag ps) (takeS_none h3)
  rw [← e1] at b1 b2
  rw [← e2] at c1 c2
  have hok : tailOk (es.map (envW :: ·) ++ cur1) = (es.all pvOk && ((ms.all fun l => (entOf l).isSome) && ((ps.all fun l => (entOf l).isSome) && cur3.isEmpty))) := by
    unfold tailOk
    rw [a1, a2, b1, b2, c1, c2, all_pv, all_ent, all_ent]
  refine ⟨hok, fun a b c k cmd h => ?_⟩
  rw [hok] at h
  simp only [Bool.and_eq_true] at h
  unfold tailR
  rw [a1, a2, b1, b2, c1, fm_pv, ← ents_good ms h.2.1, ← ents_good ps h.2.2.1]
theorem recParse_parts {f cmd : List ByteArray} {es ms ps cur1 cur2 cur3 : List (List ByteArray)} (h1 : takeS envW cur1 = none) (e1 : cur1 = ms.map (matW :: ·) ++ cur2) (h2 : takeS matW cur2 = none) (e2 : cur2 = ps.map (proW :: ·) ++ cur3) (h3 : takeS proW cur3 = none) :
    recParse ((recW :: f) :: (cmdW :: cmd) :: (es.map (envW :: ·) ++ cur1)) = if (parB f es ms ps cur3 || !cur3.isEmpty) = true then none else some (parR f cmd es ms ps) := by
  obtain ⟨hok, hR⟩ := tail_parts (es := es) h1 e1 h2 e2 h3
  have key : parB f es ms ps cur3 = (hdB f || !(es.all pvOk && ((ms.all fun l => (entOf l).isSome) && (ps.all fun l => (entOf l).isSome)))) := by
    unfold parB
    cases hdB f <;> cases es.all pvOk <;> cases (ms.all fun l => (entOf l).isSome) <;> cases (ps.all fun l => (entOf l).isSome) <;> rfl
  match f with
  | [f0, f1, f2, f3] =>
    have e : recParse ((recW :: [f0, f1, f2, f3]) :: (cmdW :: cmd) :: (es.map (envW :: ·) ++ cur1)) = (match parseS f3.data.toList with
      | some k => if tailOk (es.map (envW :: ·) ++ cur1) = true then some (tailR f0 f1 f2 k cmd (es.map (envW :: ·) ++ cur1)) else none
      | none => none) := by
      rw [recParse, if_pos (by decide)]
      rfl
    rw [e, key]
    show _ = if (((!(parseS f3.data.toList).isSome) || _) || _) = true then none else some (⟨f0, f1, f2, (((parseS f3.data.toList).getD 0 : Nat) : Int), cmd, _, _, _⟩ : Rec)
    cases hp : parseS f3.data.toList with
    | none => rfl
    | some k =>
      show (if tailOk (es.map (envW :: ·) ++ cur1) = true then some (tailR f0 f1 f2 k cmd (es.map (envW :: ·) ++ cur1)) else none) = if ((false || !(es.all pvOk && ((ms.all fun l => (entOf l).isSome) && (ps.all fun l => (entOf l).isSome)))) || !cur3.isEmpty) = true then none else some (⟨f0, f1, f2, (k : Int), cmd, _, _, _⟩ : Rec)
      cases ht : tailOk (es.map (envW :: ·) ++ cur1) with
      | true =>
        have h5 := ht
        rw [hok] at h5
        simp only [Bool.and_eq_true] at h5
        rw [if_pos rfl, hR f0 f1 f2 k cmd ht, if_neg]
        rw [h5.1, h5.2.1, h5.2.2.1, h5.2.2.2]; decide
      | false =>
        rw [hok] at ht
        rw [if_neg (by decide), if_pos]
        clear key hok hR e h1 h2 h3 e1 e2 hp
        generalize es.all pvOk = q1 at *
        generalize (ms.all fun l => (entOf l).isSome) = q2 at *
        generalize (ps.all fun l => (entOf l).isSome) = q3 at *
        generalize cur3.isEmpty = q4 at *
        revert ht
        revert q1 q2 q3 q4
        decide
  | [] => rfl
  | [_] => rfl
  | [_, _] => rfl
  | [_, _, _] => rfl
  | _ :: _ :: _ :: _ :: _ :: _ => rfl
theorem recParse_first {ls : List (List ByteArray)} (h : takeS recW ls = none) : recParse ls = none := by
  unfold recParse
  split
  · rename_i t0 run scope step nu t1 cmd rest
    have : ¬ t0 = recW := by
      intro e
      subst e
      simp [takeS] at h
    rw [if_neg (by simp [this])]
  · rfl
theorem recParse_second {f : List ByteArray} {ls : List (List ByteArray)} (h : takeS cmdW ls = none) : recParse ((recW :: f) :: ls) = none := by
  unfold recParse
  split
  · rename_i t0 run scope step nu t1 cmd rest he
    injection he with h1 h2
    subst h2
    have : ¬ t1 = cmdW := by
      intro e
      subst e
      simp [takeS] at h
    rw [if_neg (by simp [this])]
  · rfl
end Go.AdR
namespace Go.Proofs.YtjdinakdkdjocaaGreatDoor
open Go Go.RowKit Go.Adm Go.AdR
/-- what Decode answers -/
noncomputable def recRes (b : List UInt8) : Rec × Int := if (decR b).2 ≠ 0 then (recN, (decR b).2) else match recParse (decR b).1 with
  | none => (recN, 2)
  | some x => if recB x = true then (x, 0) else (recN, 1)
theorem recRes_err {b : List UInt8} (h : (decR b).2 ≠ 0) : recRes b = (recN, (decR b).2) := by unfold recRes; rw [if_pos h]
theorem recRes_none {b : List UInt8} (h : (decR b).2 = 0) (h2 : recParse (decR b).1 = none) : recRes b = (recN, 2) := by unfold recRes; rw [if_neg (by simp [h]), h2]
theorem recRes_some {b : List UInt8} {x : Rec} (h : (decR b).2 = 0) (h2 : recParse (decR b).1 = some x) : recRes b = if recB x = true then (x, 0) else (recN, 1) := by unfold recRes; rw [if_neg (by simp [h]), h2]
/-- what is read out of decoded lines is small -/
theorem parsed_ok {b : List UInt8} {x : Rec} (h : recParse (decR b).1 = some x) : RecOk x ∧ 0 ≤ x.t ∧ x.t ≤ 1099511627776 := by
  have hg := decR_good (b := b)
  have hc := decR_count b
  have hls := recParse_ls h
  rw [← hls] at hg hc
  have hin : ∀ l ∈ recLs x, ∀ s ∈ l, s.size ≤ 32768 := fun l hl => (hg l hl).2.2
  have hx : recLs x = [recW, x.run, x.scope, x.step, (⟨(Lib.itoa x.t).toArray⟩ : ByteArray)] :: (cmdW :: x.cmd) :: (x.env.map envLn ++ (x.mat.map (entLn matW) ++ x.prod.map (entLn proW))) := by
    show [[recW, x.run, x.scope, x.step, (⟨(Lib.itoa x.t).toArray⟩ : ByteArray)], cmdW :: x.cmd] ++ x.env.map envLn ++ x.mat.map (entLn matW) ++ x.prod.map (entLn proW) = _
    simp
  have hcmd := (hg (cmdW :: x.cmd) (by rw [hx]; simp)).2.1
  have h0 := hin _ (by rw [hx]; exact List.mem_cons_self)
  rw [hx] at hc
  simp only [List.length_cons, List.length_append, List.length_map] at hc hcmd
  have key : (∀ y ∈ x.mat, y.d.length = 32) ∧ (∀ y ∈ x.prod, y.d.length = 32) ∧ 0 ≤ x.t ∧ x.t ≤ 1099511627776 := by
    have h32 : ∀ (tag : ByteArray) (l : List ByteArray) (y : E), lineOf tag l = some y → y.d.length = 32 := by
      intro tag l y hy
      unfold lineOf at hy
      split at hy
      · split at hy
        · rw [Option.map_eq_some_iff] at hy
          obtain ⟨v, hv, rfl⟩ := hy
          exact AdP.parseD_32 hv
        · cases hy
      · cases hy
    clear hx hcmd h0 hc hin hg hls
    unfold recParse at h
    split at h
    · split at h
      · split at h
        · rename_i k hk
          split at h
          · injection h with h
            subst h
            refine ⟨fun y hy => ?_, fun y hy => ?_, ?_⟩
            · obtain ⟨l, _, hl⟩ := List.mem_filterMap.1 hy
              exact h32 _ l y hl
            · obtain ⟨l, _, hl⟩ := List.mem_filterMap.1 hy
              exact h32 _ l y hl
            · have := (parse_back hk).2
              show 0 ≤ (k : Int) ∧ (k : Int) ≤ 1099511627776
              omega
          · cases h
        · cases h
      · cases h
    · cases h
  have hm : ∀ y ∈ x.mat, y.p.size ≤ 32768 := fun y hy => hin (entLn matW y) (by rw [hx]; simp; exact .inr (.inr (.inr (.inl ⟨y, hy, rfl⟩)))) y.p (by simp [entLn])
  have hp : ∀ y ∈ x.prod, y.p.size ≤ 32768 := fun y hy => hin (entLn proW y) (by rw [hx]; simp; exact .inr (.inr (.inr (.inr ⟨y, hy, rfl⟩)))) y.p (by simp [entLn])
  have he : ∀ y ∈ x.env, y.n.size ≤ 32768 ∧ y.v.size ≤ 32768 := fun y hy => ⟨hin (envLn y) (by rw [hx]; simp; exact .inr (.inr (.inl ⟨y, hy, rfl⟩))) y.n (by simp [envLn]), hin (envLn y) (by rw [hx]; simp; exact .inr (.inr (.inl ⟨y, hy, rfl⟩))) y.v (by simp [envLn])⟩
  refine ⟨⟨?_, ?_, ?_, fun e he' => ?_, fun e he' => ⟨key.1 e he', ?_⟩, fun e he' => ⟨key.2.1 e he', ?_⟩, by omega, by omega, by omega, by omega⟩, key.2.2⟩
  · have := h0 x.run (by simp); omega
  · have := h0 x.step (by simp); omega
  · have := h0 x.scope (by simp); omega
  · have := he e he'; exact ⟨by omega, by omega⟩
  · have := hm e he'; omega
  · have := hp e he'; omega
def RdPost (b : List UInt8) (w : World) (e : Ending) (w' : World) : Prop := ∃ sc se sm sp, e = .returned (.tuple #[.agg (recC (recRes b).1 sc se sm sp).toArray, .int .i64 (recRes b).2]) ∧ RecIn w' w'.heap.size (recRes b).1 sc se sm sp ∧ Below w.heap.size w w'
end Go.Proofs.YtjdinakdkdjocaaGreatDoor

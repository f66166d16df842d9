/- Valid on both sides. -/
import Derived.Test.YtkcmaembpfakdaaGreatDoorSto4
import Derived.Test.YtkcmaembpfakdaaGreatDoorFreeH
set_option linter.unusedSimpArgs false
set_option linter.unusedVariables false
set_option maxRecDepth 100000
namespace Go.Adm
open Go Go.RowKit
def goodB (x : Bl) : Bool := decide (x.n ≤ 262144)
def okAtB1 (l : List Bl) (k : Nat) (e : Bl) : Bool := goodB e && (match k with | 0 => true | j + 1 => match l[j]? with | none => true | some e' => lessD e'.d e.d)
def okAtB (l : List Bl) (k : Nat) : Bool := match l[k]? with | none => true | some e => okAtB1 l k e
theorem okAtB_at (l : List Bl) (k : Nat) (hk : k < l.length) : okAtB l k = okAtB1 l k l[k] := by
  unfold okAtB
  rw [List.getElem?_eq_getElem hk]
theorem okAtB1_bad (l : List Bl) (k : Nat) (e : Bl) (h : goodB e = false) : okAtB1 l k e = false := by simp [okAtB1, h]
theorem okAtB1_zero (l : List Bl) (k : Nat) (e : Bl) (h : goodB e = true) (hk : k = 0) : okAtB1 l k e = true := by subst hk; simp [okAtB1, h]
theorem okAtB1_succ (l : List Bl) (k j : Nat) (e : Bl) (h : goodB e = true) (hk : k = j + 1) (hj : j < l.length) {v : Bool} (hv : lessD l[j].d e.d = v) : okAtB1 l k e = v := by
  subst hk
  simp [okAtB1, h, hj, hv]
/-- whether a list is a store -/
def validB (l : List Bl) : Bool := decide (l.length ≤ 256) && (List.range l.length).all (okAtB l)
theorem validB_no (l : List Bl) (k : Nat) (hk : k < l.length) (h : okAtB l k = false) : validB l = false := by
  have : (List.range l.length).all (okAtB l) = false := by
    rw [List.all_eq_false]
    exact ⟨k, List.mem_range.2 hk, by rw [h]; decide⟩
  rw [validB, this, Bool.and_false]
theorem validB_all (l : List Bl) (h : ∀ i < l.length, okAtB l i = true) : validB l = decide (l.length ≤ 256) := by
  have : (List.range l.length).all (okAtB l) = true := List.all_eq_true.2 fun i hi => h i (List.mem_range.1 hi)
  rw [validB, this, Bool.and_true]
theorem validB_long (l : List Bl) (h : 256 < l.length) : validB l = false := by
  rw [validB, decide_eq_false (by omega), Bool.false_and]
end Go.Adm
namespace Go.Proofs.YtkcmaembpfakdaaGreatDoor
open Go Go.RowKit Go.Adm

set_option maxHeartbeats 3200000 in
theorem Valid_any (w : World) (B : Nat) (A : Option Addr) (n c : Nat) (l : List Bl) (hl : Blobs w B A n l) (hn2 : n ≤ 1000000) (hB : B ≤ w.heap.size) (hbig : ∀ x ∈ l, x.n ≤ 140737488355000) :
    Calls Tryz.prog 38 #[.slice A n c] w fun e w' => e = .returned (.bool (validB l)) ∧ Below w.heap.size w w' := by
  have hR : All w [.low (.blobs B A n l), .kept w w.heap.size] := ⟨⟨hl, hB⟩, ⟨Below.refl _ _, Nat.le_refl _⟩, trivial⟩
  have HN := Lib.hid hl.len
  have HBIG := Lib.hid hbig
  clear hl hbig
  have hzr := zero_bl
  go_enter Tryz.func38, Tryz.ntmps38
  go_upto_region 1 with (fail)
  have hI0 := hR
  clear hR
  go_wp2
  go_loopw [7] (fun i wr => ∃ (k : Nat), k ≤ n ∧ i = .int .i64 k ∧ (∀ i < k, okAtB l i = true) ∧ All wr [.low (.blobs B A n l), .kept w w.heap.size]) (fun i _ => n - (intOf i).toNat)
  case atStart => exact ⟨0, by omega, rfl, fun i hi => absurd hi (by omega), hI0⟩
  case round =>
    obtain ⟨k, hk, rfl, hA, hI⟩ := hrel
    have HA := Lib.hid hA
    clear hA hI0
    by_cases hlt : k < n
    · have hkl : k < l.length := by rw [HN.out]; exact hlt
      have hbl := (hI.at_ 0 rfl : Blobs wr B A n l ∧ B ≤ wr.heap.size)
      obtain ⟨ad, rfl, hadB, hc⟩ := Els.elem hbl.1.els hkl
      have HC := Lib.hid hc
      have hx := Lib.hid (hbl.1.each _ (List.getElem_mem hkl)).d32
      have hxb : Hid (l[k].n ≤ 140737488355000) := Lib.hid (HBIG.out _ (List.getElem_mem hkl))
      have HO : Hid (∀ v, okAtB1 l k l[k] = v → okAtB l k = v) := Lib.hid (fun v hv => by rw [okAtB_at _ _ hkl]; exact hv)
      have HJD : Hid (∀ j (hjl : j < l.length), l[j].d.length = 32) := Lib.hid (fun j hjl => (hbl.1.each _ (List.getElem_mem hjl)).d32)
      clear hc hbl
      generalize l[k] = x at *
      have hsz : w.heap.size ≤ wr.heap.size := hI.size_kept 1 rfl
      have d1 : decide ((k : Int) < (n : Int)) = true := by simp; omega
      have wk0 : (0 : Int) ≤ (k : Int) := by omega
      have wk1 : (k : Int) < (n : Int) := by omega
      have wk2 : ((k : Int)).toNat = k := by omega
      obtain ⟨gx, hgx⟩ : ∃ gx, gx = wr.heap.size := ⟨_, rfl⟩
      go_upto_region 4 with (first
        | (refine wl_load_any rfl 51 (.tmp 10) rfl (ad.add (k * 33)) rfl (blC x) _ HC.out Tryz.underlying51 rfl (by rw [blC_len hx.out]; kernel_rfl) ?_)
        | (refine wl_store_at (hI.new (l := blZ) _ 51 hgx rfl) 0 rfl 51 (.tmp 4) (.tmp 11) rfl gx _ _ (blC x) rfl (by rw [hgx]; rfl) rfl (by rw [blC_len hx.out]; rfl) (by rw [blC_len hx.out]; kernel_rfl) (blC_one x) (by simp [Apart, Res.apart, Low.blobs] <;> omega) ?_; intro W2 hW2 hs2; clear hs2; simp only [List.set_cons_zero] at hW2))
      simp only [← hgx]
      have hgB : B ≤ gx := by
        have := (hI.at_ 0 rfl : Blobs wr B (some ad) n l ∧ B ≤ wr.heap.size).2
        omega
      have HLAST : Hid (∀ W, All W [.cells gx 51 (blC x), .low (.blobs B (some ad) n l), .kept w w.heap.size] → W.cell? ⟨gx, 32, none⟩ = some (.slice x.A x.n x.c)) := Lib.hid (fun W hW => by
        have h1 := bl_last hx.out
        have h2 := (List.getElem?_eq_some_iff.1 h1).1
        rw [Cells.cell (hW.at_ 0 rfl : Cells W gx _ _) h2]
        rw [List.getElem?_eq_getElem h2] at h1
        exact h1)
      clear hgx hI
      have hxn : x.n ≤ 140737488355000 := hxb.out
      by_cases hp : 262144 < x.n
      · have HF : Hid (okAtB l k = false) := Lib.hid (HO.out _ (okAtB1_bad _ _ _ (by rw [goodB]; simp; omega)))
        replace HF : Hid (validB l = false) := Lib.hid (validB_no l k hkl HF.out)
        have d5 : decide (262144 < (x.n : Int)) = true := by simp; omega
        have d6 : decide (262144 < x.n) = true := by simp; omega
        clear hp
        refine wp_region_hopsH 19 (12 :: 13 :: 14 :: 15 :: 16 :: 17 :: 18 :: 19 :: 20 :: 21 :: 22 :: 23 :: 24 :: 25 :: 26 :: 27 :: 28 :: 29 :: 30 :: []) _
          (.eq (.pointer (some ⟨gx, 32, none⟩)) :: .eq (.slice x.A x.n x.c) :: .eq (.int .i64 (x.n : Int)) :: .eq (.bool true) :: .eq (.bool true) :: .eq undef :: .eq undef :: .eq undef :: .eq undef :: .eq undef :: .eq undef :: .eq undef :: .eq undef :: .eq undef :: .eq undef :: .eq undef :: .eq undef :: .eq undef :: .eq undef :: [])
          (by kernel_rfl) (by kernel_rfl) hW2 rfl ?hops ?fin
        case hops =>
          refine ⟨?_, ?_, ?_, ?_, ?_, ?_, ?_, ?_, ?_, ?_, ?_, ?_, ?_, ?_, ?_, ?_, ?_, ?_, ?_, trivial⟩
          · intro a W hW hb hd K hK
            have b4 := hb 4 rfl
            go_simp
            exact hK _ _ (World.grownBy.refl _ _) rfl
          · intro a W hW hb hd K hK
            have b12 : a.tmps[12]?.getD undef = _ := hd ⟨0, .data⟩ (by simp) rfl
            have q1 : W.cell? ⟨gx, 32, none⟩ = some (.slice x.A x.n x.c) := HLAST.out W hW
            go_simp
            exact hK _ _ (World.grownBy.refl _ _) rfl
          · intro a W hW hb hd K hK
            have b13 : a.tmps[13]?.getD undef = _ := hd ⟨1, .data⟩ (by simp) rfl
            go_simp
            exact hK _ _ (World.grownBy.refl _ _) rfl
          · intro a W hW hb hd K hK
            have b14 : a.tmps[14]?.getD undef = _ := hd ⟨2, .data⟩ (by simp) rfl
            go_simp
            exact hK _ _ (World.grownBy.refl _ _) rfl
          · intro a W hW hb hd K hK
            have b15 : a.tmps[15]?.getD undef = _ := hd ⟨3, .data⟩ (by simp) rfl
            go_simp
            exact hK _ _ (World.grownBy.refl _ _) rfl
          · exact Or.inr ⟨fun v w h => by rw [show v = _ from h]; first | (intro h2; cases h2) | (simp [undef]), fun w => rfl⟩
          · exact Or.inr ⟨fun v w h => by rw [show v = _ from h]; first | (intro h2; cases h2) | (simp [undef]), fun w => rfl⟩
          · exact Or.inr ⟨fun v w h => by rw [show v = _ from h]; first | (intro h2; cases h2) | (simp [undef]), fun w => rfl⟩
          · exact Or.inr ⟨fun v w h => by rw [show v = _ from h]; first | (intro h2; cases h2) | (simp [undef]), fun w => rfl⟩
          · exact Or.inr ⟨fun v w h => by rw [show v = _ from h]; first | (intro h2; cases h2) | (simp [undef]), fun w => rfl⟩
          · exact Or.inr ⟨fun v w h => by rw [show v = _ from h]; first | (intro h2; cases h2) | (simp [undef]), fun w => rfl⟩
          · exact Or.inr ⟨fun v w h => by rw [show v = _ from h]; first | (intro h2; cases h2) | (simp [undef]), fun w => rfl⟩
          · exact Or.inr ⟨fun v w h => by rw [show v = _ from h]; first | (intro h2; cases h2) | (simp [undef]), fun w => rfl⟩
          · exact Or.inr ⟨fun v w h => by rw [show v = _ from h]; first | (intro h2; cases h2) | (simp [undef]), fun w => rfl⟩
          · exact Or.inr ⟨fun v w h => by rw [show v = _ from h]; first | (intro h2; cases h2) | (simp [undef]), fun w => rfl⟩
          · exact Or.inr ⟨fun v w h => by rw [show v = _ from h]; first | (intro h2; cases h2) | (simp [undef]), fun w => rfl⟩
          · exact Or.inr ⟨fun v w h => by rw [show v = _ from h]; first | (intro h2; cases h2) | (simp [undef]), fun w => rfl⟩
          · exact Or.inr ⟨fun v w h => by rw [show v = _ from h]; first | (intro h2; cases h2) | (simp [undef]), fun w => rfl⟩
          · exact Or.inr ⟨fun v w h => by rw [show v = _ from h]; first | (intro h2; cases h2) | (simp [undef]), fun w => rfl⟩
        case fin =>
          intro vs W hW hv
          have e4 : vs 4 = _ := hv 4 (by decide)
          have e18 : vs 18 = _ := hv 18 (by decide)
          clear hv
          simp only [putAll, List.drop_succ_cons, List.drop_zero, e4, e18, Act.put, List.setIfInBounds_toArray, List.set_cons_succ, List.set_cons_zero]
          clear e4 e18
          go_wp2_with fail
          go_ret
          exact ⟨ret_bool (by rw [HF.out]), (hW.at_ 2 rfl : _ ∧ _).1⟩
      · have HG : Hid (goodB x = true) := Lib.hid (by rw [goodB]; simp; omega)
        have d5 : decide (262144 < (x.n : Int)) = false := by simp; omega
        have d6 : decide (262144 < x.n) = false := by simp; omega
        clear hp
        by_cases hk0 : k = 0
        · have HF : Hid (okAtB l k = true) := Lib.hid (HO.out _ (okAtB1_zero _ _ _ HG.out hk0))
          have d2 : decide (0 < (k : Int)) = false := by simp; omega
          have d3 : decide (0 < k) = false := by simp; omega
          clear hk0
          refine wp_region_hopsH 19 (12 :: 13 :: 14 :: 15 :: 16 :: 17 :: 18 :: 19 :: 20 :: 21 :: 22 :: 23 :: 24 :: 25 :: 26 :: 27 :: 28 :: 29 :: 30 :: []) _
            (.eq (.pointer (some ⟨gx, 32, none⟩)) :: .eq (.slice x.A x.n x.c) :: .eq (.int .i64 (x.n : Int)) :: .eq (.bool false) :: .eq (.bool false) :: .eq (.int .i64 k) :: .eq (.bool false) :: .eq (.bool false) :: .eq undef :: .eq undef :: .eq undef :: .eq undef :: .eq undef :: .eq undef :: .eq undef :: .eq undef :: .eq undef :: .eq undef :: .eq (.bool false) :: [])
            (by kernel_rfl) (by kernel_rfl) hW2 rfl ?hops ?fin
          case hops =>
            refine ⟨?_, ?_, ?_, ?_, ?_, ?_, ?_, ?_, ?_, ?_, ?_, ?_, ?_, ?_, ?_, ?_, ?_, ?_, ?_, trivial⟩
            · intro a W hW hb hd K hK
              have b4 := hb 4 rfl
              go_simp
              exact hK _ _ (World.grownBy.refl _ _) rfl
            · intro a W hW hb hd K hK
              have b12 : a.tmps[12]?.getD undef = _ := hd ⟨0, .data⟩ (by simp) rfl
              have q1 : W.cell? ⟨gx, 32, none⟩ = some (.slice x.A x.n x.c) := HLAST.out W hW
              go_simp
              exact hK _ _ (World.grownBy.refl _ _) rfl
            · intro a W hW hb hd K hK
              have b13 : a.tmps[13]?.getD undef = _ := hd ⟨1, .data⟩ (by simp) rfl
              go_simp
              exact hK _ _ (World.grownBy.refl _ _) rfl
            · intro a W hW hb hd K hK
              have b14 : a.tmps[14]?.getD undef = _ := hd ⟨2, .data⟩ (by simp) rfl
              go_simp
              exact hK _ _ (World.grownBy.refl _ _) rfl
            · intro a W hW hb hd K hK
              have b15 : a.tmps[15]?.getD undef = _ := hd ⟨3, .data⟩ (by simp) rfl
              go_simp
              exact hK _ _ (World.grownBy.refl _ _) rfl
            · refine Or.inl ⟨fun v w h => h, ?_⟩
              intro a W hW hb hd K hK
              have b3 := hb 3 rfl
              go_simp
              exact hK _ _ (World.grownBy.refl _ _) rfl
            · refine Or.inl ⟨fun v w h => h, ?_⟩
              intro a W hW hb hd K hK
              have b17 : a.tmps[17]?.getD undef = _ := hd ⟨5, .data⟩ (by simp) rfl
              go_simp
              exact hK _ _ (World.grownBy.refl _ _) rfl
            · refine Or.inl ⟨fun v w h => h, ?_⟩
              intro a W hW hb hd K hK
              have b18 : a.tmps[18]?.getD undef = _ := hd ⟨6, .data⟩ (by simp) rfl
              go_simp
              exact hK _ _ (World.grownBy.refl _ _) rfl
            · exact Or.inr ⟨fun v w h => by rw [show v = _ from h]; first | (intro h2; cases h2) | (simp [undef]), fun w => rfl⟩
            · exact Or.inr ⟨fun v w h => by rw [show v = _ from h]; first | (intro h2; cases h2) | (simp [undef]), fun w => rfl⟩
            · exact Or.inr ⟨fun v w h => by rw [show v = _ from h]; first | (intro h2; cases h2) | (simp [undef]), fun w => rfl⟩
            · exact Or.inr ⟨fun v w h => by rw [show v = _ from h]; first | (intro h2; cases h2) | (simp [undef]), fun w => rfl⟩
            · exact Or.inr ⟨fun v w h => by rw [show v = _ from h]; first | (intro h2; cases h2) | (simp [undef]), fun w => rfl⟩
            · exact Or.inr ⟨fun v w h => by rw [show v = _ from h]; first | (intro h2; cases h2) | (simp [undef]), fun w => rfl⟩
            · exact Or.inr ⟨fun v w h => by rw [show v = _ from h]; first | (intro h2; cases h2) | (simp [undef]), fun w => rfl⟩
            · exact Or.inr ⟨fun v w h => by rw [show v = _ from h]; first | (intro h2; cases h2) | (simp [undef]), fun w => rfl⟩
            · exact Or.inr ⟨fun v w h => by rw [show v = _ from h]; first | (intro h2; cases h2) | (simp [undef]), fun w => rfl⟩
            · exact Or.inr ⟨fun v w h => by rw [show v = _ from h]; first | (intro h2; cases h2) | (simp [undef]), fun w => rfl⟩
            · refine Or.inl ⟨fun v w h => h, ?_⟩
              intro a W hW hb hd K hK
              have b19 : a.tmps[19]?.getD undef = _ := hd ⟨7, .data⟩ (by simp) rfl
              have b29 : a.tmps[29]?.getD undef = _ := hd ⟨17, .data⟩ (by simp) rfl
              go_simp
              exact hK _ _ (World.grownBy.refl _ _) rfl
          case fin =>
            intro vs W hW hv
            have e4 : vs 4 = _ := hv 4 (by decide)
            have e18 : vs 18 = _ := hv 18 (by decide)
            clear hv
            simp only [putAll, List.drop_succ_cons, List.drop_zero, e4, e18, Act.put, List.setIfInBounds_toArray, List.set_cons_succ, List.set_cons_zero]
            clear e4 e18
            go_wp2_with fail
            refine ⟨⟨k + 1, by omega, by go_num, fun i hi => ?_, hW.2⟩, by simp [intOf]; omega⟩
            by_cases hik : i = k
            · rw [hik]; exact HF.out
            · exact HA.out i (by omega)
        · obtain ⟨j, hj⟩ : ∃ j, k = j + 1 := ⟨k - 1, by omega⟩
          have hjl : j < l.length := by omega
          have HY0 : Hid (∀ W, All W [.cells gx 51 (blC x), .low (.blobs B (some ad) n l), .kept w w.heap.size] → ∀ q s, (blC l[j])[q]? = some s → W.cell? ((ad.add (j * 33)).add q) = some s) := Lib.hid (fun W hW => by
              obtain ⟨ad', e, _, hc⟩ := Els.elem (hW.at_ 1 rfl : Blobs W B (some ad) n l ∧ B ≤ W.heap.size).1.els hjl
              obtain rfl := Option.some.inj e
              exact hc)
          have HY := HY0
          have hy := Lib.hid (HJD.out j hjl)
          have HO2 : Hid (∀ v, lessD l[j].d x.d = v → okAtB l k = v) := Lib.hid (fun v hv => HO.out _ (okAtB1_succ _ _ _ _ HG.out hj hjl hv))
          clear HY0
          generalize l[j] = y at *
          have d2 : decide (0 < (k : Int)) = true := by simp; omega
          have d3 : decide (0 < k) = true := by simp; omega
          have w1 : IntKind.i64.wrap ((k : Int) - 1) = (j : Int) := by rw [IntWalk.i64_in _ (by omega)]; omega
          have wj1 : (0 : Int) ≤ (j : Int) := by omega
          have wj2 : (j : Int) < (n : Int) := by omega
          have wj3 : ((j : Int)).toNat = j := by omega
          have HK := Lib.hid hj
          clear hj
          obtain ⟨v, hv⟩ : ∃ v, Lib.compareBytes y.d x.d = v := ⟨_, rfl⟩
          have HV := Lib.hid hv
          have HL : Hid (lessD y.d x.d = decide (v < 0)) := Lib.hid (by rw [lessD, hv])
          clear hv
          cases hb : decide (v < 0) with
          | false =>
            have HF : Hid (okAtB l k = false) := Lib.hid (HO2.out _ (by rw [HL.out, hb]))
            replace HF : Hid (validB l = false) := Lib.hid (validB_no l k hkl HF.out)
            have d7 : decide (0 ≤ v) = true := by have := of_decide_eq_false hb; simp; omega
            clear hb
            refine wp_region_hopsH 19 (12 :: 13 :: 14 :: 15 :: 16 :: 17 :: 18 :: 19 :: 20 :: 21 :: 22 :: 23 :: 24 :: 25 :: 26 :: 27 :: 28 :: 29 :: 30 :: []) _
              (.eq (.pointer (some ⟨gx, 32, none⟩)) :: .eq (.slice x.A x.n x.c) :: .eq (.int .i64 (x.n : Int)) :: .eq (.bool false) :: .eq (.bool false) :: .eq (.int .i64 k) :: .eq (.bool true) :: .eq (.bool true) :: .eq (.slice (some ad) n c) :: .eq (.int .i64 k) :: .eq (.int .i64 j) :: .eq (.pointer (some (ad.add (j * 33)))) :: .eq (.pointer (some (ad.add (j * 33)))) :: .eq (.agg (y.d.map bv).toArray) :: .eq (.pointer (some ⟨gx, 0, none⟩)) :: .eq (.agg (x.d.map bv).toArray) :: .eq (.int .i64 v) :: .eq (.bool true) :: .eq (.bool true) :: [])
              (by kernel_rfl) (by kernel_rfl) hW2 rfl ?hops ?fin
            case hops =>
              refine ⟨?_, ?_, ?_, ?_, ?_, ?_, ?_, ?_, ?_, ?_, ?_, ?_, ?_, ?_, ?_, ?_, ?_, ?_, ?_, trivial⟩
              · intro a W hW hb hd K hK
                have b4 := hb 4 rfl
                go_simp
                exact hK _ _ (World.grownBy.refl _ _) rfl
              · intro a W hW hb hd K hK
                have b12 : a.tmps[12]?.getD undef = _ := hd ⟨0, .data⟩ (by simp) rfl
                have q1 : W.cell? ⟨gx, 32, none⟩ = some (.slice x.A x.n x.c) := HLAST.out W hW
                go_simp
                exact hK _ _ (World.grownBy.refl _ _) rfl
              · intro a W hW hb hd K hK
                have b13 : a.tmps[13]?.getD undef = _ := hd ⟨1, .data⟩ (by simp) rfl
                go_simp
                exact hK _ _ (World.grownBy.refl _ _) rfl
              · intro a W hW hb hd K hK
                have b14 : a.tmps[14]?.getD undef = _ := hd ⟨2, .data⟩ (by simp) rfl
                go_simp
                exact hK _ _ (World.grownBy.refl _ _) rfl
              · intro a W hW hb hd K hK
                have b15 : a.tmps[15]?.getD undef = _ := hd ⟨3, .data⟩ (by simp) rfl
                go_simp
                exact hK _ _ (World.grownBy.refl _ _) rfl
              · refine Or.inl ⟨fun v w h => h, ?_⟩
                intro a W hW hb hd K hK
                have b3 := hb 3 rfl
                go_simp
                exact hK _ _ (World.grownBy.refl _ _) rfl
              · refine Or.inl ⟨fun v w h => h, ?_⟩
                intro a W hW hb hd K hK
                have b17 : a.tmps[17]?.getD undef = _ := hd ⟨5, .data⟩ (by simp) rfl
                go_simp
                exact hK _ _ (World.grownBy.refl _ _) rfl
              · refine Or.inl ⟨fun v w h => h, ?_⟩
                intro a W hW hb hd K hK
                have b18 : a.tmps[18]?.getD undef = _ := hd ⟨6, .data⟩ (by simp) rfl
                go_simp
                exact hK _ _ (World.grownBy.refl _ _) rfl
              · refine Or.inl ⟨fun v w h => h, ?_⟩
                intro a W hW hb hd K hK
                have b0 := hb 0 rfl
                go_simp
                exact hK _ _ (World.grownBy.refl _ _) rfl
              · refine Or.inl ⟨fun v w h => h, ?_⟩
                intro a W hW hb hd K hK
                have b3 := hb 3 rfl
                go_simp
                exact hK _ _ (World.grownBy.refl _ _) rfl
              · refine Or.inl ⟨fun v w h => h, ?_⟩
                intro a W hW hb hd K hK
                have b21 : a.tmps[21]?.getD undef = _ := hd ⟨9, .data⟩ (by simp) rfl
                go_simp
                exact hK _ _ (World.grownBy.refl _ _) rfl
              · refine Or.inl ⟨fun v w h => h, ?_⟩
                intro a W hW hb hd K hK
                have b20 : a.tmps[20]?.getD undef = _ := hd ⟨8, .data⟩ (by simp) rfl
                have b22 : a.tmps[22]?.getD undef = _ := hd ⟨10, .data⟩ (by simp) rfl
                go_simp
                exact hK _ _ (World.grownBy.refl _ _) rfl
              · refine Or.inl ⟨fun v w h => h, ?_⟩
                intro a W hW hb hd K hK
                have b23 : a.tmps[23]?.getD undef = _ := hd ⟨11, .data⟩ (by simp) rfl
                go_simp
                exact hK _ _ (World.grownBy.refl _ _) (by first | rfl | (rw [add_zero]; rfl) | (simp [add_zero]; rfl))
              · refine Or.inl ⟨fun v w h => h, ?_⟩
                intro a W hW hb hd K hK
                have b24 : a.tmps[24]?.getD undef = _ := hd ⟨12, .data⟩ (by simp) rfl
                refine wp_load_any 32 (.tmp 24) rfl (ad.add (j * 33)) (show a.eval (.tmp 24) = _ from by simp only [Act.eval, Array.getD_eq_getD_getElem?]; exact b24) (y.d.map bv) _ (fun q s hs => HY.out W hW q s (by have := bl_sub0 y q s hs; rwa [Nat.zero_add] at this)) Tryz.underlying32 rfl (by rw [List.length_map, hy.out]; kernel_rfl) ?_
                exact hK _ _ (World.grownBy.refl _ _) rfl
              · refine Or.inl ⟨fun v w h => h, ?_⟩
                intro a W hW hb hd K hK
                have b4 := hb 4 rfl
                go_simp
                exact hK _ _ (World.grownBy.refl _ _) rfl
              · refine Or.inl ⟨fun v w h => h, ?_⟩
                intro a W hW hb hd K hK
                have b26 : a.tmps[26]?.getD undef = _ := hd ⟨14, .data⟩ (by simp) rfl
                refine wp_load_any 32 (.tmp 26) rfl ⟨gx, 0, none⟩ (show a.eval (.tmp 26) = _ from by simp only [Act.eval, Array.getD_eq_getD_getElem?]; exact b26) (x.d.map bv) _ (Cells.sub (hW.at_ 0 rfl) 0 (bl_sub0 x)) Tryz.underlying32 rfl (by rw [List.length_map, hx.out]; kernel_rfl) ?_
                exact hK _ _ (World.grownBy.refl _ _) rfl
              · refine Or.inl ⟨fun v w h => h, ?_⟩
                intro a W hW hb hd K hK
                have b25 : a.tmps[25]?.getD undef = _ := hd ⟨13, .data⟩ (by simp) rfl
                have b27 : a.tmps[27]?.getD undef = _ := hd ⟨15, .data⟩ (by simp) rfl
                go_simp
                refine (order_any W y.d x.d hy.out hx.out).mono ?_
                rintro e w' ⟨rfl, hb'⟩
                exact hK _ _ (grown_of_below hb') (congrArg (Value.int .i64) HV.out)
              · refine Or.inl ⟨fun v w h => h, ?_⟩
                intro a W hW hb hd K hK
                have b28 : a.tmps[28]?.getD undef = _ := hd ⟨16, .data⟩ (by simp) rfl
                go_simp
                exact hK _ _ (World.grownBy.refl _ _) rfl
              · refine Or.inl ⟨fun v w h => h, ?_⟩
                intro a W hW hb hd K hK
                have b19 : a.tmps[19]?.getD undef = _ := hd ⟨7, .data⟩ (by simp) rfl
                have b29 : a.tmps[29]?.getD undef = _ := hd ⟨17, .data⟩ (by simp) rfl
                go_simp
                exact hK _ _ (World.grownBy.refl _ _) rfl
            case fin =>
              intro vs W hW hv
              have e4 : vs 4 = _ := hv 4 (by decide)
              have e18 : vs 18 = _ := hv 18 (by decide)
              clear hv
              simp only [putAll, List.drop_succ_cons, List.drop_zero, e4, e18, Act.put, List.setIfInBounds_toArray, List.set_cons_succ, List.set_cons_zero]
              clear e4 e18
              go_wp2_with fail
              go_ret
              exact ⟨ret_bool (by rw [HF.out]), (hW.at_ 2 rfl : _ ∧ _).1⟩
          | true =>
            have HF : Hid (okAtB l k = true) := Lib.hid (HO2.out _ (by rw [HL.out, hb]))
            have d7 : decide (0 ≤ v) = false := by have := of_decide_eq_true hb; simp; omega
            clear hb
            refine wp_region_hopsH 19 (12 :: 13 :: 14 :: 15 :: 16 :: 17 :: 18 :: 19 :: 20 :: 21 :: 22 :: 23 :: 24 :: 25 :: 26 :: 27 :: 28 :: 29 :: 30 :: []) _
              (.eq (.pointer (some ⟨gx, 32, none⟩)) :: .eq (.slice x.A x.n x.c) :: .eq (.int .i64 (x.n : Int)) :: .eq (.bool false) :: .eq (.bool false) :: .eq (.int .i64 k) :: .eq (.bool true) :: .eq (.bool true) :: .eq (.slice (some ad) n c) :: .eq (.int .i64 k) :: .eq (.int .i64 j) :: .eq (.pointer (some (ad.add (j * 33)))) :: .eq (.pointer (some (ad.add (j * 33)))) :: .eq (.agg (y.d.map bv).toArray) :: .eq (.pointer (some ⟨gx, 0, none⟩)) :: .eq (.agg (x.d.map bv).toArray) :: .eq (.int .i64 v) :: .eq (.bool false) :: .eq (.bool false) :: [])
              (by kernel_rfl) (by kernel_rfl) hW2 rfl ?hops ?fin
            case hops =>
              refine ⟨?_, ?_, ?_, ?_, ?_, ?_, ?_, ?_, ?_, ?_, ?_, ?_, ?_, ?_, ?_, ?_, ?_, ?_, ?_, trivial⟩
              · intro a W hW hb hd K hK
                have b4 := hb 4 rfl
                go_simp
                exact hK _ _ (World.grownBy.refl _ _) rfl
              · intro a W hW hb hd K hK
                have b12 : a.tmps[12]?.getD undef = _ := hd ⟨0, .data⟩ (by simp) rfl
                have q1 : W.cell? ⟨gx, 32, none⟩ = some (.slice x.A x.n x.c) := HLAST.out W hW
                go_simp
                exact hK _ _ (World.grownBy.refl _ _) rfl
              · intro a W hW hb hd K hK
                have b13 : a.tmps[13]?.getD undef = _ := hd ⟨1, .data⟩ (by simp) rfl
                go_simp
                exact hK _ _ (World.grownBy.refl _ _) rfl
              · intro a W hW hb hd K hK
                have b14 : a.tmps[14]?.getD undef = _ := hd ⟨2, .data⟩ (by simp) rfl
                go_simp
                exact hK _ _ (World.grownBy.refl _ _) rfl
              · intro a W hW hb hd K hK
                have b15 : a.tmps[15]?.getD undef = _ := hd ⟨3, .data⟩ (by simp) rfl
                go_simp
                exact hK _ _ (World.grownBy.refl _ _) rfl
              · refine Or.inl ⟨fun v w h => h, ?_⟩
                intro a W hW hb hd K hK
                have b3 := hb 3 rfl
                go_simp
                exact hK _ _ (World.grownBy.refl _ _) rfl
              · refine Or.inl ⟨fun v w h => h, ?_⟩
                intro a W hW hb hd K hK
                have b17 : a.tmps[17]?.getD undef = _ := hd ⟨5, .data⟩ (by simp) rfl
                go_simp
                exact hK _ _ (World.grownBy.refl _ _) rfl
              · refine Or.inl ⟨fun v w h => h, ?_⟩
                intro a W hW hb hd K hK
                have b18 : a.tmps[18]?.getD undef = _ := hd ⟨6, .data⟩ (by simp) rfl
                go_simp
                exact hK _ _ (World.grownBy.refl _ _) rfl
              · refine Or.inl ⟨fun v w h => h, ?_⟩
                intro a W hW hb hd K hK
                have b0 := hb 0 rfl
                go_simp
                exact hK _ _ (World.grownBy.refl _ _) rfl
              · refine Or.inl ⟨fun v w h => h, ?_⟩
                intro a W hW hb hd K hK
                have b3 := hb 3 rfl
                go_simp
                exact hK _ _ (World.grownBy.refl _ _) rfl
              · refine Or.inl ⟨fun v w h => h, ?_⟩
                intro a W hW hb hd K hK
                have b21 : a.tmps[21]?.getD undef = _ := hd ⟨9, .data⟩ (by simp) rfl
                go_simp
                exact hK _ _ (World.grownBy.refl _ _) rfl
              · refine Or.inl ⟨fun v w h => h, ?_⟩
                intro a W hW hb hd K hK
                have b20 : a.tmps[20]?.getD undef = _ := hd ⟨8, .data⟩ (by simp) rfl
                have b22 : a.tmps[22]?.getD undef = _ := hd ⟨10, .data⟩ (by simp) rfl
                go_simp
                exact hK _ _ (World.grownBy.refl _ _) rfl
              · refine Or.inl ⟨fun v w h => h, ?_⟩
                intro a W hW hb hd K hK
                have b23 : a.tmps[23]?.getD undef = _ := hd ⟨11, .data⟩ (by simp) rfl
                go_simp
                exact hK _ _ (World.grownBy.refl _ _) (by first | rfl | (rw [add_zero]; rfl) | (simp [add_zero]; rfl))
              · refine Or.inl ⟨fun v w h => h, ?_⟩
                intro a W hW hb hd K hK
                have b24 : a.tmps[24]?.getD undef = _ := hd ⟨12, .data⟩ (by simp) rfl
                refine wp_load_any 32 (.tmp 24) rfl (ad.add (j * 33)) (show a.eval (.tmp 24) = _ from by simp only [Act.eval, Array.getD_eq_getD_getElem?]; exact b24) (y.d.map bv) _ (fun q s hs => HY.out W hW q s (by have := bl_sub0 y q s hs; rwa [Nat.zero_add] at this)) Tryz.underlying32 rfl (by rw [List.length_map, hy.out]; kernel_rfl) ?_
                exact hK _ _ (World.grownBy.refl _ _) rfl
              · refine Or.inl ⟨fun v w h => h, ?_⟩
                intro a W hW hb hd K hK
                have b4 := hb 4 rfl
                go_simp
                exact hK _ _ (World.grownBy.refl _ _) rfl
              · refine Or.inl ⟨fun v w h => h, ?_⟩
                intro a W hW hb hd K hK
                have b26 : a.tmps[26]?.getD undef = _ := hd ⟨14, .data⟩ (by simp) rfl
                refine wp_load_any 32 (.tmp 26) rfl ⟨gx, 0, none⟩ (show a.eval (.tmp 26) = _ from by simp only [Act.eval, Array.getD_eq_getD_getElem?]; exact b26) (x.d.map bv) _ (Cells.sub (hW.at_ 0 rfl) 0 (bl_sub0 x)) Tryz.underlying32 rfl (by rw [List.length_map, hx.out]; kernel_rfl) ?_
                exact hK _ _ (World.grownBy.refl _ _) rfl
              · refine Or.inl ⟨fun v w h => h, ?_⟩
                intro a W hW hb hd K hK
                have b25 : a.tmps[25]?.getD undef = _ := hd ⟨13, .data⟩ (by simp) rfl
                have b27 : a.tmps[27]?.getD undef = _ := hd ⟨15, .data⟩ (by simp) rfl
                go_simp
                refine (order_any W y.d x.d hy.out hx.out).mono ?_
                rintro e w' ⟨rfl, hb'⟩
                exact hK _ _ (grown_of_below hb') (congrArg (Value.int .i64) HV.out)
              · refine Or.inl ⟨fun v w h => h, ?_⟩
                intro a W hW hb hd K hK
                have b28 : a.tmps[28]?.getD undef = _ := hd ⟨16, .data⟩ (by simp) rfl
                go_simp
                exact hK _ _ (World.grownBy.refl _ _) rfl
              · refine Or.inl ⟨fun v w h => h, ?_⟩
                intro a W hW hb hd K hK
                have b19 : a.tmps[19]?.getD undef = _ := hd ⟨7, .data⟩ (by simp) rfl
                have b29 : a.tmps[29]?.getD undef = _ := hd ⟨17, .data⟩ (by simp) rfl
                go_simp
                exact hK _ _ (World.grownBy.refl _ _) rfl
            case fin =>
              intro vs W hW hv
              have e4 : vs 4 = _ := hv 4 (by decide)
              have e18 : vs 18 = _ := hv 18 (by decide)
              clear hv
              simp only [putAll, List.drop_succ_cons, List.drop_zero, e4, e18, Act.put, List.setIfInBounds_toArray, List.set_cons_succ, List.set_cons_zero]
              clear e4 e18
              go_wp2_with fail
              refine ⟨⟨k + 1, by omega, by go_num, fun i hi => ?_, hW.2⟩, by simp [intOf]; omega⟩
              by_cases hik : i = k
              · rw [hik]; exact HF.out
              · exact HA.out i (by omega)
    · obtain rfl : k = n := by omega
      have d1 : decide ((k : Int) < (k : Int)) = false := by simp
      have hv : Hid (validB l = decide (k ≤ 256)) := Lib.hid (by rw [validB_all l (by rw [HN.out]; exact HA.out), HN.out])
      go_wp2
      go_ret
      refine ⟨ret_bool (by rw [hv.out]; simp only [decide_eq_decide]; omega), (hI.at_ 1 rfl : _ ∧ _).1⟩

set_option maxHeartbeats 3200000 in
theorem refValid_any (w : World) (B : Nat) (A : Option Addr) (n c : Nat) (l : List Bl) (hl : Blobs w B A n l) (hn2 : n ≤ 1000000) (hB : B ≤ w.heap.size) (hbig : ∀ x ∈ l, x.n ≤ 140737488355000) :
    Calls Tryz.prog 41 #[.slice A n c] w fun e w' => e = .returned (.bool (validB l)) ∧ Below w.heap.size w w' := by
  have hR : All w [.low (.blobs B A n l), .kept w w.heap.size] := ⟨⟨hl, hB⟩, ⟨Below.refl _ _, Nat.le_refl _⟩, trivial⟩
  have HN := Lib.hid hl.len
  have HBIG := Lib.hid hbig
  clear hl hbig
  have hzr := zero_bl
  go_enter Tryz.func41, Tryz.ntmps41
  go_upto_region 1 with (fail)
  have hI0 := hR
  clear hR
  by_cases h256 : 256 < n
  · have dn : decide (256 < (n : Int)) = true := by simp; omega
    have dn2 : decide (256 < n) = true := by simp; omega
    have HF : Hid (validB l = false) := Lib.hid (validB_long l (by have := HN.out; omega))
    clear h256
    go_wp2
    go_ret
    exact ⟨ret_bool (by rw [HF.out]), (hI0.at_ 1 rfl : _ ∧ _).1⟩
  have dn : decide (256 < (n : Int)) = false := by simp; omega
  have dn2 : decide (256 < n) = false := by simp; omega
  have H256 : Hid (n ≤ 256) := Lib.hid (by omega)
  clear h256
  go_wp2
  clear dn dn2
  go_loopw [3] (fun i wr => ∃ (k : Nat), k ≤ n ∧ i = .int .i64 k ∧ (∀ i < k, okAtB l i = true) ∧ All wr [.low (.blobs B A n l), .kept w w.heap.size]) (fun i _ => n - (intOf i).toNat)
  case atStart => exact ⟨0, by omega, rfl, fun i hi => absurd hi (by omega), hI0⟩
  case round =>
    obtain ⟨k, hk, rfl, hA, hI⟩ := hrel
    have HA := Lib.hid hA
    clear hA hI0
    by_cases hlt : k < n
    · have hkl : k < l.length := by rw [HN.out]; exact hlt
      have hbl := (hI.at_ 0 rfl : Blobs wr B A n l ∧ B ≤ wr.heap.size)
      obtain ⟨ad, rfl, hadB, hc⟩ := Els.elem hbl.1.els hkl
      have HC := Lib.hid hc
      have hx := Lib.hid (hbl.1.each _ (List.getElem_mem hkl)).d32
      have hxb : Hid (l[k].n ≤ 140737488355000) := Lib.hid (HBIG.out _ (List.getElem_mem hkl))
      have HO : Hid (∀ v, okAtB1 l k l[k] = v → okAtB l k = v) := Lib.hid (fun v hv => by rw [okAtB_at _ _ hkl]; exact hv)
      have HX : Hid (∀ W, All W [.low (.blobs B (some ad) n l), .kept w w.heap.size] → ∀ q s, (blC l[k])[q]? = some s → W.cell? ((ad.add (k * 33)).add q) = some s) := Lib.hid (fun W hW => by
        obtain ⟨ad', e, _, hc⟩ := Els.elem (hW.at_ 0 rfl : Blobs W B (some ad) n l ∧ B ≤ W.heap.size).1.els hkl
        obtain rfl := Option.some.inj e
        exact hc)
      have HJD : Hid (∀ j (hjl : j < l.length), l[j].d.length = 32) := Lib.hid (fun j hjl => (hbl.1.each _ (List.getElem_mem hjl)).d32)
      clear hc hbl
      generalize l[k] = x at *
      have hsz : w.heap.size ≤ wr.heap.size := hI.size_kept 1 rfl
      have d1 : decide ((k : Int) < (n : Int)) = true := by simp; omega
      have wk0 : (0 : Int) ≤ (k : Int) := by omega
      have wk1 : (k : Int) < (n : Int) := by omega
      have wk2 : ((k : Int)).toNat = k := by omega
      go_upto_region 6 with (fail)
      have hxn : x.n ≤ 140737488355000 := hxb.out
      by_cases hp : 262144 < x.n
      · have HF : Hid (okAtB l k = false) := Lib.hid (HO.out _ (okAtB1_bad _ _ _ (by rw [goodB]; simp; omega)))
        replace HF : Hid (validB l = false) := Lib.hid (validB_no l k hkl HF.out)
        have d5 : decide (262144 < (x.n : Int)) = true := by simp; omega
        have d6 : decide (262144 < x.n) = true := by simp; omega
        clear hp
        refine wp_region_hopsH 25 (13 :: 14 :: 15 :: 16 :: 17 :: 18 :: 19 :: 20 :: 21 :: 22 :: 23 :: 24 :: 25 :: 26 :: 27 :: 28 :: 29 :: 30 :: 31 :: 32 :: 33 :: 34 :: 35 :: 36 :: 37 :: []) _
          (.eq (.slice (some ad) n c) :: .eq (.int .i64 k) :: .eq (.pointer (some (ad.add (k * 33)))) :: .eq (.pointer (some ⟨(ad.add (k * 33)).block, (ad.add (k * 33)).off + 32, none⟩)) :: .eq (.slice x.A x.n x.c) :: .eq (.int .i64 (x.n : Int)) :: .eq (.bool true) :: .eq (.bool true) :: .eq undef :: .eq undef :: .eq undef :: .eq undef :: .eq undef :: .eq undef :: .eq undef :: .eq undef :: .eq undef :: .eq undef :: .eq undef :: .eq undef :: .eq undef :: .eq undef :: .eq undef :: .eq undef :: .eq undef :: [])
          (by kernel_rfl) (by kernel_rfl) hI rfl ?hops ?fin
        case hops =>
          refine ⟨?_, ?_, ?_, ?_, ?_, ?_, ?_, ?_, ?_, ?_, ?_, ?_, ?_, ?_, ?_, ?_, ?_, ?_, ?_, ?_, ?_, ?_, ?_, ?_, ?_, trivial⟩
          · intro a W hW hb hd K hK
            have b0 := hb 0 rfl
            go_simp
            exact hK _ _ (World.grownBy.refl _ _) rfl
          · intro a W hW hb hd K hK
            have b3 := hb 3 rfl
            go_simp
            exact hK _ _ (World.grownBy.refl _ _) rfl
          · intro a W hW hb hd K hK
            have b13 : a.tmps[13]?.getD undef = _ := hd ⟨0, .data⟩ (by simp) rfl
            have b14 : a.tmps[14]?.getD undef = _ := hd ⟨1, .data⟩ (by simp) rfl
            go_simp
            exact hK _ _ (World.grownBy.refl _ _) rfl
          · intro a W hW hb hd K hK
            have b15 : a.tmps[15]?.getD undef = _ := hd ⟨2, .data⟩ (by simp) rfl
            go_simp
            exact hK _ _ (World.grownBy.refl _ _) (by first | rfl | (rw [add_zero]; rfl) | (simp [add_zero]; rfl))
          · intro a W hW hb hd K hK
            have b16 : a.tmps[16]?.getD undef = _ := hd ⟨3, .data⟩ (by simp) rfl
            have q1 : W.cell? ⟨(ad.add (k * 33)).block, (ad.add (k * 33)).off + 32, none⟩ = some (.slice x.A x.n x.c) := HX.out W hW 32 _ (bl_last hx.out)
            go_simp
            exact hK _ _ (World.grownBy.refl _ _) rfl
          · intro a W hW hb hd K hK
            have b17 : a.tmps[17]?.getD undef = _ := hd ⟨4, .data⟩ (by simp) rfl
            go_simp
            exact hK _ _ (World.grownBy.refl _ _) rfl
          · intro a W hW hb hd K hK
            have b18 : a.tmps[18]?.getD undef = _ := hd ⟨5, .data⟩ (by simp) rfl
            go_simp
            exact hK _ _ (World.grownBy.refl _ _) rfl
          · intro a W hW hb hd K hK
            have b19 : a.tmps[19]?.getD undef = _ := hd ⟨6, .data⟩ (by simp) rfl
            go_simp
            exact hK _ _ (World.grownBy.refl _ _) rfl
          · exact Or.inr ⟨fun v w h => by rw [show v = _ from h]; first | (intro h2; cases h2) | (simp [undef]), fun w => rfl⟩
          · exact Or.inr ⟨fun v w h => by rw [show v = _ from h]; first | (intro h2; cases h2) | (simp [undef]), fun w => rfl⟩
          · exact Or.inr ⟨fun v w h => by rw [show v = _ from h]; first | (intro h2; cases h2) | (simp [undef]), fun w => rfl⟩
          · exact Or.inr ⟨fun v w h => by rw [show v = _ from h]; first | (intro h2; cases h2) | (simp [undef]), fun w => rfl⟩
          · exact Or.inr ⟨fun v w h => by rw [show v = _ from h]; first | (intro h2; cases h2) | (simp [undef]), fun w => rfl⟩
          · exact Or.inr ⟨fun v w h => by rw [show v = _ from h]; first | (intro h2; cases h2) | (simp [undef]), fun w => rfl⟩
          · exact Or.inr ⟨fun v w h => by rw [show v = _ from h]; first | (intro h2; cases h2) | (simp [undef]), fun w => rfl⟩
          · exact Or.inr ⟨fun v w h => by rw [show v = _ from h]; first | (intro h2; cases h2) | (simp [undef]), fun w => rfl⟩
          · exact Or.inr ⟨fun v w h => by rw [show v = _ from h]; first | (intro h2; cases h2) | (simp [undef]), fun w => rfl⟩
          · exact Or.inr ⟨fun v w h => by rw [show v = _ from h]; first | (intro h2; cases h2) | (simp [undef]), fun w => rfl⟩
          · exact Or.inr ⟨fun v w h => by rw [show v = _ from h]; first | (intro h2; cases h2) | (simp [undef]), fun w => rfl⟩
          · exact Or.inr ⟨fun v w h => by rw [show v = _ from h]; first | (intro h2; cases h2) | (simp [undef]), fun w => rfl⟩
          · exact Or.inr ⟨fun v w h => by rw [show v = _ from h]; first | (intro h2; cases h2) | (simp [undef]), fun w => rfl⟩
          · exact Or.inr ⟨fun v w h => by rw [show v = _ from h]; first | (intro h2; cases h2) | (simp [undef]), fun w => rfl⟩
          · exact Or.inr ⟨fun v w h => by rw [show v = _ from h]; first | (intro h2; cases h2) | (simp [undef]), fun w => rfl⟩
          · exact Or.inr ⟨fun v w h => by rw [show v = _ from h]; first | (intro h2; cases h2) | (simp [undef]), fun w => rfl⟩
          · exact Or.inr ⟨fun v w h => by rw [show v = _ from h]; first | (intro h2; cases h2) | (simp [undef]), fun w => rfl⟩
        case fin =>
          intro vs W hW hv
          have e7 : vs 7 = _ := hv 7 (by decide)
          have e24 : vs 24 = _ := hv 24 (by decide)
          clear hv
          simp only [putAll, List.drop_succ_cons, List.drop_zero, e7, e24, Act.put, List.setIfInBounds_toArray, List.set_cons_succ, List.set_cons_zero]
          clear e7 e24
          go_wp2_with fail
          go_ret
          exact ⟨ret_bool (by rw [HF.out]), (hW.at_ 1 rfl : _ ∧ _).1⟩
      · have HG : Hid (goodB x = true) := Lib.hid (by rw [goodB]; simp; omega)
        have d5 : decide (262144 < (x.n : Int)) = false := by simp; omega
        have d6 : decide (262144 < x.n) = false := by simp; omega
        clear hp
        by_cases hk0 : k = 0
        · have HF : Hid (okAtB l k = true) := Lib.hid (HO.out _ (okAtB1_zero _ _ _ HG.out hk0))
          have d2 : decide (0 < (k : Int)) = false := by simp; omega
          have d3 : decide (0 < k) = false := by simp; omega
          clear hk0
          refine wp_region_hopsH 25 (13 :: 14 :: 15 :: 16 :: 17 :: 18 :: 19 :: 20 :: 21 :: 22 :: 23 :: 24 :: 25 :: 26 :: 27 :: 28 :: 29 :: 30 :: 31 :: 32 :: 33 :: 34 :: 35 :: 36 :: 37 :: []) _
            (.eq (.slice (some ad) n c) :: .eq (.int .i64 k) :: .eq (.pointer (some (ad.add (k * 33)))) :: .eq (.pointer (some ⟨(ad.add (k * 33)).block, (ad.add (k * 33)).off + 32, none⟩)) :: .eq (.slice x.A x.n x.c) :: .eq (.int .i64 (x.n : Int)) :: .eq (.bool false) :: .eq (.bool false) :: .eq (.int .i64 k) :: .eq (.bool false) :: .eq (.bool false) :: .eq undef :: .eq undef :: .eq undef :: .eq undef :: .eq undef :: .eq undef :: .eq undef :: .eq undef :: .eq undef :: .eq undef :: .eq undef :: .eq undef :: .eq undef :: .eq (.bool false) :: [])
            (by kernel_rfl) (by kernel_rfl) hI rfl ?hops ?fin
          case hops =>
            refine ⟨?_, ?_, ?_, ?_, ?_, ?_, ?_, ?_, ?_, ?_, ?_, ?_, ?_, ?_, ?_, ?_, ?_, ?_, ?_, ?_, ?_, ?_, ?_, ?_, ?_, trivial⟩
            · intro a W hW hb hd K hK
              have b0 := hb 0 rfl
              go_simp
              exact hK _ _ (World.grownBy.refl _ _) rfl
            · intro a W hW hb hd K hK
              have b3 := hb 3 rfl
              go_simp
              exact hK _ _ (World.grownBy.refl _ _) rfl
            · intro a W hW hb hd K hK
              have b13 : a.tmps[13]?.getD undef = _ := hd ⟨0, .data⟩ (by simp) rfl
              have b14 : a.tmps[14]?.getD undef = _ := hd ⟨1, .data⟩ (by simp) rfl
              go_simp
              exact hK _ _ (World.grownBy.refl _ _) rfl
            · intro a W hW hb hd K hK
              have b15 : a.tmps[15]?.getD undef = _ := hd ⟨2, .data⟩ (by simp) rfl
              go_simp
              exact hK _ _ (World.grownBy.refl _ _) (by first | rfl | (rw [add_zero]; rfl) | (simp [add_zero]; rfl))
            · intro a W hW hb hd K hK
              have b16 : a.tmps[16]?.getD undef = _ := hd ⟨3, .data⟩ (by simp) rfl
              have q1 : W.cell? ⟨(ad.add (k * 33)).block, (ad.add (k * 33)).off + 32, none⟩ = some (.slice x.A x.n x.c) := HX.out W hW 32 _ (bl_last hx.out)
              go_simp
              exact hK _ _ (World.grownBy.refl _ _) rfl
            · intro a W hW hb hd K hK
              have b17 : a.tmps[17]?.getD undef = _ := hd ⟨4, .data⟩ (by simp) rfl
              go_simp
              exact hK _ _ (World.grownBy.refl _ _) rfl
            · intro a W hW hb hd K hK
              have b18 : a.tmps[18]?.getD undef = _ := hd ⟨5, .data⟩ (by simp) rfl
              go_simp
              exact hK _ _ (World.grownBy.refl _ _) rfl
            · intro a W hW hb hd K hK
              have b19 : a.tmps[19]?.getD undef = _ := hd ⟨6, .data⟩ (by simp) rfl
              go_simp
              exact hK _ _ (World.grownBy.refl _ _) rfl
            · refine Or.inl ⟨fun v w h => h, ?_⟩
              intro a W hW hb hd K hK
              have b3 := hb 3 rfl
              go_simp
              exact hK _ _ (World.grownBy.refl _ _) rfl
            · refine Or.inl ⟨fun v w h => h, ?_⟩
              intro a W hW hb hd K hK
              have b21 : a.tmps[21]?.getD undef = _ := hd ⟨8, .data⟩ (by simp) rfl
              go_simp
              exact hK _ _ (World.grownBy.refl _ _) rfl
            · refine Or.inl ⟨fun v w h => h, ?_⟩
              intro a W hW hb hd K hK
              have b22 : a.tmps[22]?.getD undef = _ := hd ⟨9, .data⟩ (by simp) rfl
              go_simp
              exact hK _ _ (World.grownBy.refl _ _) rfl
            · exact Or.inr ⟨fun v w h => by rw [show v = _ from h]; first | (intro h2; cases h2) | (simp [undef]), fun w => rfl⟩
            · exact Or.inr ⟨fun v w h => by rw [show v = _ from h]; first | (intro h2; cases h2) | (simp [undef]), fun w => rfl⟩
            · exact Or.inr ⟨fun v w h => by rw [show v = _ from h]; first | (intro h2; cases h2) | (simp [undef]), fun w => rfl⟩
            · exact Or.inr ⟨fun v w h => by rw [show v = _ from h]; first | (intro h2; cases h2) | (simp [undef]), fun w => rfl⟩
            · exact Or.inr ⟨fun v w h => by rw [show v = _ from h]; first | (intro h2; cases h2) | (simp [undef]), fun w => rfl⟩
            · exact Or.inr ⟨fun v w h => by rw [show v = _ from h]; first | (intro h2; cases h2) | (simp [undef]), fun w => rfl⟩
            · exact Or.inr ⟨fun v w h => by rw [show v = _ from h]; first | (intro h2; cases h2) | (simp [undef]), fun w => rfl⟩
            · exact Or.inr ⟨fun v w h => by rw [show v = _ from h]; first | (intro h2; cases h2) | (simp [undef]), fun w => rfl⟩
            · exact Or.inr ⟨fun v w h => by rw [show v = _ from h]; first | (intro h2; cases h2) | (simp [undef]), fun w => rfl⟩
            · exact Or.inr ⟨fun v w h => by rw [show v = _ from h]; first | (intro h2; cases h2) | (simp [undef]), fun w => rfl⟩
            · exact Or.inr ⟨fun v w h => by rw [show v = _ from h]; first | (intro h2; cases h2) | (simp [undef]), fun w => rfl⟩
            · exact Or.inr ⟨fun v w h => by rw [show v = _ from h]; first | (intro h2; cases h2) | (simp [undef]), fun w => rfl⟩
            · exact Or.inr ⟨fun v w h => by rw [show v = _ from h]; first | (intro h2; cases h2) | (simp [undef]), fun w => rfl⟩
            · refine Or.inl ⟨fun v w h => h, ?_⟩
              intro a W hW hb hd K hK
              have b23 : a.tmps[23]?.getD undef = _ := hd ⟨10, .data⟩ (by simp) rfl
              have b36 : a.tmps[36]?.getD undef = _ := hd ⟨23, .data⟩ (by simp) rfl
              go_simp
              exact hK _ _ (World.grownBy.refl _ _) rfl
          case fin =>
            intro vs W hW hv
            have e7 : vs 7 = _ := hv 7 (by decide)
            have e24 : vs 24 = _ := hv 24 (by decide)
            clear hv
            simp only [putAll, List.drop_succ_cons, List.drop_zero, e7, e24, Act.put, List.setIfInBounds_toArray, List.set_cons_succ, List.set_cons_zero]
            clear e7 e24
            go_wp2_with fail
            refine ⟨⟨k + 1, by omega, by go_num, fun i hi => ?_, hW⟩, by simp [intOf]; omega⟩
            by_cases hik : i = k
            · rw [hik]; exact HF.out
            · exact HA.out i (by omega)
        · obtain ⟨j, hj⟩ : ∃ j, k = j + 1 := ⟨k - 1, by omega⟩
          have hjl : j < l.length := by omega
          have HY0 : Hid (∀ W, All W [.low (.blobs B (some ad) n l), .kept w w.heap.size] → ∀ q s, (blC l[j])[q]? = some s → W.cell? ((ad.add (j * 33)).add q) = some s) := Lib.hid (fun W hW => by
              obtain ⟨ad', e, _, hc⟩ := Els.elem (hW.at_ 0 rfl : Blobs W B (some ad) n l ∧ B ≤ W.heap.size).1.els hjl
              obtain rfl := Option.some.inj e
              exact hc)
          have HY := HY0
          have hy := Lib.hid (HJD.out j hjl)
          have HO2 : Hid (∀ v, lessD l[j].d x.d = v → okAtB l k = v) := Lib.hid (fun v hv => HO.out _ (okAtB1_succ _ _ _ _ HG.out hj hjl hv))
          clear HY0
          generalize l[j] = y at *
          have d2 : decide (0 < (k : Int)) = true := by simp; omega
          have d3 : decide (0 < k) = true := by simp; omega
          have w1 : IntKind.i64.wrap ((k : Int) - 1) = (j : Int) := by rw [IntWalk.i64_in _ (by omega)]; omega
          have wj1 : (0 : Int) ≤ (j : Int) := by omega
          have wj2 : (j : Int) < (n : Int) := by omega
          have wj3 : ((j : Int)).toNat = j := by omega
          have HK := Lib.hid hj
          clear hj
          cases hb : lessD y.d x.d with
          | false =>
            have HV := Lib.hid hb
            have HF : Hid (okAtB l k = false) := Lib.hid (HO2.out _ hb)
            replace HF : Hid (validB l = false) := Lib.hid (validB_no l k hkl HF.out)
            clear hb
            refine wp_region_hopsH 25 (13 :: 14 :: 15 :: 16 :: 17 :: 18 :: 19 :: 20 :: 21 :: 22 :: 23 :: 24 :: 25 :: 26 :: 27 :: 28 :: 29 :: 30 :: 31 :: 32 :: 33 :: 34 :: 35 :: 36 :: 37 :: []) _
              (.eq (.slice (some ad) n c) :: .eq (.int .i64 k) :: .eq (.pointer (some (ad.add (k * 33)))) :: .eq (.pointer (some ⟨(ad.add (k * 33)).block, (ad.add (k * 33)).off + 32, none⟩)) :: .eq (.slice x.A x.n x.c) :: .eq (.int .i64 (x.n : Int)) :: .eq (.bool false) :: .eq (.bool false) :: .eq (.int .i64 k) :: .eq (.bool true) :: .eq (.bool true) :: .eq (.slice (some ad) n c) :: .eq (.int .i64 k) :: .eq (.int .i64 j) :: .eq (.pointer (some (ad.add (j * 33)))) :: .eq (.pointer (some (ad.add (j * 33)))) :: .eq (.agg (y.d.map bv).toArray) :: .eq (.slice (some ad) n c) :: .eq (.int .i64 k) :: .eq (.pointer (some (ad.add (k * 33)))) :: .eq (.pointer (some (ad.add (k * 33)))) :: .eq (.agg (x.d.map bv).toArray) :: .eq (.bool false) :: .eq (.bool true) :: .eq (.bool true) :: [])
              (by kernel_rfl) (by kernel_rfl) hI rfl ?hops ?fin
            case hops =>
              refine ⟨?_, ?_, ?_, ?_, ?_, ?_, ?_, ?_, ?_, ?_, ?_, ?_, ?_, ?_, ?_, ?_, ?_, ?_, ?_, ?_, ?_, ?_, ?_, ?_, ?_, trivial⟩
              · intro a W hW hb hd K hK
                have b0 := hb 0 rfl
                go_simp
                exact hK _ _ (World.grownBy.refl _ _) rfl
              · intro a W hW hb hd K hK
                have b3 := hb 3 rfl
                go_simp
                exact hK _ _ (World.grownBy.refl _ _) rfl
              · intro a W hW hb hd K hK
                have b13 : a.tmps[13]?.getD undef = _ := hd ⟨0, .data⟩ (by simp) rfl
                have b14 : a.tmps[14]?.getD undef = _ := hd ⟨1, .data⟩ (by simp) rfl
                go_simp
                exact hK _ _ (World.grownBy.refl _ _) rfl
              · intro a W hW hb hd K hK
                have b15 : a.tmps[15]?.getD undef = _ := hd ⟨2, .data⟩ (by simp) rfl
                go_simp
                exact hK _ _ (World.grownBy.refl _ _) (by first | rfl | (rw [add_zero]; rfl) | (simp [add_zero]; rfl))
              · intro a W hW hb hd K hK
                have b16 : a.tmps[16]?.getD undef = _ := hd ⟨3, .data⟩ (by simp) rfl
                have q1 : W.cell? ⟨(ad.add (k * 33)).block, (ad.add (k * 33)).off + 32, none⟩ = some (.slice x.A x.n x.c) := HX.out W hW 32 _ (bl_last hx.out)
                go_simp
                exact hK _ _ (World.grownBy.refl _ _) rfl
              · intro a W hW hb hd K hK
                have b17 : a.tmps[17]?.getD undef = _ := hd ⟨4, .data⟩ (by simp) rfl
                go_simp
                exact hK _ _ (World.grownBy.refl _ _) rfl
              · intro a W hW hb hd K hK
                have b18 : a.tmps[18]?.getD undef = _ := hd ⟨5, .data⟩ (by simp) rfl
                go_simp
                exact hK _ _ (World.grownBy.refl _ _) rfl
              · intro a W hW hb hd K hK
                have b19 : a.tmps[19]?.getD undef = _ := hd ⟨6, .data⟩ (by simp) rfl
                go_simp
                exact hK _ _ (World.grownBy.refl _ _) rfl
              · refine Or.inl ⟨fun v w h => h, ?_⟩
                intro a W hW hb hd K hK
                have b3 := hb 3 rfl
                go_simp
                exact hK _ _ (World.grownBy.refl _ _) rfl
              · refine Or.inl ⟨fun v w h => h, ?_⟩
                intro a W hW hb hd K hK
                have b21 : a.tmps[21]?.getD undef = _ := hd ⟨8, .data⟩ (by simp) rfl
                go_simp
                exact hK _ _ (World.grownBy.refl _ _) rfl
              · refine Or.inl ⟨fun v w h => h, ?_⟩
                intro a W hW hb hd K hK
                have b22 : a.tmps[22]?.getD undef = _ := hd ⟨9, .data⟩ (by simp) rfl
                go_simp
                exact hK _ _ (World.grownBy.refl _ _) rfl
              · refine Or.inl ⟨fun v w h => h, ?_⟩
                intro a W hW hb hd K hK
                have b0 := hb 0 rfl
                go_simp
                exact hK _ _ (World.grownBy.refl _ _) rfl
              · refine Or.inl ⟨fun v w h => h, ?_⟩
                intro a W hW hb hd K hK
                have b3 := hb 3 rfl
                go_simp
                exact hK _ _ (World.grownBy.refl _ _) rfl
              · refine Or.inl ⟨fun v w h => h, ?_⟩
                intro a W hW hb hd K hK
                have b25 : a.tmps[25]?.getD undef = _ := hd ⟨12, .data⟩ (by simp) rfl
                go_simp
                exact hK _ _ (World.grownBy.refl _ _) rfl
              · refine Or.inl ⟨fun v w h => h, ?_⟩
                intro a W hW hb hd K hK
                have b24 : a.tmps[24]?.getD undef = _ := hd ⟨11, .data⟩ (by simp) rfl
                have b26 : a.tmps[26]?.getD undef = _ := hd ⟨13, .data⟩ (by simp) rfl
                go_simp
                exact hK _ _ (World.grownBy.refl _ _) rfl
              · refine Or.inl ⟨fun v w h => h, ?_⟩
                intro a W hW hb hd K hK
                have b27 : a.tmps[27]?.getD undef = _ := hd ⟨14, .data⟩ (by simp) rfl
                go_simp
                exact hK _ _ (World.grownBy.refl _ _) (by first | rfl | (rw [add_zero]; rfl) | (simp [add_zero]; rfl))
              · refine Or.inl ⟨fun v w h => h, ?_⟩
                intro a W hW hb hd K hK
                have b28 : a.tmps[28]?.getD undef = _ := hd ⟨15, .data⟩ (by simp) rfl
                refine wp_load_any 32 (.tmp 28) rfl (ad.add (j * 33)) (show a.eval (.tmp 28) = _ from by simp only [Act.eval, Array.getD_eq_getD_getElem?]; exact b28) (y.d.map bv) _ (fun q s hs => HY.out W hW q s (by have := bl_sub0 y q s hs; rwa [Nat.zero_add] at this)) Tryz.underlying32 rfl (by rw [List.length_map, hy.out]; kernel_rfl) ?_
                exact hK _ _ (World.grownBy.refl _ _) rfl
              · refine Or.inl ⟨fun v w h => h, ?_⟩
                intro a W hW hb hd K hK
                have b0 := hb 0 rfl
                go_simp
                exact hK _ _ (World.grownBy.refl _ _) rfl
              · refine Or.inl ⟨fun v w h => h, ?_⟩
                intro a W hW hb hd K hK
                have b3 := hb 3 rfl
                go_simp
                exact hK _ _ (World.grownBy.refl _ _) rfl
              · refine Or.inl ⟨fun v w h => h, ?_⟩
                intro a W hW hb hd K hK
                have b30 : a.tmps[30]?.getD undef = _ := hd ⟨17, .data⟩ (by simp) rfl
                have b31 : a.tmps[31]?.getD undef = _ := hd ⟨18, .data⟩ (by simp) rfl
                go_simp
                exact hK _ _ (World.grownBy.refl _ _) rfl
              · refine Or.inl ⟨fun v w h => h, ?_⟩
                intro a W hW hb hd K hK
                have b32 : a.tmps[32]?.getD undef = _ := hd ⟨19, .data⟩ (by simp) rfl
                go_simp
                exact hK _ _ (World.grownBy.refl _ _) (by first | rfl | (rw [add_zero]; rfl) | (simp [add_zero]; rfl))
              · refine Or.inl ⟨fun v w h => h, ?_⟩
                intro a W hW hb hd K hK
                have b33 : a.tmps[33]?.getD undef = _ := hd ⟨20, .data⟩ (by simp) rfl
                refine wp_load_any 32 (.tmp 33) rfl (ad.add (k * 33)) (show a.eval (.tmp 33) = _ from by simp only [Act.eval, Array.getD_eq_getD_getElem?]; exact b33) (x.d.map bv) _ (fun q s hs => HX.out W hW q s (by have := bl_sub0 x q s hs; rwa [Nat.zero_add] at this)) Tryz.underlying32 rfl (by rw [List.length_map, hx.out]; kernel_rfl) ?_
                exact hK _ _ (World.grownBy.refl _ _) rfl
              · refine Or.inl ⟨fun v w h => h, ?_⟩
                intro a W hW hb hd K hK
                have b29 : a.tmps[29]?.getD undef = _ := hd ⟨16, .data⟩ (by simp) rfl
                have b34 : a.tmps[34]?.getD undef = _ := hd ⟨21, .data⟩ (by simp) rfl
                go_simp
                refine (Less_any W y.d x.d hy.out hx.out).mono ?_
                rintro e w' ⟨rfl, hb'⟩
                exact hK _ _ (grown_of_below hb') (congrArg Value.bool HV.out)
              · refine Or.inl ⟨fun v w h => h, ?_⟩
                intro a W hW hb hd K hK
                have b35 : a.tmps[35]?.getD undef = _ := hd ⟨22, .data⟩ (by simp) rfl
                go_simp
                exact hK _ _ (World.grownBy.refl _ _) rfl
              · refine Or.inl ⟨fun v w h => h, ?_⟩
                intro a W hW hb hd K hK
                have b23 : a.tmps[23]?.getD undef = _ := hd ⟨10, .data⟩ (by simp) rfl
                have b36 : a.tmps[36]?.getD undef = _ := hd ⟨23, .data⟩ (by simp) rfl
                go_simp
                exact hK _ _ (World.grownBy.refl _ _) rfl
            case fin =>
              intro vs W hW hv
              have e7 : vs 7 = _ := hv 7 (by decide)
              have e24 : vs 24 = _ := hv 24 (by decide)
              clear hv
              simp only [putAll, List.drop_succ_cons, List.drop_zero, e7, e24, Act.put, List.setIfInBounds_toArray, List.set_cons_succ, List.set_cons_zero]
              clear e7 e24
              go_wp2_with fail
              go_ret
              exact ⟨ret_bool (by rw [HF.out]), (hW.at_ 1 rfl : _ ∧ _).1⟩
          | true =>
            have HV := Lib.hid hb
            have HF : Hid (okAtB l k = true) := Lib.hid (HO2.out _ hb)
            clear hb
            refine wp_region_hopsH 25 (13 :: 14 :: 15 :: 16 :: 17 :: 18 :: 19 :: 20 :: 21 :: 22 :: 23 :: 24 :: 25 :: 26 :: 27 :: 28 :: 29 :: 30 :: 31 :: 32 :: 33 :: 34 :: 35 :: 36 :: 37 :: []) _
              (.eq (.slice (some ad) n c) :: .eq (.int .i64 k) :: .eq (.pointer (some (ad.add (k * 33)))) :: .eq (.pointer (some ⟨(ad.add (k * 33)).block, (ad.add (k * 33)).off + 32, none⟩)) :: .eq (.slice x.A x.n x.c) :: .eq (.int .i64 (x.n : Int)) :: .eq (.bool false) :: .eq (.bool false) :: .eq (.int .i64 k) :: .eq (.bool true) :: .eq (.bool true) :: .eq (.slice (some ad) n c) :: .eq (.int .i64 k) :: .eq (.int .i64 j) :: .eq (.pointer (some (ad.add (j * 33)))) :: .eq (.pointer (some (ad.add (j * 33)))) :: .eq (.agg (y.d.map bv).toArray) :: .eq (.slice (some ad) n c) :: .eq (.int .i64 k) :: .eq (.pointer (some (ad.add (k * 33)))) :: .eq (.pointer (some (ad.add (k * 33)))) :: .eq (.agg (x.d.map bv).toArray) :: .eq (.bool true) :: .eq (.bool false) :: .eq (.bool false) :: [])
              (by kernel_rfl) (by kernel_rfl) hI rfl ?hops ?fin
            case hops =>
              refine ⟨?_, ?_, ?_, ?_, ?_, ?_, ?_, ?_, ?_, ?_, ?_, ?_, ?_, ?_, ?_, ?_, ?_, ?_, ?_, ?_, ?_, ?_, ?_, ?_, ?_, trivial⟩
              · intro a W hW hb hd K hK
                have b0 := hb 0 rfl
                go_simp
                exact hK _ _ (World.grownBy.refl _ _) rfl
              · intro a W hW hb hd K hK
                have b3 := hb 3 rfl
                go_simp
                exact hK _ _ (World.grownBy.refl _ _) rfl
              · intro a W hW hb hd K hK
                have b13 : a.tmps[13]?.getD undef = _ := hd ⟨0, .data⟩ (by simp) rfl
                have b14 : a.tmps[14]?.getD undef = _ := hd ⟨1, .data⟩ (by simp) rfl
                go_simp
                exact hK _ _ (World.grownBy.refl _ _) rfl
              · intro a W hW hb hd K hK
                have b15 : a.tmps[15]?.getD undef = _ := hd ⟨2, .data⟩ (by simp) rfl
                go_simp
                exact hK _ _ (World.grownBy.refl _ _) (by first | rfl | (rw [add_zero]; rfl) | (simp [add_zero]; rfl))
              · intro a W hW hb hd K hK
                have b16 : a.tmps[16]?.getD undef = _ := hd ⟨3, .data⟩ (by simp) rfl
                have q1 : W.cell? ⟨(ad.add (k * 33)).block, (ad.add (k * 33)).off + 32, none⟩ = some (.slice x.A x.n x.c) := HX.out W hW 32 _ (bl_last hx.out)
                go_simp
                exact hK _ _ (World.grownBy.refl _ _) rfl
              · intro a W hW hb hd K hK
                have b17 : a.tmps[17]?.getD undef = _ := hd ⟨4, .data⟩ (by simp) rfl
                go_simp
                exact hK _ _ (World.grownBy.refl _ _) rfl
              · intro a W hW hb hd K hK
                have b18 : a.tmps[18]?.getD undef = _ := hd ⟨5, .data⟩ (by simp) rfl
                go_simp
                exact hK _ _ (World.grownBy.refl _ _) rfl
              · intro a W hW hb hd K hK
                have b19 : a.tmps[19]?.getD undef = _ := hd ⟨6, .data⟩ (by simp) rfl
                go_simp
                exact hK _ _ (World.grownBy.refl _ _) rfl
              · refine Or.inl ⟨fun v w h => h, ?_⟩
                intro a W hW hb hd K hK
                have b3 := hb 3 rfl
                go_simp
                exact hK _ _ (World.grownBy.refl _ _) rfl
              · refine Or.inl ⟨fun v w h => h, ?_⟩
                intro a W hW hb hd K hK
                have b21 : a.tmps[21]?.getD undef = _ := hd ⟨8, .data⟩ (by simp) rfl
                go_simp
                exact hK _ _ (World.grownBy.refl _ _) rfl
              · refine Or.inl ⟨fun v w h => h, ?_⟩
                intro a W hW hb hd K hK
                have b22 : a.tmps[22]?.getD undef = _ := hd ⟨9, .data⟩ (by simp) rfl
                go_simp
                exact hK _ _ (World.grownBy.refl _ _) rfl
              · refine Or.inl ⟨fun v w h => h, ?_⟩
                intro a W hW hb hd K hK
                have b0 := hb 0 rfl
                go_simp
                exact hK _ _ (World.grownBy.refl _ _) rfl
              · refine Or.inl ⟨fun v w h => h, ?_⟩
                intro a W hW hb hd K hK
                have b3 := hb 3 rfl
                go_simp
                exact hK _ _ (World.grownBy.refl _ _) rfl
              · refine Or.inl ⟨fun v w h => h, ?_⟩
                intro a W hW hb hd K hK
                have b25 : a.tmps[25]?.getD undef = _ := hd ⟨12, .data⟩ (by simp) rfl
                go_simp
                exact hK _ _ (World.grownBy.refl _ _) rfl
              · refine Or.inl ⟨fun v w h => h, ?_⟩
                intro a W hW hb hd K hK
                have b24 : a.tmps[24]?.getD undef = _ := hd ⟨11, .data⟩ (by simp) rfl
                have b26 : a.tmps[26]?.getD undef = _ := hd ⟨13, .data⟩ (by simp) rfl
                go_simp
                exact hK _ _ (World.grownBy.refl _ _) rfl
              · refine Or.inl ⟨fun v w h => h, ?_⟩
                intro a W hW hb hd K hK
                have b27 : a.tmps[27]?.getD undef = _ := hd ⟨14, .data⟩ (by simp) rfl
                go_simp
                exact hK _ _ (World.grownBy.refl _ _) (by first | rfl | (rw [add_zero]; rfl) | (simp [add_zero]; rfl))
              · refine Or.inl ⟨fun v w h => h, ?_⟩
                intro a W hW hb hd K hK
                have b28 : a.tmps[28]?.getD undef = _ := hd ⟨15, .data⟩ (by simp) rfl
                refine wp_load_any 32 (.tmp 28) rfl (ad.add (j * 33)) (show a.eval (.tmp 28) = _ from by simp only [Act.eval, Array.getD_eq_getD_getElem?]; exact b28) (y.d.map bv) _ (fun q s hs => HY.out W hW q s (by have := bl_sub0 y q s hs; rwa [Nat.zero_add] at this)) Tryz.underlying32 rfl (by rw [List.length_map, hy.out]; kernel_rfl) ?_
                exact hK _ _ (World.grownBy.refl _ _) rfl
              · refine Or.inl ⟨fun v w h => h, ?_⟩
                intro a W hW hb hd K hK
                have b0 := hb 0 rfl
                go_simp
                exact hK _ _ (World.grownBy.refl _ _) rfl
              · refine Or.inl ⟨fun v w h => h, ?_⟩
                intro a W hW hb hd K hK
                have b3 := hb 3 rfl
                go_simp
                exact hK _ _ (World.grownBy.refl _ _) rfl
              · refine Or.inl ⟨fun v w h => h, ?_⟩
                intro a W hW hb hd K hK
                have b30 : a.tmps[30]?.getD undef = _ := hd ⟨17, .data⟩ (by simp) rfl
                have b31 : a.tmps[31]?.getD undef = _ := hd ⟨18, .data⟩ (by simp) rfl
                go_simp
                exact hK _ _ (World.grownBy.refl _ _) rfl
              · refine Or.inl ⟨fun v w h => h, ?_⟩
                intro a W hW hb hd K hK
                have b32 : a.tmps[32]?.getD undef = _ := hd ⟨19, .data⟩ (by simp) rfl
                go_simp
                exact hK _ _ (World.grownBy.refl _ _) (by first | rfl | (rw [add_zero]; rfl) | (simp [add_zero]; rfl))
              · refine Or.inl ⟨fun v w h => h, ?_⟩
                intro a W hW hb hd K hK
                have b33 : a.tmps[33]?.getD undef = _ := hd ⟨20, .data⟩ (by simp) rfl
                refine wp_load_any 32 (.tmp 33) rfl (ad.add (k * 33)) (show a.eval (.tmp 33) = _ from by simp only [Act.eval, Array.getD_eq_getD_getElem?]; exact b33) (x.d.map bv) _ (fun q s hs => HX.out W hW q s (by have := bl_sub0 x q s hs; rwa [Nat.zero_add] at this)) Tryz.underlying32 rfl (by rw [List.length_map, hx.out]; kernel_rfl) ?_
                exact hK _ _ (World.grownBy.refl _ _) rfl
              · refine Or.inl ⟨fun v w h => h, ?_⟩
                intro a W hW hb hd K hK
                have b29 : a.tmps[29]?.getD undef = _ := hd ⟨16, .data⟩ (by simp) rfl
                have b34 : a.tmps[34]?.getD undef = _ := hd ⟨21, .data⟩ (by simp) rfl
                go_simp
                refine (Less_any W y.d x.d hy.out hx.out).mono ?_
                rintro e w' ⟨rfl, hb'⟩
                exact hK _ _ (grown_of_below hb') (congrArg Value.bool HV.out)
              · refine Or.inl ⟨fun v w h => h, ?_⟩
                intro a W hW hb hd K hK
                have b35 : a.tmps[35]?.getD undef = _ := hd ⟨22, .data⟩ (by simp) rfl
                go_simp
                exact hK _ _ (World.grownBy.refl _ _) rfl
              · refine Or.inl ⟨fun v w h => h, ?_⟩
                intro a W hW hb hd K hK
                have b23 : a.tmps[23]?.getD undef = _ := hd ⟨10, .data⟩ (by simp) rfl
                have b36 : a.tmps[36]?.getD undef = _ := hd ⟨23, .data⟩ (by simp) rfl
                go_simp
                exact hK _ _ (World.grownBy.refl _ _) rfl
            case fin =>
              intro vs W hW hv
              have e7 : vs 7 = _ := hv 7 (by decide)
              have e24 : vs 24 = _ := hv 24 (by decide)
              clear hv
              simp only [putAll, List.drop_succ_cons, List.drop_zero, e7, e24, Act.put, List.setIfInBounds_toArray, List.set_cons_succ, List.set_cons_zero]
              clear e7 e24
              go_wp2_with fail
              refine ⟨⟨k + 1, by omega, by go_num, fun i hi => ?_, hW⟩, by simp [intOf]; omega⟩
              by_cases hik : i = k
              · rw [hik]; exact HF.out
              · exact HA.out i (by omega)
    · obtain rfl : k = n := by omega
      have d1 : decide ((k : Int) < (k : Int)) = false := by simp
      have hv : Hid (validB l = true) := Lib.hid (by rw [validB_all l (by rw [HN.out]; exact HA.out), HN.out]; exact decide_eq_true H256.out)
      go_wp2
      go_ret
      exact ⟨ret_bool (by rw [hv.out]), (hI.at_ 1 rfl : _ ∧ _).1⟩
end Go.Proofs.YtkcmaembpfakdaaGreatDoor

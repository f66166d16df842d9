/- Valid and changes. -/
import Derived.Test.YtipepcjiogifaaaDoorSnap1
import Derived.Test.YtipepcjiogifaaaDoorSnap2
import Derived.Test.YtipepcjiogifaaaDoorFreA
set_option linter.unusedSimpArgs false
set_option linter.unusedVariables false
namespace Go.Adm
open Go Go.RowKit
section
variable {α : Type} (key : α → ByteArray) (good : α → Bool)
def okAt1 (l : List α) (k : Nat) (e : α) : Bool := good e && (match k with | 0 => true | j + 1 => match l[j]? with | none => true | some e' => blt (key e') (key e))
def okAt (l : List α) (k : Nat) : Bool := match l[k]? with | none => true | some e => okAt1 key good l k e
theorem okAt_at (l : List α) (k : Nat) (hk : k < l.length) : okAt key good l k = okAt1 key good l k l[k] := by
  unfold okAt
  rw [List.getElem?_eq_getElem hk]
theorem okAt1_bad (l : List α) (k : Nat) (e : α) (h : good e = false) : okAt1 key good l k e = false := by simp [okAt1, h]
theorem okAt1_zero (l : List α) (k : Nat) (e : α) (h : good e = true) (hk : k = 0) : okAt1 key good l k e = true := by subst hk; simp [okAt1, h]
theorem okAt1_succ (l : List α) (k j : Nat) (e : α) (h : good e = true) (hk : k = j + 1) (hj : j < l.length) {v : Bool} (hv : blt (key l[j]) (key e) = v) : okAt1 key good l k e = v := by
  subst hk
  simp [okAt1, h, hj, hv]
def okAll (m : Nat) (l : List α) : Bool := decide (l.length ≤ m) && (List.range l.length).all (okAt key good l)
theorem okAll_no (m : Nat) (l : List α) (k : Nat) (hk : k < l.length) (h : okAt key good l k = false) : okAll key good m l = false := by
  have : (List.range l.length).all (okAt key good l) = false := by
    rw [List.all_eq_false]
    exact ⟨k, List.mem_range.2 hk, by rw [h]; decide⟩
  rw [okAll, this, Bool.and_false]
theorem okAll_all (m : Nat) (l : List α) (h : ∀ i < l.length, okAt key good l i = true) : okAll key good m l = decide (l.length ≤ m) := by
  have : (List.range l.length).all (okAt key good l) = true := List.all_eq_true.2 fun i hi => h i (List.mem_range.1 hi)
  rw [okAll, this, Bool.and_true]
end
theorem wp_eql {P : Program} {o : Oper} {a : Act} {w : World} {K : Act → World → Prop} {Q : Exit → Act → World → Prop} {t t2 : TypeId} (x y : Operand) (ho : o.op = .binOp .eql t x y t2) (v : Value)
    (h : (binOp .eql t (a.eval x) (a.eval y)).run P w = .ok v w) (hg : (eqGuard .eql t x y (a.eval x) (a.eval y)).run P w = .ok () w) (hk : K (a.put o.dst v) w) : o.wp P a w K Q := by
  unfold Oper.wp execOp
  simp only [ho, Sem.run_bind, hg, h, Result.andThen_ok]
  exact hk
def goodE (e : E) : Bool := pathB e.p && !decide (e.d = z32)
def goodC (c : C) : Bool := pathB c.p && !decide (c.o = c.n)
def validB (l : List E) : Bool := okAll Ent.p goodE 64 l
def changesB (l : List C) : Bool := okAll Chg.p goodC 128 l
theorem validB_no (l : List E) (k : Nat) (hk : k < l.length) (h : okAt Ent.p goodE l k = false) : validB l = false := okAll_no _ _ _ l k hk h
theorem changesB_no (l : List C) (k : Nat) (hk : k < l.length) (h : okAt Chg.p goodC l k = false) : changesB l = false := okAll_no _ _ _ l k hk h
theorem validB_all (l : List E) (h : ∀ i < l.length, okAt Ent.p goodE l i = true) : validB l = decide (l.length ≤ 64) := okAll_all _ _ _ l h
theorem changesB_all (l : List C) (h : ∀ i < l.length, okAt Chg.p goodC l i = true) : changesB l = decide (l.length ≤ 128) := okAll_all _ _ _ l h
end Go.Adm
namespace Go.Proofs.YtipepcjiogifaaaDoor
open Go Go.RowKit Go.Adm

set_option maxRecDepth 100000 in
set_option maxHeartbeats 3200000 in
theorem Valid_any (w : World) (B : Nat) (A : Option Addr) (n c : Nat) (l : List E) (hl : Els w B 33 A n (l.map entC)) (h32 : ∀ e ∈ l, E32 e) (hn : l.length = n) (hn2 : n ≤ 1000000) (hB : B ≤ w.heap.size) :
    Calls Tryd.prog 14 #[.slice A n c] w fun e w' => e = .returned (.bool (validB l)) ∧ Below w.heap.size w w' := by
  have hR : All w [.low (.els B 33 A n (l.map entC)), .kept w w.heap.size] := ⟨⟨hl, hB⟩, ⟨Below.refl _ _, Nat.le_refl _⟩, trivial⟩
  have HN := Lib.hid hn
  have H32 := Lib.hid h32
  clear hl h32 hn
  have hzr := zero_ent
  go_enter Tryd.func14, Tryd.ntmps14
  go_upto_region 1 with (fail)
  have hI0 := hR
  clear hR
  go_wp2
  go_loopw [7] (fun i wr => ∃ (k : Nat), k ≤ n ∧ i = .int .i64 k ∧ (∀ i < k, okAt Ent.p goodE l i = true) ∧ All wr [.low (.els B 33 A n (l.map entC)), .kept w w.heap.size]) (fun i _ => n - (intOf i).toNat)
  case atStart => exact ⟨0, by omega, rfl, fun i hi => absurd hi (by omega), hI0⟩
  case round =>
    obtain ⟨k, hk, rfl, hA, hI⟩ := hrel
    have HA := Lib.hid hA
    clear hA hI0
    by_cases hlt : k < n
    · have hkl : k < l.length := by rw [HN.out]; exact hlt
      obtain ⟨ad, rfl, hadB, hc⟩ := Els.elem (hI.at_ 0 rfl : Els wr B 33 A n (l.map entC) ∧ B ≤ wr.heap.size).1 hkl
      have HC := Lib.hid hc
      have hx := Lib.hid (H32.out _ (List.getElem_mem hkl))
      have HO : Hid (∀ v, okAt1 Ent.p goodE l k l[k] = v → okAt Ent.p goodE l k = v) := Lib.hid (fun v hv => by rw [okAt_at _ _ _ _ hkl]; exact hv)
      clear hc
      generalize l[k] = x at *
      have hsz : w.heap.size ≤ wr.heap.size := hI.size_kept 1 rfl
      obtain ⟨gx, hgx⟩ : ∃ gx, gx = wr.heap.size := ⟨_, rfl⟩
      have d1 : decide ((k : Int) < (n : Int)) = true := by simp; omega
      go_upto_region 4 with (first
        | (refine wl_load_any rfl 50 (.tmp 10) rfl (ad.add (k * 33)) rfl (entC x) _ HC.out Tryd.underlying50 rfl (by rw [entC_len hx.out]; kernel_rfl) ?_)
        | (refine wl_store_at (hI.new (l := entZ) _ 50 hgx rfl) 0 rfl 50 (.tmp 4) (.tmp 11) rfl gx _ _ (entC x) rfl (by rw [hgx]; rfl) rfl (by rw [entC_len hx.out]; rfl) (by rw [entC_len hx.out]; kernel_rfl) (entC_one x) (by simp [Apart, Res.apart, Low.els] <;> omega) ?_; intro W2 hW2 hs2; clear hs2; simp only [List.set_cons_zero] at hW2))
      simp only [← hgx]
      have hgB : B ≤ gx := by omega
      clear hgx hI
      cases hp : pathB x.p with
      | false =>
        have HP := Lib.hid hp
        have HF : Hid (okAt Ent.p goodE l k = false) := Lib.hid (HO.out _ (okAt1_bad _ _ _ _ _ (by rw [goodE, hp]; rfl)))
        replace HF : Hid (validB l = false) := Lib.hid (validB_no l k hkl HF.out)
        clear hp
        refine wp_region_hopsH 24 (12 :: 13 :: 14 :: 15 :: 16 :: 17 :: 18 :: 19 :: 20 :: 21 :: 22 :: 23 :: 24 :: 25 :: 26 :: 27 :: 28 :: 29 :: 30 :: 31 :: 32 :: 33 :: 34 :: 35 :: []) _
          (.eq (.pointer (some ⟨gx, 0, none⟩)) :: .eq (.string x.p) :: .eq (.bool false) :: .eq (.bool true) :: .eq (.bool true) :: .eq undef :: .eq undef :: .eq undef :: .eq undef :: .eq (.bool true) :: .eq (.bool true) :: .eq undef :: .eq undef :: .eq undef :: .eq undef :: .eq undef :: .eq undef :: .eq undef :: .eq undef :: .eq undef :: .eq undef :: .eq undef :: .eq undef :: .eq undef :: [])
          (by kernel_rfl) (by kernel_rfl) hW2 rfl ?hops ?fin
        case hops =>
          refine ⟨?_, ?_, ?_, ?_, ?_, ?_, ?_, ?_, ?_, ?_, ?_, ?_, ?_, ?_, ?_, ?_, ?_, ?_, ?_, ?_, ?_, ?_, ?_, ?_, trivial⟩
          · intro a W hW hb hd K hK
            have b4 := hb 4 rfl
            go_simp
            exact hK _ _ (World.grownBy.refl _ _) rfl
          · intro a W hW hb hd K hK
            have b12 : a.tmps[12]?.getD undef = _ := hd ⟨0, .data⟩ (by simp) rfl
            have q1 : W.cell? ⟨gx, 0, none⟩ = some (.string x.p) := Cells.cell (hW.at_ 0 rfl) (i := 0) (by simp [entC])
            go_simp
            exact hK _ _ (World.grownBy.refl _ _) rfl
          · intro a W hW hb hd K hK
            have b13 : a.tmps[13]?.getD undef = _ := hd ⟨1, .data⟩ (by simp) rfl
            go_simp
            refine (Path_any x.p W hx.out.2).mono ?_
            rintro e w' ⟨rfl, hb'⟩
            exact hK _ _ (grown_of_below hb') (congrArg Value.bool HP.out)
          · intro a W hW hb hd K hK
            have b14 : a.tmps[14]?.getD undef = _ := hd ⟨2, .data⟩ (by simp) rfl
            go_simp
            exact hK _ _ (World.grownBy.refl _ _) rfl
          · intro a W hW hb hd K hK
            have b15 : a.tmps[15]?.getD undef = _ := hd ⟨3, .data⟩ (by simp) rfl
            go_simp
            exact hK _ _ (World.grownBy.refl _ _) rfl
          · exact Or.inr ⟨fun v w h => by rw [show v = _ from h]; first | (intro h2; cases h2) | (simp [undef]), fun w => rfl⟩
          · exact Or.inr ⟨fun v w h => by rw [show v = _ from h]; first | (intro h2; cases h2) | (simp [undef]), fun w => rfl⟩
          · exact Or.inr ⟨fun v w h => by rw [show v = _ from h]; first | (intro h2; cases h2) | (simp [undef]), fun w => rfl⟩
          · exact Or.inr ⟨fun v w h => by rw [show v = _ from h]; first | (intro h2; cases h2) | (simp [undef]), fun w => rfl⟩
          · intro a W hW hb hd K hK
            have b16 : a.tmps[16]?.getD undef = _ := hd ⟨4, .data⟩ (by simp) rfl
            have b20 : a.tmps[20]?.getD undef = _ := hd ⟨8, .data⟩ (by simp) rfl
            go_simp
            exact hK _ _ (World.grownBy.refl _ _) rfl
          · intro a W hW hb hd K hK
            have b21 : a.tmps[21]?.getD undef = _ := hd ⟨9, .data⟩ (by simp) rfl
            go_simp
            exact hK _ _ (World.grownBy.refl _ _) rfl
          · exact Or.inr ⟨fun v w h => by rw [show v = _ from h]; first | (intro h2; cases h2) | (simp [undef]), fun w => rfl⟩
          · exact Or.inr ⟨fun v w h => by rw [show v = _ from h]; first | (intro h2; cases h2) | (simp [undef]), fun w => rfl⟩
          · exact Or.inr ⟨fun v w h => by rw [show v = _ from h]; first | (intro h2; cases h2) | (simp [undef]), fun w => rfl⟩
          · exact Or.inr ⟨fun v w h => by rw [show v = _ from h]; first | (intro h2; cases h2) | (simp [undef]), fun w => rfl⟩
          · exact Or.inr ⟨fun v w h => by rw [show v = _ from h]; first | (intro h2; cases h2) | (simp [undef]), fun w => rfl⟩
          · exact Or.inr ⟨fun v w h => by rw [show v = _ from h]; first | (intro h2; cases h2) | (simp [undef]), fun w => rfl⟩
          · exact Or.inr ⟨fun v w h => by rw [show v = _ from h]; first | (intro h2; cases h2) | (simp [undef]), fun w => rfl⟩
          · exact Or.inr ⟨fun v w h => by rw [show v = _ from h]; first | (intro h2; cases h2) | (simp [undef]), fun w => rfl⟩
          · exact Or.inr ⟨fun v w h => by rw [show v = _ from h]; first | (intro h2; cases h2) | (simp [undef]), fun w => rfl⟩
          · exact Or.inr ⟨fun v w h => by rw [show v = _ from h]; first | (intro h2; cases h2) | (simp [undef]), fun w => rfl⟩
          · exact Or.inr ⟨fun v w h => by rw [show v = _ from h]; first | (intro h2; cases h2) | (simp [undef]), fun w => rfl⟩
          · exact Or.inr ⟨fun v w h => by rw [show v = _ from h]; first | (intro h2; cases h2) | (simp [undef]), fun w => rfl⟩
          · exact Or.inr ⟨fun v w h => by rw [show v = _ from h]; first | (intro h2; cases h2) | (simp [undef]), fun w => rfl⟩
        case fin =>
          intro vs W hW hv
          have e10 : vs 10 = _ := hv 10 (by decide)
          have e23 : vs 23 = _ := hv 23 (by decide)
          clear hv
          simp only [putAll, List.drop_succ_cons, List.drop_zero, e10, e23, Act.put, List.setIfInBounds_toArray, List.set_cons_succ, List.set_cons_zero]
          clear e10 e23
          go_wp2_with fail
          go_ret
          exact ⟨ret_bool (by rw [HF.out]), (hW.at_ 2 rfl).1⟩
      | true =>
        have HP := Lib.hid hp
        cases hz : (decide (x.d = z32)) with
        | true =>
          have HZ := Lib.hid hz
          have HF : Hid (okAt Ent.p goodE l k = false) := Lib.hid (HO.out _ (okAt1_bad _ _ _ _ _ (by rw [goodE, hz]; simp)))
          replace HF : Hid (validB l = false) := Lib.hid (validB_no l k hkl HF.out)
          clear hp hz
          refine wp_region_hopsH 24 (12 :: 13 :: 14 :: 15 :: 16 :: 17 :: 18 :: 19 :: 20 :: 21 :: 22 :: 23 :: 24 :: 25 :: 26 :: 27 :: 28 :: 29 :: 30 :: 31 :: 32 :: 33 :: 34 :: 35 :: []) _
            (.eq (.pointer (some ⟨gx, 0, none⟩)) :: .eq (.string x.p) :: .eq (.bool true) :: .eq (.bool false) :: .eq (.bool false) :: .eq (.pointer (some ⟨gx, 1, none⟩)) :: .eq (.agg (x.d.map bv).toArray) :: .eq (.agg (z32.map bv).toArray) :: .eq (.bool true) :: .eq (.bool true) :: .eq (.bool true) :: .eq undef :: .eq undef :: .eq undef :: .eq undef :: .eq undef :: .eq undef :: .eq undef :: .eq undef :: .eq undef :: .eq undef :: .eq undef :: .eq undef :: .eq undef :: [])
            (by kernel_rfl) (by kernel_rfl) hW2 rfl ?hops ?fin
          case hops =>
            refine ⟨?_, ?_, ?_, ?_, ?_, ?_, ?_, ?_, ?_, ?_, ?_, ?_, ?_, ?_, ?_, ?_, ?_, ?_, ?_, ?_, ?_, ?_, ?_, ?_, trivial⟩
            · intro a W hW hb hd K hK
              have b4 := hb 4 rfl
              go_simp
              exact hK _ _ (World.grownBy.refl _ _) rfl
            · intro a W hW hb hd K hK
              have b12 : a.tmps[12]?.getD undef = _ := hd ⟨0, .data⟩ (by simp) rfl
              have q1 : W.cell? ⟨gx, 0, none⟩ = some (.string x.p) := Cells.cell (hW.at_ 0 rfl) (i := 0) (by simp [entC])
              go_simp
              exact hK _ _ (World.grownBy.refl _ _) rfl
            · intro a W hW hb hd K hK
              have b13 : a.tmps[13]?.getD undef = _ := hd ⟨1, .data⟩ (by simp) rfl
              go_simp
              refine (Path_any x.p W hx.out.2).mono ?_
              rintro e w' ⟨rfl, hb'⟩
              exact hK _ _ (grown_of_below hb') (congrArg Value.bool HP.out)
            · intro a W hW hb hd K hK
              have b14 : a.tmps[14]?.getD undef = _ := hd ⟨2, .data⟩ (by simp) rfl
              go_simp
              exact hK _ _ (World.grownBy.refl _ _) rfl
            · intro a W hW hb hd K hK
              have b15 : a.tmps[15]?.getD undef = _ := hd ⟨3, .data⟩ (by simp) rfl
              go_simp
              exact hK _ _ (World.grownBy.refl _ _) rfl
            · refine Or.inl ⟨fun v w h => h, ?_⟩
              intro a W hW hb hd K hK
              have b4 := hb 4 rfl
              go_simp
              exact hK _ _ (World.grownBy.refl _ _) rfl
            · refine Or.inl ⟨fun v w h => h, ?_⟩
              intro a W hW hb hd K hK
              have b17 : a.tmps[17]?.getD undef = _ := hd ⟨5, .data⟩ (by simp) rfl
              refine wp_load_any 40 (.tmp 17) rfl ⟨gx, 1, none⟩ (by simp [Act.eval, b17]) (x.d.map bv) _ (Cells.sub (hW.at_ 0 rfl) 1 (ent_sub x)) Tryd.underlying40 rfl (by rw [List.length_map, hx.out.1]; kernel_rfl) ?_
              exact hK _ _ (World.grownBy.refl _ _) rfl
            · refine Or.inl ⟨fun v w h => h, ?_⟩
              intro a W hW hb hd K hK
              go_simp
              exact hK _ _ (World.grownBy.refl _ _) rfl
            · refine Or.inl ⟨fun v w h => h, ?_⟩
              intro a W hW hb hd K hK
              have b18 : a.tmps[18]?.getD undef = _ := hd ⟨6, .data⟩ (by simp) rfl
              have b19 : a.tmps[19]?.getD undef = _ := hd ⟨7, .data⟩ (by simp) rfl
              have q1 := eq_dg W x.d z32 hx.out.1 rfl
              rw [HZ.out] at q1
              refine wp_eql (.tmp 18) (.tmp 19) rfl _ (by rw [show a.eval (.tmp 18) = _ from by simp only [Act.eval, Array.getD_eq_getD_getElem?]; exact b18, show a.eval (.tmp 19) = _ from by simp only [Act.eval, Array.getD_eq_getD_getElem?]; exact b19]; exact q1) (by go_simp) ?_
              exact hK _ _ (World.grownBy.refl _ _) rfl
            · intro a W hW hb hd K hK
              have b16 : a.tmps[16]?.getD undef = _ := hd ⟨4, .data⟩ (by simp) rfl
              have b20 : a.tmps[20]?.getD undef = _ := hd ⟨8, .data⟩ (by simp) rfl
              go_simp
              exact hK _ _ (World.grownBy.refl _ _) rfl
            · intro a W hW hb hd K hK
              have b21 : a.tmps[21]?.getD undef = _ := hd ⟨9, .data⟩ (by simp) rfl
              go_simp
              exact hK _ _ (World.grownBy.refl _ _) rfl
            · exact Or.inr ⟨fun v w h => by rw [show v = _ from h]; first | (intro h2; cases h2) | (simp [undef]), fun w => rfl⟩
            · exact Or.inr ⟨fun v w h => by rw [show v = _ from h]; first | (intro h2; cases h2) | (simp [undef]), fun w => rfl⟩
            · exact Or.inr ⟨fun v w h => by rw [show v = _ from h]; first | (intro h2; cases h2) | (simp [undef]), fun w => rfl⟩
            · exact Or.inr ⟨fun v w h => by rw [show v = _ from h]; first | (intro h2; cases h2) | (simp [undef]), fun w => rfl⟩
            · exact Or.inr ⟨fun v w h => by rw [show v = _ from h]; first | (intro h2; cases h2) | (simp [undef]), fun w => rfl⟩
            · exact Or.inr ⟨fun v w h => by rw [show v = _ from h]; first | (intro h2; cases h2) | (simp [undef]), fun w => rfl⟩
            · exact Or.inr ⟨fun v w h => by rw [show v = _ from h]; first | (intro h2; cases h2) | (simp [undef]), fun w => rfl⟩
            · exact Or.inr ⟨fun v w h => by rw [show v = _ from h]; first | (intro h2; cases h2) | (simp [undef]), fun w => rfl⟩
            · exact Or.inr ⟨fun v w h => by rw [show v = _ from h]; first | (intro h2; cases h2) | (simp [undef]), fun w => rfl⟩
            · exact Or.inr ⟨fun v w h => by rw [show v = _ from h]; first | (intro h2; cases h2) | (simp [undef]), fun w => rfl⟩
            · exact Or.inr ⟨fun v w h => by rw [show v = _ from h]; first | (intro h2; cases h2) | (simp [undef]), fun w => rfl⟩
            · exact Or.inr ⟨fun v w h => by rw [show v = _ from h]; first | (intro h2; cases h2) | (simp [undef]), fun w => rfl⟩
            · exact Or.inr ⟨fun v w h => by rw [show v = _ from h]; first | (intro h2; cases h2) | (simp [undef]), fun w => rfl⟩
          case fin =>
            intro vs W hW hv
            have e10 : vs 10 = _ := hv 10 (by decide)
            have e23 : vs 23 = _ := hv 23 (by decide)
            clear hv
            simp only [putAll, List.drop_succ_cons, List.drop_zero, e10, e23, Act.put, List.setIfInBounds_toArray, List.set_cons_succ, List.set_cons_zero]
            clear e10 e23
            go_wp2_with fail
            go_ret
            exact ⟨ret_bool (by rw [HF.out]), (hW.at_ 2 rfl).1⟩
        | false =>
          have HZ := Lib.hid hz
          have HG : Hid (goodE x = true) := Lib.hid (by rw [goodE, hp, hz]; rfl)
          clear hp hz
          by_cases hk0 : k = 0
          · have HF : Hid (okAt Ent.p goodE l k = true) := Lib.hid (HO.out _ (okAt1_zero _ _ _ _ _ HG.out hk0))
            have d2 : decide (0 < (k : Int)) = false := by simp; omega
            have d3 : decide (0 < k) = false := by simp; omega
            clear hk0
            refine wp_region_hopsH 24 (12 :: 13 :: 14 :: 15 :: 16 :: 17 :: 18 :: 19 :: 20 :: 21 :: 22 :: 23 :: 24 :: 25 :: 26 :: 27 :: 28 :: 29 :: 30 :: 31 :: 32 :: 33 :: 34 :: 35 :: []) _
              (.eq (.pointer (some ⟨gx, 0, none⟩)) :: .eq (.string x.p) :: .eq (.bool true) :: .eq (.bool false) :: .eq (.bool false) :: .eq (.pointer (some ⟨gx, 1, none⟩)) :: .eq (.agg (x.d.map bv).toArray) :: .eq (.agg (z32.map bv).toArray) :: .eq (.bool false) :: .eq (.bool false) :: .eq (.bool false) :: .eq (.int .i64 k) :: .eq (.bool false) :: .eq (.bool false) :: .eq undef :: .eq undef :: .eq undef :: .eq undef :: .eq undef :: .eq undef :: .eq undef :: .eq undef :: .eq undef :: .eq (.bool false) :: [])
              (by kernel_rfl) (by kernel_rfl) hW2 rfl ?hops ?fin
            case hops =>
              refine ⟨?_, ?_, ?_, ?_, ?_, ?_, ?_, ?_, ?_, ?_, ?_, ?_, ?_, ?_, ?_, ?_, ?_, ?_, ?_, ?_, ?_, ?_, ?_, ?_, trivial⟩
              · intro a W hW hb hd K hK
                have b4 := hb 4 rfl
                go_simp
                exact hK _ _ (World.grownBy.refl _ _) rfl
              · intro a W hW hb hd K hK
                have b12 : a.tmps[12]?.getD undef = _ := hd ⟨0, .data⟩ (by simp) rfl
                have q1 : W.cell? ⟨gx, 0, none⟩ = some (.string x.p) := Cells.cell (hW.at_ 0 rfl) (i := 0) (by simp [entC])
                go_simp
                exact hK _ _ (World.grownBy.refl _ _) rfl
              · intro a W hW hb hd K hK
                have b13 : a.tmps[13]?.getD undef = _ := hd ⟨1, .data⟩ (by simp) rfl
                go_simp
                refine (Path_any x.p W hx.out.2).mono ?_
                rintro e w' ⟨rfl, hb'⟩
                exact hK _ _ (grown_of_below hb') (congrArg Value.bool HP.out)
              · intro a W hW hb hd K hK
                have b14 : a.tmps[14]?.getD undef = _ := hd ⟨2, .data⟩ (by simp) rfl
                go_simp
                exact hK _ _ (World.grownBy.refl _ _) rfl
              · intro a W hW hb hd K hK
                have b15 : a.tmps[15]?.getD undef = _ := hd ⟨3, .data⟩ (by simp) rfl
                go_simp
                exact hK _ _ (World.grownBy.refl _ _) rfl
              · refine Or.inl ⟨fun v w h => h, ?_⟩
                intro a W hW hb hd K hK
                have b4 := hb 4 rfl
                go_simp
                exact hK _ _ (World.grownBy.refl _ _) rfl
              · refine Or.inl ⟨fun v w h => h, ?_⟩
                intro a W hW hb hd K hK
                have b17 : a.tmps[17]?.getD undef = _ := hd ⟨5, .data⟩ (by simp) rfl
                refine wp_load_any 40 (.tmp 17) rfl ⟨gx, 1, none⟩ (by simp [Act.eval, b17]) (x.d.map bv) _ (Cells.sub (hW.at_ 0 rfl) 1 (ent_sub x)) Tryd.underlying40 rfl (by rw [List.length_map, hx.out.1]; kernel_rfl) ?_
                exact hK _ _ (World.grownBy.refl _ _) rfl
              · refine Or.inl ⟨fun v w h => h, ?_⟩
                intro a W hW hb hd K hK
                go_simp
                exact hK _ _ (World.grownBy.refl _ _) rfl
              · refine Or.inl ⟨fun v w h => h, ?_⟩
                intro a W hW hb hd K hK
                have b18 : a.tmps[18]?.getD undef = _ := hd ⟨6, .data⟩ (by simp) rfl
                have b19 : a.tmps[19]?.getD undef = _ := hd ⟨7, .data⟩ (by simp) rfl
                have q1 := eq_dg W x.d z32 hx.out.1 rfl
                rw [HZ.out] at q1
                refine wp_eql (.tmp 18) (.tmp 19) rfl _ (by rw [show a.eval (.tmp 18) = _ from by simp only [Act.eval, Array.getD_eq_getD_getElem?]; exact b18, show a.eval (.tmp 19) = _ from by simp only [Act.eval, Array.getD_eq_getD_getElem?]; exact b19]; exact q1) (by go_simp) ?_
                exact hK _ _ (World.grownBy.refl _ _) rfl
              · intro a W hW hb hd K hK
                have b16 : a.tmps[16]?.getD undef = _ := hd ⟨4, .data⟩ (by simp) rfl
                have b20 : a.tmps[20]?.getD undef = _ := hd ⟨8, .data⟩ (by simp) rfl
                go_simp
                exact hK _ _ (World.grownBy.refl _ _) rfl
              · intro a W hW hb hd K hK
                have b21 : a.tmps[21]?.getD undef = _ := hd ⟨9, .data⟩ (by simp) rfl
                go_simp
                exact hK _ _ (World.grownBy.refl _ _) rfl
              · refine Or.inl ⟨fun v w h => h, ?_⟩
                intro a W hW hb hd K hK
                have b3 := hb 3 rfl
                go_simp
                exact hK _ _ (World.grownBy.refl _ _) rfl
              · refine Or.inl ⟨fun v w h => h, ?_⟩
                intro a W hW hb hd K hK
                have b23 : a.tmps[23]?.getD undef = _ := hd ⟨11, .data⟩ (by simp) rfl
                go_simp
                exact hK _ _ (World.grownBy.refl _ _) rfl
              · refine Or.inl ⟨fun v w h => h, ?_⟩
                intro a W hW hb hd K hK
                have b24 : a.tmps[24]?.getD undef = _ := hd ⟨12, .data⟩ (by simp) rfl
                go_simp
                exact hK _ _ (World.grownBy.refl _ _) rfl
              · exact Or.inr ⟨fun v w h => by rw [show v = _ from h]; first | (intro h2; cases h2) | (simp [undef]), fun w => rfl⟩
              · exact Or.inr ⟨fun v w h => by rw [show v = _ from h]; first | (intro h2; cases h2) | (simp [undef]), fun w => rfl⟩
              · exact Or.inr ⟨fun v w h => by rw [show v = _ from h]; first | (intro h2; cases h2) | (simp [undef]), fun w => rfl⟩
              · exact Or.inr ⟨fun v w h => by rw [show v = _ from h]; first | (intro h2; cases h2) | (simp [undef]), fun w => rfl⟩
              · exact Or.inr ⟨fun v w h => by rw [show v = _ from h]; first | (intro h2; cases h2) | (simp [undef]), fun w => rfl⟩
              · exact Or.inr ⟨fun v w h => by rw [show v = _ from h]; first | (intro h2; cases h2) | (simp [undef]), fun w => rfl⟩
              · exact Or.inr ⟨fun v w h => by rw [show v = _ from h]; first | (intro h2; cases h2) | (simp [undef]), fun w => rfl⟩
              · exact Or.inr ⟨fun v w h => by rw [show v = _ from h]; first | (intro h2; cases h2) | (simp [undef]), fun w => rfl⟩
              · exact Or.inr ⟨fun v w h => by rw [show v = _ from h]; first | (intro h2; cases h2) | (simp [undef]), fun w => rfl⟩
              · refine Or.inl ⟨fun v w h => h, ?_⟩
                intro a W hW hb hd K hK
                have b25 : a.tmps[25]?.getD undef = _ := hd ⟨13, .data⟩ (by simp) rfl
                have b34 : a.tmps[34]?.getD undef = _ := hd ⟨22, .data⟩ (by simp) rfl
                go_simp
                exact hK _ _ (World.grownBy.refl _ _) rfl
            case fin =>
              intro vs W hW hv
              have e10 : vs 10 = _ := hv 10 (by decide)
              have e23 : vs 23 = _ := hv 23 (by decide)
              clear hv
              simp only [putAll, List.drop_succ_cons, List.drop_zero, e10, e23, Act.put, List.setIfInBounds_toArray, List.set_cons_succ, List.set_cons_zero]
              clear e10 e23
              go_wp2_with fail
              refine ⟨⟨k + 1, by omega, by go_num, fun i hi => ?_, hW.2⟩, by simp [intOf]; omega⟩
              by_cases hik : i = k
              · rw [hik]; exact HF.out
              · exact HA.out i (by omega)
          · obtain ⟨j, hj⟩ : ∃ j, k = j + 1 := ⟨k - 1, by omega⟩
            have hjl : j < l.length := by omega
            have HJ : Hid (∀ W, All W [.cells gx 50 (entC x), .low (.els B 33 (some ad) n (l.map entC)), .kept w w.heap.size] → W.cell? (ad.add (j * 33)) = some (.string l[j].p)) := Lib.hid (fun W hW => by
              obtain ⟨ad', e, _, hc⟩ := Els.elem (hW.at_ 1 rfl : Els W B 33 (some ad) n (l.map entC) ∧ B ≤ W.heap.size).1 hjl
              obtain rfl := Option.some.inj e
              have := hc 0 (sv l[j].p) rfl
              rwa [add_zero] at this)
            have HO2 : Hid (∀ v, blt l[j].p x.p = v → okAt Ent.p goodE l k = v) := Lib.hid (fun v hv => HO.out _ (okAt1_succ _ _ _ _ _ _ HG.out hj hjl hv))
            generalize l[j] = y at *
            have HY := HJ
            have d2 : decide (0 < (k : Int)) = true := by simp; omega
            have d3 : decide (0 < k) = true := by simp; omega
            have w1 : IntKind.i64.wrap ((k : Int) - 1) = (j : Int) := by rw [IntWalk.i64_in _ (by omega)]; omega
            have wj1 : (0 : Int) ≤ (j : Int) := by omega
            have wj2 : (j : Int) < (n : Int) := by omega
            have wj3 : ((j : Int)).toNat = j := by omega
            have HK := Lib.hid hj
            clear hj
            cases hb : Op.bytesLess y.p.toList x.p.toList with
            | false =>
              have HF : Hid (okAt Ent.p goodE l k = false) := Lib.hid (HO2.out _ hb)
              replace HF : Hid (validB l = false) := Lib.hid (validB_no l k hkl HF.out)
              refine wp_region_hopsH 24 (12 :: 13 :: 14 :: 15 :: 16 :: 17 :: 18 :: 19 :: 20 :: 21 :: 22 :: 23 :: 24 :: 25 :: 26 :: 27 :: 28 :: 29 :: 30 :: 31 :: 32 :: 33 :: 34 :: 35 :: []) _
                (.eq (.pointer (some ⟨gx, 0, none⟩)) :: .eq (.string x.p) :: .eq (.bool true) :: .eq (.bool false) :: .eq (.bool false) :: .eq (.pointer (some ⟨gx, 1, none⟩)) :: .eq (.agg (x.d.map bv).toArray) :: .eq (.agg (z32.map bv).toArray) :: .eq (.bool false) :: .eq (.bool false) :: .eq (.bool false) :: .eq (.int .i64 k) :: .eq (.bool true) :: .eq (.bool true) :: .eq (.slice (some ad) n c) :: .eq (.int .i64 k) :: .eq (.int .i64 j) :: .eq (.pointer (some (ad.add (j * 33)))) :: .eq (.pointer (some (ad.add (j * 33)))) :: .eq (.string y.p) :: .eq (.pointer (some ⟨gx, 0, none⟩)) :: .eq (.string x.p) :: .eq (.bool true) :: .eq (.bool true) :: [])
                (by kernel_rfl) (by kernel_rfl) hW2 rfl ?hops ?fin
              case hops =>
                refine ⟨?_, ?_, ?_, ?_, ?_, ?_, ?_, ?_, ?_, ?_, ?_, ?_, ?_, ?_, ?_, ?_, ?_, ?_, ?_, ?_, ?_, ?_, ?_, ?_, trivial⟩
                · intro a W hW hb hd K hK
                  have b4 := hb 4 rfl
                  go_simp
                  exact hK _ _ (World.grownBy.refl _ _) rfl
                · intro a W hW hb hd K hK
                  have b12 : a.tmps[12]?.getD undef = _ := hd ⟨0, .data⟩ (by simp) rfl
                  have q1 : W.cell? ⟨gx, 0, none⟩ = some (.string x.p) := Cells.cell (hW.at_ 0 rfl) (i := 0) (by simp [entC])
                  go_simp
                  exact hK _ _ (World.grownBy.refl _ _) rfl
                · intro a W hW hb hd K hK
                  have b13 : a.tmps[13]?.getD undef = _ := hd ⟨1, .data⟩ (by simp) rfl
                  go_simp
                  refine (Path_any x.p W hx.out.2).mono ?_
                  rintro e w' ⟨rfl, hb'⟩
                  exact hK _ _ (grown_of_below hb') (congrArg Value.bool HP.out)
                · intro a W hW hb hd K hK
                  have b14 : a.tmps[14]?.getD undef = _ := hd ⟨2, .data⟩ (by simp) rfl
                  go_simp
                  exact hK _ _ (World.grownBy.refl _ _) rfl
                · intro a W hW hb hd K hK
                  have b15 : a.tmps[15]?.getD undef = _ := hd ⟨3, .data⟩ (by simp) rfl
                  go_simp
                  exact hK _ _ (World.grownBy.refl _ _) rfl
                · refine Or.inl ⟨fun v w h => h, ?_⟩
                  intro a W hW hb hd K hK
                  have b4 := hb 4 rfl
                  go_simp
                  exact hK _ _ (World.grownBy.refl _ _) rfl
                · refine Or.inl ⟨fun v w h => h, ?_⟩
                  intro a W hW hb hd K hK
                  have b17 : a.tmps[17]?.getD undef = _ := hd ⟨5, .data⟩ (by simp) rfl
                  refine wp_load_any 40 (.tmp 17) rfl ⟨gx, 1, none⟩ (by simp [Act.eval, b17]) (x.d.map bv) _ (Cells.sub (hW.at_ 0 rfl) 1 (ent_sub x)) Tryd.underlying40 rfl (by rw [List.length_map, hx.out.1]; kernel_rfl) ?_
                  exact hK _ _ (World.grownBy.refl _ _) rfl
                · refine Or.inl ⟨fun v w h => h, ?_⟩
                  intro a W hW hb hd K hK
                  go_simp
                  exact hK _ _ (World.grownBy.refl _ _) rfl
                · refine Or.inl ⟨fun v w h => h, ?_⟩
                  intro a W hW hb hd K hK
                  have b18 : a.tmps[18]?.getD undef = _ := hd ⟨6, .data⟩ (by simp) rfl
                  have b19 : a.tmps[19]?.getD undef = _ := hd ⟨7, .data⟩ (by simp) rfl
                  have q1 := eq_dg W x.d z32 hx.out.1 rfl
                  rw [HZ.out] at q1
                  refine wp_eql (.tmp 18) (.tmp 19) rfl _ (by rw [show a.eval (.tmp 18) = _ from by simp only [Act.eval, Array.getD_eq_getD_getElem?]; exact b18, show a.eval (.tmp 19) = _ from by simp only [Act.eval, Array.getD_eq_getD_getElem?]; exact b19]; exact q1) (by go_simp) ?_
                  exact hK _ _ (World.grownBy.refl _ _) rfl
                · intro a W hW hb hd K hK
                  have b16 : a.tmps[16]?.getD undef = _ := hd ⟨4, .data⟩ (by simp) rfl
                  have b20 : a.tmps[20]?.getD undef = _ := hd ⟨8, .data⟩ (by simp) rfl
                  go_simp
                  exact hK _ _ (World.grownBy.refl _ _) rfl
                · intro a W hW hb hd K hK
                  have b21 : a.tmps[21]?.getD undef = _ := hd ⟨9, .data⟩ (by simp) rfl
                  go_simp
                  exact hK _ _ (World.grownBy.refl _ _) rfl
                · refine Or.inl ⟨fun v w h => h, ?_⟩
                  intro a W hW hb hd K hK
                  have b3 := hb 3 rfl
                  go_simp
                  exact hK _ _ (World.grownBy.refl _ _) rfl
                · refine Or.inl ⟨fun v w h => h, ?_⟩
                  intro a W hW hb hd K hK
                  have b23 : a.tmps[23]?.getD undef = _ := hd ⟨11, .data⟩ (by simp) rfl
                  go_simp
                  exact hK _ _ (World.grownBy.refl _ _) rfl
                · refine Or.inl ⟨fun v w h => h, ?_⟩
                  intro a W hW hb hd K hK
                  have b24 : a.tmps[24]?.getD undef = _ := hd ⟨12, .data⟩ (by simp) rfl
                  go_simp
                  exact hK _ _ (World.grownBy.refl _ _) rfl
                · refine Or.inl ⟨fun v w h => h, ?_⟩
                  intro a W hW hb hd K hK
                  have b0 := hb 0 rfl
                  go_simp
                  exact hK _ _ (World.grownBy.refl _ _) rfl
                · refine Or.inl ⟨fun v w h => h, ?_⟩
                  intro a W hW hb hd K hK
                  have b3 := hb 3 rfl
                  go_simp
                  exact hK _ _ (World.grownBy.refl _ _) rfl
                · refine Or.inl ⟨fun v w h => h, ?_⟩
                  intro a W hW hb hd K hK
                  have b27 : a.tmps[27]?.getD undef = _ := hd ⟨15, .data⟩ (by simp) rfl
                  go_simp
                  exact hK _ _ (World.grownBy.refl _ _) rfl
                · refine Or.inl ⟨fun v w h => h, ?_⟩
                  intro a W hW hb hd K hK
                  have b26 : a.tmps[26]?.getD undef = _ := hd ⟨14, .data⟩ (by simp) rfl
                  have b28 : a.tmps[28]?.getD undef = _ := hd ⟨16, .data⟩ (by simp) rfl
                  go_simp
                  exact hK _ _ (World.grownBy.refl _ _) rfl
                · refine Or.inl ⟨fun v w h => h, ?_⟩
                  intro a W hW hb hd K hK
                  have b29 : a.tmps[29]?.getD undef = _ := hd ⟨17, .data⟩ (by simp) rfl
                  go_simp
                  exact hK _ _ (World.grownBy.refl _ _) (by first | rfl | (rw [add_zero]; rfl) | (simp [add_zero]; rfl))
                · refine Or.inl ⟨fun v w h => h, ?_⟩
                  intro a W hW hb hd K hK
                  have b30 : a.tmps[30]?.getD undef = _ := hd ⟨18, .data⟩ (by simp) rfl
                  have q1 : W.cell? (ad.add (j * 33)) = some (.string y.p) := HY.out W hW
                  go_simp
                  exact hK _ _ (World.grownBy.refl _ _) rfl
                · refine Or.inl ⟨fun v w h => h, ?_⟩
                  intro a W hW hb hd K hK
                  have b4 := hb 4 rfl
                  go_simp
                  exact hK _ _ (World.grownBy.refl _ _) rfl
                · refine Or.inl ⟨fun v w h => h, ?_⟩
                  intro a W hW hb hd K hK
                  have b32 : a.tmps[32]?.getD undef = _ := hd ⟨20, .data⟩ (by simp) rfl
                  have q1 : W.cell? ⟨gx, 0, none⟩ = some (.string x.p) := Cells.cell (hW.at_ 0 rfl) (i := 0) (by simp [entC])
                  go_simp
                  exact hK _ _ (World.grownBy.refl _ _) rfl
                · refine Or.inl ⟨fun v w h => h, ?_⟩
                  intro a W hW hb hd K hK
                  have b31 : a.tmps[31]?.getD undef = _ := hd ⟨19, .data⟩ (by simp) rfl
                  have b33 : a.tmps[33]?.getD undef = _ := hd ⟨21, .data⟩ (by simp) rfl
                  go_simp
                  exact hK _ _ (World.grownBy.refl _ _) rfl
                · refine Or.inl ⟨fun v w h => h, ?_⟩
                  intro a W hW hb hd K hK
                  have b25 : a.tmps[25]?.getD undef = _ := hd ⟨13, .data⟩ (by simp) rfl
                  have b34 : a.tmps[34]?.getD undef = _ := hd ⟨22, .data⟩ (by simp) rfl
                  go_simp
                  exact hK _ _ (World.grownBy.refl _ _) rfl
              case fin =>
                intro vs W hW hv
                have e10 : vs 10 = _ := hv 10 (by decide)
                have e23 : vs 23 = _ := hv 23 (by decide)
                clear hv
                simp only [putAll, List.drop_succ_cons, List.drop_zero, e10, e23, Act.put, List.setIfInBounds_toArray, List.set_cons_succ, List.set_cons_zero]
                clear e10 e23
                go_wp2_with fail
                go_ret
                exact ⟨ret_bool (by rw [HF.out]), (hW.at_ 2 rfl).1⟩
            | true =>
              have HF : Hid (okAt Ent.p goodE l k = true) := Lib.hid (HO2.out _ hb)
              refine wp_region_hopsH 24 (12 :: 13 :: 14 :: 15 :: 16 :: 17 :: 18 :: 19 :: 20 :: 21 :: 22 :: 23 :: 24 :: 25 :: 26 :: 27 :: 28 :: 29 :: 30 :: 31 :: 32 :: 33 :: 34 :: 35 :: []) _
                (.eq (.pointer (some ⟨gx, 0, none⟩)) :: .eq (.string x.p) :: .eq (.bool true) :: .eq (.bool false) :: .eq (.bool false) :: .eq (.pointer (some ⟨gx, 1, none⟩)) :: .eq (.agg (x.d.map bv).toArray) :: .eq (.agg (z32.map bv).toArray) :: .eq (.bool false) :: .eq (.bool false) :: .eq (.bool false) :: .eq (.int .i64 k) :: .eq (.bool true) :: .eq (.bool true) :: .eq (.slice (some ad) n c) :: .eq (.int .i64 k) :: .eq (.int .i64 j) :: .eq (.pointer (some (ad.add (j * 33)))) :: .eq (.pointer (some (ad.add (j * 33)))) :: .eq (.string y.p) :: .eq (.pointer (some ⟨gx, 0, none⟩)) :: .eq (.string x.p) :: .eq (.bool false) :: .eq (.bool false) :: [])
                (by kernel_rfl) (by kernel_rfl) hW2 rfl ?hops ?fin
              case hops =>
                refine ⟨?_, ?_, ?_, ?_, ?_, ?_, ?_, ?_, ?_, ?_, ?_, ?_, ?_, ?_, ?_, ?_, ?_, ?_, ?_, ?_, ?_, ?_, ?_, ?_, trivial⟩
                · intro a W hW hb hd K hK
                  have b4 := hb 4 rfl
                  go_simp
                  exact hK _ _ (World.grownBy.refl _ _) rfl
                · intro a W hW hb hd K hK
                  have b12 : a.tmps[12]?.getD undef = _ := hd ⟨0, .data⟩ (by simp) rfl
                  have q1 : W.cell? ⟨gx, 0, none⟩ = some (.string x.p) := Cells.cell (hW.at_ 0 rfl) (i := 0) (by simp [entC])
                  go_simp
                  exact hK _ _ (World.grownBy.refl _ _) rfl
                · intro a W hW hb hd K hK
                  have b13 : a.tmps[13]?.getD undef = _ := hd ⟨1, .data⟩ (by simp) rfl
                  go_simp
                  refine (Path_any x.p W hx.out.2).mono ?_
                  rintro e w' ⟨rfl, hb'⟩
                  exact hK _ _ (grown_of_below hb') (congrArg Value.bool HP.out)
                · intro a W hW hb hd K hK
                  have b14 : a.tmps[14]?.getD undef = _ := hd ⟨2, .data⟩ (by simp) rfl
                  go_simp
                  exact hK _ _ (World.grownBy.refl _ _) rfl
                · intro a W hW hb hd K hK
                  have b15 : a.tmps[15]?.getD undef = _ := hd ⟨3, .data⟩ (by simp) rfl
                  go_simp
                  exact hK _ _ (World.grownBy.refl _ _) rfl
                · refine Or.inl ⟨fun v w h => h, ?_⟩
                  intro a W hW hb hd K hK
                  have b4 := hb 4 rfl
                  go_simp
                  exact hK _ _ (World.grownBy.refl _ _) rfl
                · refine Or.inl ⟨fun v w h => h, ?_⟩
                  intro a W hW hb hd K hK
                  have b17 : a.tmps[17]?.getD undef = _ := hd ⟨5, .data⟩ (by simp) rfl
                  refine wp_load_any 40 (.tmp 17) rfl ⟨gx, 1, none⟩ (by simp [Act.eval, b17]) (x.d.map bv) _ (Cells.sub (hW.at_ 0 rfl) 1 (ent_sub x)) Tryd.underlying40 rfl (by rw [List.length_map, hx.out.1]; kernel_rfl) ?_
                  exact hK _ _ (World.grownBy.refl _ _) rfl
                · refine Or.inl ⟨fun v w h => h, ?_⟩
                  intro a W hW hb hd K hK
                  go_simp
                  exact hK _ _ (World.grownBy.refl _ _) rfl
                · refine Or.inl ⟨fun v w h => h, ?_⟩
                  intro a W hW hb hd K hK
                  have b18 : a.tmps[18]?.getD undef = _ := hd ⟨6, .data⟩ (by simp) rfl
                  have b19 : a.tmps[19]?.getD undef = _ := hd ⟨7, .data⟩ (by simp) rfl
                  have q1 := eq_dg W x.d z32 hx.out.1 rfl
                  rw [HZ.out] at q1
                  refine wp_eql (.tmp 18) (.tmp 19) rfl _ (by rw [show a.eval (.tmp 18) = _ from by simp only [Act.eval, Array.getD_eq_getD_getElem?]; exact b18, show a.eval (.tmp 19) = _ from by simp only [Act.eval, Array.getD_eq_getD_getElem?]; exact b19]; exact q1) (by go_simp) ?_
                  exact hK _ _ (World.grownBy.refl _ _) rfl
                · intro a W hW hb hd K hK
                  have b16 : a.tmps[16]?.getD undef = _ := hd ⟨4, .data⟩ (by simp) rfl
                  have b20 : a.tmps[20]?.getD undef = _ := hd ⟨8, .data⟩ (by simp) rfl
                  go_simp
                  exact hK _ _ (World.grownBy.refl _ _) rfl
                · intro a W hW hb hd K hK
                  have b21 : a.tmps[21]?.getD undef = _ := hd ⟨9, .data⟩ (by simp) rfl
                  go_simp
                  exact hK _ _ (World.grownBy.refl _ _) rfl
                · refine Or.inl ⟨fun v w h => h, ?_⟩
                  intro a W hW hb hd K hK
                  have b3 := hb 3 rfl
                  go_simp
                  exact hK _ _ (World.grownBy.refl _ _) rfl
                · refine Or.inl ⟨fun v w h => h, ?_⟩
                  intro a W hW hb hd K hK
                  have b23 : a.tmps[23]?.getD undef = _ := hd ⟨11, .data⟩ (by simp) rfl
                  go_simp
                  exact hK _ _ (World.grownBy.refl _ _) rfl
                · refine Or.inl ⟨fun v w h => h, ?_⟩
                  intro a W hW hb hd K hK
                  have b24 : a.tmps[24]?.getD undef = _ := hd ⟨12, .data⟩ (by simp) rfl
                  go_simp
                  exact hK _ _ (World.grownBy.refl _ _) rfl
                · refine Or.inl ⟨fun v w h => h, ?_⟩
                  intro a W hW hb hd K hK
                  have b0 := hb 0 rfl
                  go_simp
                  exact hK _ _ (World.grownBy.refl _ _) rfl
                · refine Or.inl ⟨fun v w h => h, ?_⟩
                  intro a W hW hb hd K hK
                  have b3 := hb 3 rfl
                  go_simp
                  exact hK _ _ (World.grownBy.refl _ _) rfl
                · refine Or.inl ⟨fun v w h => h, ?_⟩
                  intro a W hW hb hd K hK
                  have b27 : a.tmps[27]?.getD undef = _ := hd ⟨15, .data⟩ (by simp) rfl
                  go_simp
                  exact hK _ _ (World.grownBy.refl _ _) rfl
                · refine Or.inl ⟨fun v w h => h, ?_⟩
                  intro a W hW hb hd K hK
                  have b26 : a.tmps[26]?.getD undef = _ := hd ⟨14, .data⟩ (by simp) rfl
                  have b28 : a.tmps[28]?.getD undef = _ := hd ⟨16, .data⟩ (by simp) rfl
                  go_simp
                  exact hK _ _ (World.grownBy.refl _ _) rfl
                · refine Or.inl ⟨fun v w h => h, ?_⟩
                  intro a W hW hb hd K hK
                  have b29 : a.tmps[29]?.getD undef = _ := hd ⟨17, .data⟩ (by simp) rfl
                  go_simp
                  exact hK _ _ (World.grownBy.refl _ _) (by first | rfl | (rw [add_zero]; rfl) | (simp [add_zero]; rfl))
                · refine Or.inl ⟨fun v w h => h, ?_⟩
                  intro a W hW hb hd K hK
                  have b30 : a.tmps[30]?.getD undef = _ := hd ⟨18, .data⟩ (by simp) rfl
                  have q1 : W.cell? (ad.add (j * 33)) = some (.string y.p) := HY.out W hW
                  go_simp
                  exact hK _ _ (World.grownBy.refl _ _) rfl
                · refine Or.inl ⟨fun v w h => h, ?_⟩
                  intro a W hW hb hd K hK
                  have b4 := hb 4 rfl
                  go_simp
                  exact hK _ _ (World.grownBy.refl _ _) rfl
                · refine Or.inl ⟨fun v w h => h, ?_⟩
                  intro a W hW hb hd K hK
                  have b32 : a.tmps[32]?.getD undef = _ := hd ⟨20, .data⟩ (by simp) rfl
                  have q1 : W.cell? ⟨gx, 0, none⟩ = some (.string x.p) := Cells.cell (hW.at_ 0 rfl) (i := 0) (by simp [entC])
                  go_simp
                  exact hK _ _ (World.grownBy.refl _ _) rfl
                · refine Or.inl ⟨fun v w h => h, ?_⟩
                  intro a W hW hb hd K hK
                  have b31 : a.tmps[31]?.getD undef = _ := hd ⟨19, .data⟩ (by simp) rfl
                  have b33 : a.tmps[33]?.getD undef = _ := hd ⟨21, .data⟩ (by simp) rfl
                  go_simp
                  exact hK _ _ (World.grownBy.refl _ _) rfl
                · refine Or.inl ⟨fun v w h => h, ?_⟩
                  intro a W hW hb hd K hK
                  have b25 : a.tmps[25]?.getD undef = _ := hd ⟨13, .data⟩ (by simp) rfl
                  have b34 : a.tmps[34]?.getD undef = _ := hd ⟨22, .data⟩ (by simp) rfl
                  go_simp
                  exact hK _ _ (World.grownBy.refl _ _) rfl
              case fin =>
                intro vs W hW hv
                have e10 : vs 10 = _ := hv 10 (by decide)
                have e23 : vs 23 = _ := hv 23 (by decide)
                clear hv
                simp only [putAll, List.drop_succ_cons, List.drop_zero, e10, e23, Act.put, List.setIfInBounds_toArray, List.set_cons_succ, List.set_cons_zero]
                clear e10 e23
                go_wp2_with fail
                refine ⟨⟨k + 1, by omega, by go_num, fun i hi => ?_, hW.2⟩, by simp [intOf]; omega⟩
                by_cases hik : i = k
                · rw [hik]; exact HF.out
                · exact HA.out i (by omega)
    · obtain rfl : k = n := by omega
      have d1 : decide ((k : Int) < (k : Int)) = false := by simp
      have hv : Hid (validB l = decide (k ≤ 64)) := Lib.hid (by rw [validB_all l (by rw [HN.out]; exact HA.out), HN.out])
      go_wp2
      go_ret
      refine ⟨ret_bool (by rw [hv.out]; simp only [decide_eq_decide]; omega), (hI.at_ 1 rfl).1⟩

set_option maxRecDepth 100000 in
set_option maxHeartbeats 3200000 in
theorem changes_any (w : World) (B : Nat) (A : Option Addr) (n c : Nat) (l : List C) (hl : Els w B 65 A n (l.map chgC)) (h32 : ∀ e ∈ l, C32 e) (hn : l.length = n) (hn2 : n ≤ 1000000) (hB : B ≤ w.heap.size) :
    Calls Tryd.prog 52 #[.slice A n c] w fun e w' => e = .returned (.bool (changesB l)) ∧ Below w.heap.size w w' := by
  have hR : All w [.low (.els B 65 A n (l.map chgC)), .kept w w.heap.size] := ⟨⟨hl, hB⟩, ⟨Below.refl _ _, Nat.le_refl _⟩, trivial⟩
  have HN := Lib.hid hn
  have H32 := Lib.hid h32
  clear hl h32 hn
  have hzr := zero_chg
  go_enter Tryd.func52, Tryd.ntmps52
  go_upto_region 1 with (fail)
  have hI0 := hR
  clear hR
  go_wp2
  go_loopw [7] (fun i wr => ∃ (k : Nat), k ≤ n ∧ i = .int .i64 k ∧ (∀ i < k, okAt Chg.p goodC l i = true) ∧ All wr [.low (.els B 65 A n (l.map chgC)), .kept w w.heap.size]) (fun i _ => n - (intOf i).toNat)
  case atStart => exact ⟨0, by omega, rfl, fun i hi => absurd hi (by omega), hI0⟩
  case round =>
    obtain ⟨k, hk, rfl, hA, hI⟩ := hrel
    have HA := Lib.hid hA
    clear hA hI0
    by_cases hlt : k < n
    · have hkl : k < l.length := by rw [HN.out]; exact hlt
      obtain ⟨ad, rfl, hadB, hc⟩ := Els.elem (hI.at_ 0 rfl : Els wr B 65 A n (l.map chgC) ∧ B ≤ wr.heap.size).1 hkl
      have HC := Lib.hid hc
      have hx := Lib.hid (H32.out _ (List.getElem_mem hkl))
      have HO : Hid (∀ v, okAt1 Chg.p goodC l k l[k] = v → okAt Chg.p goodC l k = v) := Lib.hid (fun v hv => by rw [okAt_at _ _ _ _ hkl]; exact hv)
      clear hc
      generalize l[k] = x at *
      have hsz : w.heap.size ≤ wr.heap.size := hI.size_kept 1 rfl
      obtain ⟨gx, hgx⟩ : ∃ gx, gx = wr.heap.size := ⟨_, rfl⟩
      have d1 : decide ((k : Int) < (n : Int)) = true := by simp; omega
      go_upto_region 4 with (first
        | (refine wl_load_any rfl 57 (.tmp 10) rfl (ad.add (k * 65)) rfl (chgC x) _ HC.out Tryd.underlying57 rfl (by rw [chgC_len hx.out]; kernel_rfl) ?_)
        | (refine wl_store_at (hI.new (l := chgZ) _ 57 hgx rfl) 0 rfl 57 (.tmp 4) (.tmp 11) rfl gx _ _ (chgC x) rfl (by rw [hgx]; rfl) rfl (by rw [chgC_len hx.out]; rfl) (by rw [chgC_len hx.out]; kernel_rfl) (chgC_one x) (by simp [Apart, Res.apart, Low.els] <;> omega) ?_; intro W2 hW2 hs2; clear hs2; simp only [List.set_cons_zero] at hW2))
      simp only [← hgx]
      have hgB : B ≤ gx := by omega
      clear hgx hI
      cases hp : pathB x.p with
      | false =>
        have HP := Lib.hid hp
        have HF : Hid (okAt Chg.p goodC l k = false) := Lib.hid (HO.out _ (okAt1_bad _ _ _ _ _ (by rw [goodC, hp]; rfl)))
        replace HF : Hid (changesB l = false) := Lib.hid (changesB_no l k hkl HF.out)
        clear hp
        refine wp_region_hopsH 25 (12 :: 13 :: 14 :: 15 :: 16 :: 17 :: 18 :: 19 :: 20 :: 21 :: 22 :: 23 :: 24 :: 25 :: 26 :: 27 :: 28 :: 29 :: 30 :: 31 :: 32 :: 33 :: 34 :: 35 :: 36 :: []) _
          (.eq (.pointer (some ⟨gx, 0, none⟩)) :: .eq (.string x.p) :: .eq (.bool false) :: .eq (.bool true) :: .eq (.bool true) :: .eq undef :: .eq undef :: .eq undef :: .eq undef :: .eq undef :: .eq (.bool true) :: .eq (.bool true) :: .eq undef :: .eq undef :: .eq undef :: .eq undef :: .eq undef :: .eq undef :: .eq undef :: .eq undef :: .eq undef :: .eq undef :: .eq undef :: .eq undef :: .eq undef :: [])
          (by kernel_rfl) (by kernel_rfl) hW2 rfl ?hops ?fin
        case hops =>
          refine ⟨?_, ?_, ?_, ?_, ?_, ?_, ?_, ?_, ?_, ?_, ?_, ?_, ?_, ?_, ?_, ?_, ?_, ?_, ?_, ?_, ?_, ?_, ?_, ?_, ?_, trivial⟩
          · intro a W hW hb hd K hK
            have b4 := hb 4 rfl
            go_simp
            exact hK _ _ (World.grownBy.refl _ _) rfl
          · intro a W hW hb hd K hK
            have b12 : a.tmps[12]?.getD undef = _ := hd ⟨0, .data⟩ (by simp) rfl
            have q1 : W.cell? ⟨gx, 0, none⟩ = some (.string x.p) := Cells.cell (hW.at_ 0 rfl) (i := 0) (by simp [chgC])
            go_simp
            exact hK _ _ (World.grownBy.refl _ _) rfl
          · intro a W hW hb hd K hK
            have b13 : a.tmps[13]?.getD undef = _ := hd ⟨1, .data⟩ (by simp) rfl
            go_simp
            refine (Path_any x.p W hx.out.2.2).mono ?_
            rintro e w' ⟨rfl, hb'⟩
            exact hK _ _ (grown_of_below hb') (congrArg Value.bool HP.out)
          · intro a W hW hb hd K hK
            have b14 : a.tmps[14]?.getD undef = _ := hd ⟨2, .data⟩ (by simp) rfl
            go_simp
            exact hK _ _ (World.grownBy.refl _ _) rfl
          · intro a W hW hb hd K hK
            have b15 : a.tmps[15]?.getD undef = _ := hd ⟨3, .data⟩ (by simp) rfl
            go_simp
            exact hK _ _ (World.grownBy.refl _ _) rfl
          · exact Or.inr ⟨fun v w h => by rw [show v = _ from h]; first | (intro h2; cases h2) | (simp [undef]), fun w => rfl⟩
          · exact Or.inr ⟨fun v w h => by rw [show v = _ from h]; first | (intro h2; cases h2) | (simp [undef]), fun w => rfl⟩
          · exact Or.inr ⟨fun v w h => by rw [show v = _ from h]; first | (intro h2; cases h2) | (simp [undef]), fun w => rfl⟩
          · exact Or.inr ⟨fun v w h => by rw [show v = _ from h]; first | (intro h2; cases h2) | (simp [undef]), fun w => rfl⟩
          · exact Or.inr ⟨fun v w h => by rw [show v = _ from h]; first | (intro h2; cases h2) | (simp [undef]), fun w => rfl⟩
          · intro a W hW hb hd K hK
            have b16 : a.tmps[16]?.getD undef = _ := hd ⟨4, .data⟩ (by simp) rfl
            have b21 : a.tmps[21]?.getD undef = _ := hd ⟨9, .data⟩ (by simp) rfl
            go_simp
            exact hK _ _ (World.grownBy.refl _ _) rfl
          · intro a W hW hb hd K hK
            have b22 : a.tmps[22]?.getD undef = _ := hd ⟨10, .data⟩ (by simp) rfl
            go_simp
            exact hK _ _ (World.grownBy.refl _ _) rfl
          · exact Or.inr ⟨fun v w h => by rw [show v = _ from h]; first | (intro h2; cases h2) | (simp [undef]), fun w => rfl⟩
          · exact Or.inr ⟨fun v w h => by rw [show v = _ from h]; first | (intro h2; cases h2) | (simp [undef]), fun w => rfl⟩
          · exact Or.inr ⟨fun v w h => by rw [show v = _ from h]; first | (intro h2; cases h2) | (simp [undef]), fun w => rfl⟩
          · exact Or.inr ⟨fun v w h => by rw [show v = _ from h]; first | (intro h2; cases h2) | (simp [undef]), fun w => rfl⟩
          · exact Or.inr ⟨fun v w h => by rw [show v = _ from h]; first | (intro h2; cases h2) | (simp [undef]), fun w => rfl⟩
          · exact Or.inr ⟨fun v w h => by rw [show v = _ from h]; first | (intro h2; cases h2) | (simp [undef]), fun w => rfl⟩
          · exact Or.inr ⟨fun v w h => by rw [show v = _ from h]; first | (intro h2; cases h2) | (simp [undef]), fun w => rfl⟩
          · exact Or.inr ⟨fun v w h => by rw [show v = _ from h]; first | (intro h2; cases h2) | (simp [undef]), fun w => rfl⟩
          · exact Or.inr ⟨fun v w h => by rw [show v = _ from h]; first | (intro h2; cases h2) | (simp [undef]), fun w => rfl⟩
          · exact Or.inr ⟨fun v w h => by rw [show v = _ from h]; first | (intro h2; cases h2) | (simp [undef]), fun w => rfl⟩
          · exact Or.inr ⟨fun v w h => by rw [show v = _ from h]; first | (intro h2; cases h2) | (simp [undef]), fun w => rfl⟩
          · exact Or.inr ⟨fun v w h => by rw [show v = _ from h]; first | (intro h2; cases h2) | (simp [undef]), fun w => rfl⟩
          · exact Or.inr ⟨fun v w h => by rw [show v = _ from h]; first | (intro h2; cases h2) | (simp [undef]), fun w => rfl⟩
        case fin =>
          intro vs W hW hv
          have e11 : vs 11 = _ := hv 11 (by decide)
          have e24 : vs 24 = _ := hv 24 (by decide)
          clear hv
          simp only [putAll, List.drop_succ_cons, List.drop_zero, e11, e24, Act.put, List.setIfInBounds_toArray, List.set_cons_succ, List.set_cons_zero]
          clear e11 e24
          go_wp2_with fail
          go_ret
          exact ⟨ret_bool (by rw [HF.out]), (hW.at_ 2 rfl).1⟩
      | true =>
        have HP := Lib.hid hp
        cases hz : (decide (x.o = x.n)) with
        | true =>
          have HZ := Lib.hid hz
          have HF : Hid (okAt Chg.p goodC l k = false) := Lib.hid (HO.out _ (okAt1_bad _ _ _ _ _ (by rw [goodC, hz]; simp)))
          replace HF : Hid (changesB l = false) := Lib.hid (changesB_no l k hkl HF.out)
          clear hp hz
          refine wp_region_hopsH 25 (12 :: 13 :: 14 :: 15 :: 16 :: 17 :: 18 :: 19 :: 20 :: 21 :: 22 :: 23 :: 24 :: 25 :: 26 :: 27 :: 28 :: 29 :: 30 :: 31 :: 32 :: 33 :: 34 :: 35 :: 36 :: []) _
            (.eq (.pointer (some ⟨gx, 0, none⟩)) :: .eq (.string x.p) :: .eq (.bool true) :: .eq (.bool false) :: .eq (.bool false) :: .eq (.pointer (some ⟨gx, 1, none⟩)) :: .eq (.agg (x.o.map bv).toArray) :: .eq (.pointer (some ⟨gx, 33, none⟩)) :: .eq (.agg (x.n.map bv).toArray) :: .eq (.bool true) :: .eq (.bool true) :: .eq (.bool true) :: .eq undef :: .eq undef :: .eq undef :: .eq undef :: .eq undef :: .eq undef :: .eq undef :: .eq undef :: .eq undef :: .eq undef :: .eq undef :: .eq undef :: .eq undef :: [])
            (by kernel_rfl) (by kernel_rfl) hW2 rfl ?hops ?fin
          case hops =>
            refine ⟨?_, ?_, ?_, ?_, ?_, ?_, ?_, ?_, ?_, ?_, ?_, ?_, ?_, ?_, ?_, ?_, ?_, ?_, ?_, ?_, ?_, ?_, ?_, ?_, ?_, trivial⟩
            · intro a W hW hb hd K hK
              have b4 := hb 4 rfl
              go_simp
              exact hK _ _ (World.grownBy.refl _ _) rfl
            · intro a W hW hb hd K hK
              have b12 : a.tmps[12]?.getD undef = _ := hd ⟨0, .data⟩ (by simp) rfl
              have q1 : W.cell? ⟨gx, 0, none⟩ = some (.string x.p) := Cells.cell (hW.at_ 0 rfl) (i := 0) (by simp [chgC])
              go_simp
              exact hK _ _ (World.grownBy.refl _ _) rfl
            · intro a W hW hb hd K hK
              have b13 : a.tmps[13]?.getD undef = _ := hd ⟨1, .data⟩ (by simp) rfl
              go_simp
              refine (Path_any x.p W hx.out.2.2).mono ?_
              rintro e w' ⟨rfl, hb'⟩
              exact hK _ _ (grown_of_below hb') (congrArg Value.bool HP.out)
            · intro a W hW hb hd K hK
              have b14 : a.tmps[14]?.getD undef = _ := hd ⟨2, .data⟩ (by simp) rfl
              go_simp
              exact hK _ _ (World.grownBy.refl _ _) rfl
            · intro a W hW hb hd K hK
              have b15 : a.tmps[15]?.getD undef = _ := hd ⟨3, .data⟩ (by simp) rfl
              go_simp
              exact hK _ _ (World.grownBy.refl _ _) rfl
            · refine Or.inl ⟨fun v w h => h, ?_⟩
              intro a W hW hb hd K hK
              have b4 := hb 4 rfl
              go_simp
              exact hK _ _ (World.grownBy.refl _ _) rfl
            · refine Or.inl ⟨fun v w h => h, ?_⟩
              intro a W hW hb hd K hK
              have b17 : a.tmps[17]?.getD undef = _ := hd ⟨5, .data⟩ (by simp) rfl
              refine wp_load_any 40 (.tmp 17) rfl ⟨gx, 1, none⟩ (by simp [Act.eval, b17]) (x.o.map bv) _ (Cells.sub (hW.at_ 0 rfl) 1 (chg_sub1 hx.out)) Tryd.underlying40 rfl (by rw [List.length_map, hx.out.1]; kernel_rfl) ?_
              exact hK _ _ (World.grownBy.refl _ _) rfl
            · refine Or.inl ⟨fun v w h => h, ?_⟩
              intro a W hW hb hd K hK
              have b4 := hb 4 rfl
              go_simp
              exact hK _ _ (World.grownBy.refl _ _) rfl
            · refine Or.inl ⟨fun v w h => h, ?_⟩
              intro a W hW hb hd K hK
              have b19 : a.tmps[19]?.getD undef = _ := hd ⟨7, .data⟩ (by simp) rfl
              refine wp_load_any 40 (.tmp 19) rfl ⟨gx, 33, none⟩ (by simp [Act.eval, b19]) (x.n.map bv) _ (Cells.sub (hW.at_ 0 rfl) 33 (chg_sub2 hx.out)) Tryd.underlying40 rfl (by rw [List.length_map, hx.out.2.1]; kernel_rfl) ?_
              exact hK _ _ (World.grownBy.refl _ _) rfl
            · refine Or.inl ⟨fun v w h => h, ?_⟩
              intro a W hW hb hd K hK
              have b18 : a.tmps[18]?.getD undef = _ := hd ⟨6, .data⟩ (by simp) rfl
              have b20 : a.tmps[20]?.getD undef = _ := hd ⟨8, .data⟩ (by simp) rfl
              have q1 := eq_dg W x.o x.n hx.out.1 hx.out.2.1
              rw [HZ.out] at q1
              refine wp_eql (.tmp 18) (.tmp 20) rfl _ (by rw [show a.eval (.tmp 18) = _ from by simp only [Act.eval, Array.getD_eq_getD_getElem?]; exact b18, show a.eval (.tmp 20) = _ from by simp only [Act.eval, Array.getD_eq_getD_getElem?]; exact b20]; exact q1) (by go_simp) ?_
              exact hK _ _ (World.grownBy.refl _ _) rfl
            · intro a W hW hb hd K hK
              have b16 : a.tmps[16]?.getD undef = _ := hd ⟨4, .data⟩ (by simp) rfl
              have b21 : a.tmps[21]?.getD undef = _ := hd ⟨9, .data⟩ (by simp) rfl
              go_simp
              exact hK _ _ (World.grownBy.refl _ _) rfl
            · intro a W hW hb hd K hK
              have b22 : a.tmps[22]?.getD undef = _ := hd ⟨10, .data⟩ (by simp) rfl
              go_simp
              exact hK _ _ (World.grownBy.refl _ _) rfl
            · exact Or.inr ⟨fun v w h => by rw [show v = _ from h]; first | (intro h2; cases h2) | (simp [undef]), fun w => rfl⟩
            · exact Or.inr ⟨fun v w h => by rw [show v = _ from h]; first | (intro h2; cases h2) | (simp [undef]), fun w => rfl⟩
            · exact Or.inr ⟨fun v w h => by rw [show v = _ from h]; first | (intro h2; cases h2) | (simp [undef]), fun w => rfl⟩
            · exact Or.inr ⟨fun v w h => by rw [show v = _ from h]; first | (intro h2; cases h2) | (simp [undef]), fun w => rfl⟩
            · exact Or.inr ⟨fun v w h => by rw [show v = _ from h]; first | (intro h2; cases h2) | (simp [undef]), fun w => rfl⟩
            · exact Or.inr ⟨fun v w h => by rw [show v = _ from h]; first | (intro h2; cases h2) | (simp [undef]), fun w => rfl⟩
            · exact Or.inr ⟨fun v w h => by rw [show v = _ from h]; first | (intro h2; cases h2) | (simp [undef]), fun w => rfl⟩
            · exact Or.inr ⟨fun v w h => by rw [show v = _ from h]; first | (intro h2; cases h2) | (simp [undef]), fun w => rfl⟩
            · exact Or.inr ⟨fun v w h => by rw [show v = _ from h]; first | (intro h2; cases h2) | (simp [undef]), fun w => rfl⟩
            · exact Or.inr ⟨fun v w h => by rw [show v = _ from h]; first | (intro h2; cases h2) | (simp [undef]), fun w => rfl⟩
            · exact Or.inr ⟨fun v w h => by rw [show v = _ from h]; first | (intro h2; cases h2) | (simp [undef]), fun w => rfl⟩
            · exact Or.inr ⟨fun v w h => by rw [show v = _ from h]; first | (intro h2; cases h2) | (simp [undef]), fun w => rfl⟩
            · exact Or.inr ⟨fun v w h => by rw [show v = _ from h]; first | (intro h2; cases h2) | (simp [undef]), fun w => rfl⟩
          case fin =>
            intro vs W hW hv
            have e11 : vs 11 = _ := hv 11 (by decide)
            have e24 : vs 24 = _ := hv 24 (by decide)
            clear hv
            simp only [putAll, List.drop_succ_cons, List.drop_zero, e11, e24, Act.put, List.setIfInBounds_toArray, List.set_cons_succ, List.set_cons_zero]
            clear e11 e24
            go_wp2_with fail
            go_ret
            exact ⟨ret_bool (by rw [HF.out]), (hW.at_ 2 rfl).1⟩
        | false =>
          have HZ := Lib.hid hz
          have HG : Hid (goodC x = true) := Lib.hid (by rw [goodC, hp, hz]; rfl)
          clear hp hz
          by_cases hk0 : k = 0
          · have HF : Hid (okAt Chg.p goodC l k = true) := Lib.hid (HO.out _ (okAt1_zero _ _ _ _ _ HG.out hk0))
            have d2 : decide (0 < (k : Int)) = false := by simp; omega
            have d3 : decide (0 < k) = false := by simp; omega
            clear hk0
            refine wp_region_hopsH 25 (12 :: 13 :: 14 :: 15 :: 16 :: 17 :: 18 :: 19 :: 20 :: 21 :: 22 :: 23 :: 24 :: 25 :: 26 :: 27 :: 28 :: 29 :: 30 :: 31 :: 32 :: 33 :: 34 :: 35 :: 36 :: []) _
              (.eq (.pointer (some ⟨gx, 0, none⟩)) :: .eq (.string x.p) :: .eq (.bool true) :: .eq (.bool false) :: .eq (.bool false) :: .eq (.pointer (some ⟨gx, 1, none⟩)) :: .eq (.agg (x.o.map bv).toArray) :: .eq (.pointer (some ⟨gx, 33, none⟩)) :: .eq (.agg (x.n.map bv).toArray) :: .eq (.bool false) :: .eq (.bool false) :: .eq (.bool false) :: .eq (.int .i64 k) :: .eq (.bool false) :: .eq (.bool false) :: .eq undef :: .eq undef :: .eq undef :: .eq undef :: .eq undef :: .eq undef :: .eq undef :: .eq undef :: .eq undef :: .eq (.bool false) :: [])
              (by kernel_rfl) (by kernel_rfl) hW2 rfl ?hops ?fin
            case hops =>
              refine ⟨?_, ?_, ?_, ?_, ?_, ?_, ?_, ?_, ?_, ?_, ?_, ?_, ?_, ?_, ?_, ?_, ?_, ?_, ?_, ?_, ?_, ?_, ?_, ?_, ?_, trivial⟩
              · intro a W hW hb hd K hK
                have b4 := hb 4 rfl
                go_simp
                exact hK _ _ (World.grownBy.refl _ _) rfl
              · intro a W hW hb hd K hK
                have b12 : a.tmps[12]?.getD undef = _ := hd ⟨0, .data⟩ (by simp) rfl
                have q1 : W.cell? ⟨gx, 0, none⟩ = some (.string x.p) := Cells.cell (hW.at_ 0 rfl) (i := 0) (by simp [chgC])
                go_simp
                exact hK _ _ (World.grownBy.refl _ _) rfl
              · intro a W hW hb hd K hK
                have b13 : a.tmps[13]?.getD undef = _ := hd ⟨1, .data⟩ (by simp) rfl
                go_simp
                refine (Path_any x.p W hx.out.2.2).mono ?_
                rintro e w' ⟨rfl, hb'⟩
                exact hK _ _ (grown_of_below hb') (congrArg Value.bool HP.out)
              · intro a W hW hb hd K hK
                have b14 : a.tmps[14]?.getD undef = _ := hd ⟨2, .data⟩ (by simp) rfl
                go_simp
                exact hK _ _ (World.grownBy.refl _ _) rfl
              · intro a W hW hb hd K hK
                have b15 : a.tmps[15]?.getD undef = _ := hd ⟨3, .data⟩ (by simp) rfl
                go_simp
                exact hK _ _ (World.grownBy.refl _ _) rfl
              · refine Or.inl ⟨fun v w h => h, ?_⟩
                intro a W hW hb hd K hK
                have b4 := hb 4 rfl
                go_simp
                exact hK _ _ (World.grownBy.refl _ _) rfl
              · refine Or.inl ⟨fun v w h => h, ?_⟩
                intro a W hW hb hd K hK
                have b17 : a.tmps[17]?.getD undef = _ := hd ⟨5, .data⟩ (by simp) rfl
                refine wp_load_any 40 (.tmp 17) rfl ⟨gx, 1, none⟩ (by simp [Act.eval, b17]) (x.o.map bv) _ (Cells.sub (hW.at_ 0 rfl) 1 (chg_sub1 hx.out)) Tryd.underlying40 rfl (by rw [List.length_map, hx.out.1]; kernel_rfl) ?_
                exact hK _ _ (World.grownBy.refl _ _) rfl
              · refine Or.inl ⟨fun v w h => h, ?_⟩
                intro a W hW hb hd K hK
                have b4 := hb 4 rfl
                go_simp
                exact hK _ _ (World.grownBy.refl _ _) rfl
              · refine Or.inl ⟨fun v w h => h, ?_⟩
                intro a W hW hb hd K hK
                have b19 : a.tmps[19]?.getD undef = _ := hd ⟨7, .data⟩ (by simp) rfl
                refine wp_load_any 40 (.tmp 19) rfl ⟨gx, 33, none⟩ (by simp [Act.eval, b19]) (x.n.map bv) _ (Cells.sub (hW.at_ 0 rfl) 33 (chg_sub2 hx.out)) Tryd.underlying40 rfl (by rw [List.length_map, hx.out.2.1]; kernel_rfl) ?_
                exact hK _ _ (World.grownBy.refl _ _) rfl
              · refine Or.inl ⟨fun v w h => h, ?_⟩
                intro a W hW hb hd K hK
                have b18 : a.tmps[18]?.getD undef = _ := hd ⟨6, .data⟩ (by simp) rfl
                have b20 : a.tmps[20]?.getD undef = _ := hd ⟨8, .data⟩ (by simp) rfl
                have q1 := eq_dg W x.o x.n hx.out.1 hx.out.2.1
                rw [HZ.out] at q1
                refine wp_eql (.tmp 18) (.tmp 20) rfl _ (by rw [show a.eval (.tmp 18) = _ from by simp only [Act.eval, Array.getD_eq_getD_getElem?]; exact b18, show a.eval (.tmp 20) = _ from by simp only [Act.eval, Array.getD_eq_getD_getElem?]; exact b20]; exact q1) (by go_simp) ?_
                exact hK _ _ (World.grownBy.refl _ _) rfl
              · intro a W hW hb hd K hK
                have b16 : a.tmps[16]?.getD undef = _ := hd ⟨4, .data⟩ (by simp) rfl
                have b21 : a.tmps[21]?.getD undef = _ := hd ⟨9, .data⟩ (by simp) rfl
                go_simp
                exact hK _ _ (World.grownBy.refl _ _) rfl
              · intro a W hW hb hd K hK
                have b22 : a.tmps[22]?.getD undef = _ := hd ⟨10, .data⟩ (by simp) rfl
                go_simp
                exact hK _ _ (World.grownBy.refl _ _) rfl
              · refine Or.inl ⟨fun v w h => h, ?_⟩
                intro a W hW hb hd K hK
                have b3 := hb 3 rfl
                go_simp
                exact hK _ _ (World.grownBy.refl _ _) rfl
              · refine Or.inl ⟨fun v w h => h, ?_⟩
                intro a W hW hb hd K hK
                have b24 : a.tmps[24]?.getD undef = _ := hd ⟨12, .data⟩ (by simp) rfl
                go_simp
                exact hK _ _ (World.grownBy.refl _ _) rfl
              · refine Or.inl ⟨fun v w h => h, ?_⟩
                intro a W hW hb hd K hK
                have b25 : a.tmps[25]?.getD undef = _ := hd ⟨13, .data⟩ (by simp) rfl
                go_simp
                exact hK _ _ (World.grownBy.refl _ _) rfl
              · exact Or.inr ⟨fun v w h => by rw [show v = _ from h]; first | (intro h2; cases h2) | (simp [undef]), fun w => rfl⟩
              · exact Or.inr ⟨fun v w h => by rw [show v = _ from h]; first | (intro h2; cases h2) | (simp [undef]), fun w => rfl⟩
              · exact Or.inr ⟨fun v w h => by rw [show v = _ from h]; first | (intro h2; cases h2) | (simp [undef]), fun w => rfl⟩
              · exact Or.inr ⟨fun v w h => by rw [show v = _ from h]; first | (intro h2; cases h2) | (simp [undef]), fun w => rfl⟩
              · exact Or.inr ⟨fun v w h => by rw [show v = _ from h]; first | (intro h2; cases h2) | (simp [undef]), fun w => rfl⟩
              · exact Or.inr ⟨fun v w h => by rw [show v = _ from h]; first | (intro h2; cases h2) | (simp [undef]), fun w => rfl⟩
              · exact Or.inr ⟨fun v w h => by rw [show v = _ from h]; first | (intro h2; cases h2) | (simp [undef]), fun w => rfl⟩
              · exact Or.inr ⟨fun v w h => by rw [show v = _ from h]; first | (intro h2; cases h2) | (simp [undef]), fun w => rfl⟩
              · exact Or.inr ⟨fun v w h => by rw [show v = _ from h]; first | (intro h2; cases h2) | (simp [undef]), fun w => rfl⟩
              · refine Or.inl ⟨fun v w h => h, ?_⟩
                intro a W hW hb hd K hK
                have b26 : a.tmps[26]?.getD undef = _ := hd ⟨14, .data⟩ (by simp) rfl
                have b35 : a.tmps[35]?.getD undef = _ := hd ⟨23, .data⟩ (by simp) rfl
                go_simp
                exact hK _ _ (World.grownBy.refl _ _) rfl
            case fin =>
              intro vs W hW hv
              have e11 : vs 11 = _ := hv 11 (by decide)
              have e24 : vs 24 = _ := hv 24 (by decide)
              clear hv
              simp only [putAll, List.drop_succ_cons, List.drop_zero, e11, e24, Act.put, List.setIfInBounds_toArray, List.set_cons_succ, List.set_cons_zero]
              clear e11 e24
              go_wp2_with fail
              refine ⟨⟨k + 1, by omega, by go_num, fun i hi => ?_, hW.2⟩, by simp [intOf]; omega⟩
              by_cases hik : i = k
              · rw [hik]; exact HF.out
              · exact HA.out i (by omega)
          · obtain ⟨j, hj⟩ : ∃ j, k = j + 1 := ⟨k - 1, by omega⟩
            have hjl : j < l.length := by omega
            have HJ : Hid (∀ W, All W [.cells gx 57 (chgC x), .low (.els B 65 (some ad) n (l.map chgC)), .kept w w.heap.size] → W.cell? (ad.add (j * 65)) = some (.string l[j].p)) := Lib.hid (fun W hW => by
              obtain ⟨ad', e, _, hc⟩ := Els.elem (hW.at_ 1 rfl : Els W B 65 (some ad) n (l.map chgC) ∧ B ≤ W.heap.size).1 hjl
              obtain rfl := Option.some.inj e
              have := hc 0 (sv l[j].p) rfl
              rwa [add_zero] at this)
            have HO2 : Hid (∀ v, blt l[j].p x.p = v → okAt Chg.p goodC l k = v) := Lib.hid (fun v hv => HO.out _ (okAt1_succ _ _ _ _ _ _ HG.out hj hjl hv))
            generalize l[j] = y at *
            have HY := HJ
            have d2 : decide (0 < (k : Int)) = true := by simp; omega
            have d3 : decide (0 < k) = true := by simp; omega
            have w1 : IntKind.i64.wrap ((k : Int) - 1) = (j : Int) := by rw [IntWalk.i64_in _ (by omega)]; omega
            have wj1 : (0 : Int) ≤ (j : Int) := by omega
            have wj2 : (j : Int) < (n : Int) := by omega
            have wj3 : ((j : Int)).toNat = j := by omega
            have HK := Lib.hid hj
            clear hj
            cases hb : Op.bytesLess y.p.toList x.p.toList with
            | false =>
              have HF : Hid (okAt Chg.p goodC l k = false) := Lib.hid (HO2.out _ hb)
              replace HF : Hid (changesB l = false) := Lib.hid (changesB_no l k hkl HF.out)
              refine wp_region_hopsH 25 (12 :: 13 :: 14 :: 15 :: 16 :: 17 :: 18 :: 19 :: 20 :: 21 :: 22 :: 23 :: 24 :: 25 :: 26 :: 27 :: 28 :: 29 :: 30 :: 31 :: 32 :: 33 :: 34 :: 35 :: 36 :: []) _
                (.eq (.pointer (some ⟨gx, 0, none⟩)) :: .eq (.string x.p) :: .eq (.bool true) :: .eq (.bool false) :: .eq (.bool false) :: .eq (.pointer (some ⟨gx, 1, none⟩)) :: .eq (.agg (x.o.map bv).toArray) :: .eq (.pointer (some ⟨gx, 33, none⟩)) :: .eq (.agg (x.n.map bv).toArray) :: .eq (.bool false) :: .eq (.bool false) :: .eq (.bool false) :: .eq (.int .i64 k) :: .eq (.bool true) :: .eq (.bool true) :: .eq (.slice (some ad) n c) :: .eq (.int .i64 k) :: .eq (.int .i64 j) :: .eq (.pointer (some (ad.add (j * 65)))) :: .eq (.pointer (some (ad.add (j * 65)))) :: .eq (.string y.p) :: .eq (.pointer (some ⟨gx, 0, none⟩)) :: .eq (.string x.p) :: .eq (.bool true) :: .eq (.bool true) :: [])
                (by kernel_rfl) (by kernel_rfl) hW2 rfl ?hops ?fin
              case hops =>
                refine ⟨?_, ?_, ?_, ?_, ?_, ?_, ?_, ?_, ?_, ?_, ?_, ?_, ?_, ?_, ?_, ?_, ?_, ?_, ?_, ?_, ?_, ?_, ?_, ?_, ?_, trivial⟩
                · intro a W hW hb hd K hK
                  have b4 := hb 4 rfl
                  go_simp
                  exact hK _ _ (World.grownBy.refl _ _) rfl
                · intro a W hW hb hd K hK
                  have b12 : a.tmps[12]?.getD undef = _ := hd ⟨0, .data⟩ (by simp) rfl
                  have q1 : W.cell? ⟨gx, 0, none⟩ = some (.string x.p) := Cells.cell (hW.at_ 0 rfl) (i := 0) (by simp [chgC])
                  go_simp
                  exact hK _ _ (World.grownBy.refl _ _) rfl
                · intro a W hW hb hd K hK
                  have b13 : a.tmps[13]?.getD undef = _ := hd ⟨1, .data⟩ (by simp) rfl
                  go_simp
                  refine (Path_any x.p W hx.out.2.2).mono ?_
                  rintro e w' ⟨rfl, hb'⟩
                  exact hK _ _ (grown_of_below hb') (congrArg Value.bool HP.out)
                · intro a W hW hb hd K hK
                  have b14 : a.tmps[14]?.getD undef = _ := hd ⟨2, .data⟩ (by simp) rfl
                  go_simp
                  exact hK _ _ (World.grownBy.refl _ _) rfl
                · intro a W hW hb hd K hK
                  have b15 : a.tmps[15]?.getD undef = _ := hd ⟨3, .data⟩ (by simp) rfl
                  go_simp
                  exact hK _ _ (World.grownBy.refl _ _) rfl
                · refine Or.inl ⟨fun v w h => h, ?_⟩
                  intro a W hW hb hd K hK
                  have b4 := hb 4 rfl
                  go_simp
                  exact hK _ _ (World.grownBy.refl _ _) rfl
                · refine Or.inl ⟨fun v w h => h, ?_⟩
                  intro a W hW hb hd K hK
                  have b17 : a.tmps[17]?.getD undef = _ := hd ⟨5, .data⟩ (by simp) rfl
                  refine wp_load_any 40 (.tmp 17) rfl ⟨gx, 1, none⟩ (by simp [Act.eval, b17]) (x.o.map bv) _ (Cells.sub (hW.at_ 0 rfl) 1 (chg_sub1 hx.out)) Tryd.underlying40 rfl (by rw [List.length_map, hx.out.1]; kernel_rfl) ?_
                  exact hK _ _ (World.grownBy.refl _ _) rfl
                · refine Or.inl ⟨fun v w h => h, ?_⟩
                  intro a W hW hb hd K hK
                  have b4 := hb 4 rfl
                  go_simp
                  exact hK _ _ (World.grownBy.refl _ _) rfl
                · refine Or.inl ⟨fun v w h => h, ?_⟩
                  intro a W hW hb hd K hK
                  have b19 : a.tmps[19]?.getD undef = _ := hd ⟨7, .data⟩ (by simp) rfl
                  refine wp_load_any 40 (.tmp 19) rfl ⟨gx, 33, none⟩ (by simp [Act.eval, b19]) (x.n.map bv) _ (Cells.sub (hW.at_ 0 rfl) 33 (chg_sub2 hx.out)) Tryd.underlying40 rfl (by rw [List.length_map, hx.out.2.1]; kernel_rfl) ?_
                  exact hK _ _ (World.grownBy.refl _ _) rfl
                · refine Or.inl ⟨fun v w h => h, ?_⟩
                  intro a W hW hb hd K hK
                  have b18 : a.tmps[18]?.getD undef = _ := hd ⟨6, .data⟩ (by simp) rfl
                  have b20 : a.tmps[20]?.getD undef = _ := hd ⟨8, .data⟩ (by simp) rfl
                  have q1 := eq_dg W x.o x.n hx.out.1 hx.out.2.1
                  rw [HZ.out] at q1
                  refine wp_eql (.tmp 18) (.tmp 20) rfl _ (by rw [show a.eval (.tmp 18) = _ from by simp only [Act.eval, Array.getD_eq_getD_getElem?]; exact b18, show a.eval (.tmp 20) = _ from by simp only [Act.eval, Array.getD_eq_getD_getElem?]; exact b20]; exact q1) (by go_simp) ?_
                  exact hK _ _ (World.grownBy.refl _ _) rfl
                · intro a W hW hb hd K hK
                  have b16 : a.tmps[16]?.getD undef = _ := hd ⟨4, .data⟩ (by simp) rfl
                  have b21 : a.tmps[21]?.getD undef = _ := hd ⟨9, .data⟩ (by simp) rfl
                  go_simp
                  exact hK _ _ (World.grownBy.refl _ _) rfl
                · intro a W hW hb hd K hK
                  have b22 : a.tmps[22]?.getD undef = _ := hd ⟨10, .data⟩ (by simp) rfl
                  go_simp
                  exact hK _ _ (World.grownBy.refl _ _) rfl
                · refine Or.inl ⟨fun v w h => h, ?_⟩
                  intro a W hW hb hd K hK
                  have b3 := hb 3 rfl
                  go_simp
                  exact hK _ _ (World.grownBy.refl _ _) rfl
                · refine Or.inl ⟨fun v w h => h, ?_⟩
                  intro a W hW hb hd K hK
                  have b24 : a.tmps[24]?.getD undef = _ := hd ⟨12, .data⟩ (by simp) rfl
                  go_simp
                  exact hK _ _ (World.grownBy.refl _ _) rfl
                · refine Or.inl ⟨fun v w h => h, ?_⟩
                  intro a W hW hb hd K hK
                  have b25 : a.tmps[25]?.getD undef = _ := hd ⟨13, .data⟩ (by simp) rfl
                  go_simp
                  exact hK _ _ (World.grownBy.refl _ _) rfl
                · refine Or.inl ⟨fun v w h => h, ?_⟩
                  intro a W hW hb hd K hK
                  have b0 := hb 0 rfl
                  go_simp
                  exact hK _ _ (World.grownBy.refl _ _) rfl
                · refine Or.inl ⟨fun v w h => h, ?_⟩
                  intro a W hW hb hd K hK
                  have b3 := hb 3 rfl
                  go_simp
                  exact hK _ _ (World.grownBy.refl _ _) rfl
                · refine Or.inl ⟨fun v w h => h, ?_⟩
                  intro a W hW hb hd K hK
                  have b28 : a.tmps[28]?.getD undef = _ := hd ⟨16, .data⟩ (by simp) rfl
                  go_simp
                  exact hK _ _ (World.grownBy.refl _ _) rfl
                · refine Or.inl ⟨fun v w h => h, ?_⟩
                  intro a W hW hb hd K hK
                  have b27 : a.tmps[27]?.getD undef = _ := hd ⟨15, .data⟩ (by simp) rfl
                  have b29 : a.tmps[29]?.getD undef = _ := hd ⟨17, .data⟩ (by simp) rfl
                  go_simp
                  exact hK _ _ (World.grownBy.refl _ _) rfl
                · refine Or.inl ⟨fun v w h => h, ?_⟩
                  intro a W hW hb hd K hK
                  have b30 : a.tmps[30]?.getD undef = _ := hd ⟨18, .data⟩ (by simp) rfl
                  go_simp
                  exact hK _ _ (World.grownBy.refl _ _) (by first | rfl | (rw [add_zero]; rfl) | (simp [add_zero]; rfl))
                · refine Or.inl ⟨fun v w h => h, ?_⟩
                  intro a W hW hb hd K hK
                  have b31 : a.tmps[31]?.getD undef = _ := hd ⟨19, .data⟩ (by simp) rfl
                  have q1 : W.cell? (ad.add (j * 65)) = some (.string y.p) := HY.out W hW
                  go_simp
                  exact hK _ _ (World.grownBy.refl _ _) rfl
                · refine Or.inl ⟨fun v w h => h, ?_⟩
                  intro a W hW hb hd K hK
                  have b4 := hb 4 rfl
                  go_simp
                  exact hK _ _ (World.grownBy.refl _ _) rfl
                · refine Or.inl ⟨fun v w h => h, ?_⟩
                  intro a W hW hb hd K hK
                  have b33 : a.tmps[33]?.getD undef = _ := hd ⟨21, .data⟩ (by simp) rfl
                  have q1 : W.cell? ⟨gx, 0, none⟩ = some (.string x.p) := Cells.cell (hW.at_ 0 rfl) (i := 0) (by simp [chgC])
                  go_simp
                  exact hK _ _ (World.grownBy.refl _ _) rfl
                · refine Or.inl ⟨fun v w h => h, ?_⟩
                  intro a W hW hb hd K hK
                  have b32 : a.tmps[32]?.getD undef = _ := hd ⟨20, .data⟩ (by simp) rfl
                  have b34 : a.tmps[34]?.getD undef = _ := hd ⟨22, .data⟩ (by simp) rfl
                  go_simp
                  exact hK _ _ (World.grownBy.refl _ _) rfl
                · refine Or.inl ⟨fun v w h => h, ?_⟩
                  intro a W hW hb hd K hK
                  have b26 : a.tmps[26]?.getD undef = _ := hd ⟨14, .data⟩ (by simp) rfl
                  have b35 : a.tmps[35]?.getD undef = _ := hd ⟨23, .data⟩ (by simp) rfl
                  go_simp
                  exact hK _ _ (World.grownBy.refl _ _) rfl
              case fin =>
                intro vs W hW hv
                have e11 : vs 11 = _ := hv 11 (by decide)
                have e24 : vs 24 = _ := hv 24 (by decide)
                clear hv
                simp only [putAll, List.drop_succ_cons, List.drop_zero, e11, e24, Act.put, List.setIfInBounds_toArray, List.set_cons_succ, List.set_cons_zero]
                clear e11 e24
                go_wp2_with fail
                go_ret
                exact ⟨ret_bool (by rw [HF.out]), (hW.at_ 2 rfl).1⟩
            | true =>
              have HF : Hid (okAt Chg.p goodC l k = true) := Lib.hid (HO2.out _ hb)
              refine wp_region_hopsH 25 (12 :: 13 :: 14 :: 15 :: 16 :: 17 :: 18 :: 19 :: 20 :: 21 :: 22 :: 23 :: 24 :: 25 :: 26 :: 27 :: 28 :: 29 :: 30 :: 31 :: 32 :: 33 :: 34 :: 35 :: 36 :: []) _
                (.eq (.pointer (some ⟨gx, 0, none⟩)) :: .eq (.string x.p) :: .eq (.bool true) :: .eq (.bool false) :: .eq (.bool false) :: .eq (.pointer (some ⟨gx, 1, none⟩)) :: .eq (.agg (x.o.map bv).toArray) :: .eq (.pointer (some ⟨gx, 33, none⟩)) :: .eq (.agg (x.n.map bv).toArray) :: .eq (.bool false) :: .eq (.bool false) :: .eq (.bool false) :: .eq (.int .i64 k) :: .eq (.bool true) :: .eq (.bool true) :: .eq (.slice (some ad) n c) :: .eq (.int .i64 k) :: .eq (.int .i64 j) :: .eq (.pointer (some (ad.add (j * 65)))) :: .eq (.pointer (some (ad.add (j * 65)))) :: .eq (.string y.p) :: .eq (.pointer (some ⟨gx, 0, none⟩)) :: .eq (.string x.p) :: .eq (.bool false) :: .eq (.bool false) :: [])
                (by kernel_rfl) (by kernel_rfl) hW2 rfl ?hops ?fin
              case hops =>
                refine ⟨?_, ?_, ?_, ?_, ?_, ?_, ?_, ?_, ?_, ?_, ?_, ?_, ?_, ?_, ?_, ?_, ?_, ?_, ?_, ?_, ?_, ?_, ?_, ?_, ?_, trivial⟩
                · intro a W hW hb hd K hK
                  have b4 := hb 4 rfl
                  go_simp
                  exact hK _ _ (World.grownBy.refl _ _) rfl
                · intro a W hW hb hd K hK
                  have b12 : a.tmps[12]?.getD undef = _ := hd ⟨0, .data⟩ (by simp) rfl
                  have q1 : W.cell? ⟨gx, 0, none⟩ = some (.string x.p) := Cells.cell (hW.at_ 0 rfl) (i := 0) (by simp [chgC])
                  go_simp
                  exact hK _ _ (World.grownBy.refl _ _) rfl
                · intro a W hW hb hd K hK
                  have b13 : a.tmps[13]?.getD undef = _ := hd ⟨1, .data⟩ (by simp) rfl
                  go_simp
                  refine (Path_any x.p W hx.out.2.2).mono ?_
                  rintro e w' ⟨rfl, hb'⟩
                  exact hK _ _ (grown_of_below hb') (congrArg Value.bool HP.out)
                · intro a W hW hb hd K hK
                  have b14 : a.tmps[14]?.getD undef = _ := hd ⟨2, .data⟩ (by simp) rfl
                  go_simp
                  exact hK _ _ (World.grownBy.refl _ _) rfl
                · intro a W hW hb hd K hK
                  have b15 : a.tmps[15]?.getD undef = _ := hd ⟨3, .data⟩ (by simp) rfl
                  go_simp
                  exact hK _ _ (World.grownBy.refl _ _) rfl
                · refine Or.inl ⟨fun v w h => h, ?_⟩
                  intro a W hW hb hd K hK
                  have b4 := hb 4 rfl
                  go_simp
                  exact hK _ _ (World.grownBy.refl _ _) rfl
                · refine Or.inl ⟨fun v w h => h, ?_⟩
                  intro a W hW hb hd K hK
                  have b17 : a.tmps[17]?.getD undef = _ := hd ⟨5, .data⟩ (by simp) rfl
                  refine wp_load_any 40 (.tmp 17) rfl ⟨gx, 1, none⟩ (by simp [Act.eval, b17]) (x.o.map bv) _ (Cells.sub (hW.at_ 0 rfl) 1 (chg_sub1 hx.out)) Tryd.underlying40 rfl (by rw [List.length_map, hx.out.1]; kernel_rfl) ?_
                  exact hK _ _ (World.grownBy.refl _ _) rfl
                · refine Or.inl ⟨fun v w h => h, ?_⟩
                  intro a W hW hb hd K hK
                  have b4 := hb 4 rfl
                  go_simp
                  exact hK _ _ (World.grownBy.refl _ _) rfl
                · refine Or.inl ⟨fun v w h => h, ?_⟩
                  intro a W hW hb hd K hK
                  have b19 : a.tmps[19]?.getD undef = _ := hd ⟨7, .data⟩ (by simp) rfl
                  refine wp_load_any 40 (.tmp 19) rfl ⟨gx, 33, none⟩ (by simp [Act.eval, b19]) (x.n.map bv) _ (Cells.sub (hW.at_ 0 rfl) 33 (chg_sub2 hx.out)) Tryd.underlying40 rfl (by rw [List.length_map, hx.out.2.1]; kernel_rfl) ?_
                  exact hK _ _ (World.grownBy.refl _ _) rfl
                · refine Or.inl ⟨fun v w h => h, ?_⟩
                  intro a W hW hb hd K hK
                  have b18 : a.tmps[18]?.getD undef = _ := hd ⟨6, .data⟩ (by simp) rfl
                  have b20 : a.tmps[20]?.getD undef = _ := hd ⟨8, .data⟩ (by simp) rfl
                  have q1 := eq_dg W x.o x.n hx.out.1 hx.out.2.1
                  rw [HZ.out] at q1
                  refine wp_eql (.tmp 18) (.tmp 20) rfl _ (by rw [show a.eval (.tmp 18) = _ from by simp only [Act.eval, Array.getD_eq_getD_getElem?]; exact b18, show a.eval (.tmp 20) = _ from by simp only [Act.eval, Array.getD_eq_getD_getElem?]; exact b20]; exact q1) (by go_simp) ?_
                  exact hK _ _ (World.grownBy.refl _ _) rfl
                · intro a W hW hb hd K hK
                  have b16 : a.tmps[16]?.getD undef = _ := hd ⟨4, .data⟩ (by simp) rfl
                  have b21 : a.tmps[21]?.getD undef = _ := hd ⟨9, .data⟩ (by simp) rfl
                  go_simp
                  exact hK _ _ (World.grownBy.refl _ _) rfl
                · intro a W hW hb hd K hK
                  have b22 : a.tmps[22]?.getD undef = _ := hd ⟨10, .data⟩ (by simp) rfl
                  go_simp
                  exact hK _ _ (World.grownBy.refl _ _) rfl
                · refine Or.inl ⟨fun v w h => h, ?_⟩
                  intro a W hW hb hd K hK
                  have b3 := hb 3 rfl
                  go_simp
                  exact hK _ _ (World.grownBy.refl _ _) rfl
                · refine Or.inl ⟨fun v w h => h, ?_⟩
                  intro a W hW hb hd K hK
                  have b24 : a.tmps[24]?.getD undef = _ := hd ⟨12, .data⟩ (by simp) rfl
                  go_simp
                  exact hK _ _ (World.grownBy.refl _ _) rfl
                · refine Or.inl ⟨fun v w h => h, ?_⟩
                  intro a W hW hb hd K hK
                  have b25 : a.tmps[25]?.getD undef = _ := hd ⟨13, .data⟩ (by simp) rfl
                  go_simp
                  exact hK _ _ (World.grownBy.refl _ _) rfl
                · refine Or.inl ⟨fun v w h => h, ?_⟩
                  intro a W hW hb hd K hK
                  have b0 := hb 0 rfl
                  go_simp
                  exact hK _ _ (World.grownBy.refl _ _) rfl
                · refine Or.inl ⟨fun v w h => h, ?_⟩
                  intro a W hW hb hd K hK
                  have b3 := hb 3 rfl
                  go_simp
                  exact hK _ _ (World.grownBy.refl _ _) rfl
                · refine Or.inl ⟨fun v w h => h, ?_⟩
                  intro a W hW hb hd K hK
                  have b28 : a.tmps[28]?.getD undef = _ := hd ⟨16, .data⟩ (by simp) rfl
                  go_simp
                  exact hK _ _ (World.grownBy.refl _ _) rfl
                · refine Or.inl ⟨fun v w h => h, ?_⟩
                  intro a W hW hb hd K hK
                  have b27 : a.tmps[27]?.getD undef = _ := hd ⟨15, .data⟩ (by simp) rfl
                  have b29 : a.tmps[29]?.getD undef = _ := hd ⟨17, .data⟩ (by simp) rfl
                  go_simp
                  exact hK _ _ (World.grownBy.refl _ _) rfl
                · refine Or.inl ⟨fun v w h => h, ?_⟩
                  intro a W hW hb hd K hK
                  have b30 : a.tmps[30]?.getD undef = _ := hd ⟨18, .data⟩ (by simp) rfl
                  go_simp
                  exact hK _ _ (World.grownBy.refl _ _) (by first | rfl | (rw [add_zero]; rfl) | (simp [add_zero]; rfl))
                · refine Or.inl ⟨fun v w h => h, ?_⟩
                  intro a W hW hb hd K hK
                  have b31 : a.tmps[31]?.getD undef = _ := hd ⟨19, .data⟩ (by simp) rfl
                  have q1 : W.cell? (ad.add (j * 65)) = some (.string y.p) := HY.out W hW
                  go_simp
                  exact hK _ _ (World.grownBy.refl _ _) rfl
                · refine Or.inl ⟨fun v w h => h, ?_⟩
                  intro a W hW hb hd K hK
                  have b4 := hb 4 rfl
                  go_simp
                  exact hK _ _ (World.grownBy.refl _ _) rfl
                · refine Or.inl ⟨fun v w h => h, ?_⟩
                  intro a W hW hb hd K hK
                  have b33 : a.tmps[33]?.getD undef = _ := hd ⟨21, .data⟩ (by simp) rfl
                  have q1 : W.cell? ⟨gx, 0, none⟩ = some (.string x.p) := Cells.cell (hW.at_ 0 rfl) (i := 0) (by simp [chgC])
                  go_simp
                  exact hK _ _ (World.grownBy.refl _ _) rfl
                · refine Or.inl ⟨fun v w h => h, ?_⟩
                  intro a W hW hb hd K hK
                  have b32 : a.tmps[32]?.getD undef = _ := hd ⟨20, .data⟩ (by simp) rfl
                  have b34 : a.tmps[34]?.getD undef = _ := hd ⟨22, .data⟩ (by simp) rfl
                  go_simp
                  exact hK _ _ (World.grownBy.refl _ _) rfl
                · refine Or.inl ⟨fun v w h => h, ?_⟩
                  intro a W hW hb hd K hK
                  have b26 : a.tmps[26]?.getD undef = _ := hd ⟨14, .data⟩ (by simp) rfl
                  have b35 : a.tmps[35]?.getD undef = _ := hd ⟨23, .data⟩ (by simp) rfl
                  go_simp
                  exact hK _ _ (World.grownBy.refl _ _) rfl
              case fin =>
                intro vs W hW hv
                have e11 : vs 11 = _ := hv 11 (by decide)
                have e24 : vs 24 = _ := hv 24 (by decide)
                clear hv
                simp only [putAll, List.drop_succ_cons, List.drop_zero, e11, e24, Act.put, List.setIfInBounds_toArray, List.set_cons_succ, List.set_cons_zero]
                clear e11 e24
                go_wp2_with fail
                refine ⟨⟨k + 1, by omega, by go_num, fun i hi => ?_, hW.2⟩, by simp [intOf]; omega⟩
                by_cases hik : i = k
                · rw [hik]; exact HF.out
                · exact HA.out i (by omega)
    · obtain rfl : k = n := by omega
      have d1 : decide ((k : Int) < (k : Int)) = false := by simp
      have hv : Hid (changesB l = decide (k ≤ 128)) := Lib.hid (by rw [changesB_all l (by rw [HN.out]; exact HA.out), HN.out])
      go_wp2
      go_ret
      refine ⟨ret_bool (by rw [hv.out]; simp only [decide_eq_decide]; omega), (hI.at_ 1 rfl).1⟩
end Go.Proofs.YtipepcjiogifaaaDoor

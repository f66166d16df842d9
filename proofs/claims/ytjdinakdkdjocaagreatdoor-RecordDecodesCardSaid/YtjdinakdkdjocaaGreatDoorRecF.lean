/- The variables of a record: the program. Long words of a command: the program. -/
import Derived.Test.YtjdinakdkdjocaaGreatDoorFreA
import Derived.Test.YtjdinakdkdjocaaGreatDoorRecT
set_option linter.unusedSimpArgs false
set_option linter.unusedVariables false
set_option maxRecDepth 100000
namespace Go.AdR
open Go Go.RowKit Go.Adm
def blt (a b : ByteArray) : Bool := Op.bytesLess a.toList b.toList
section
variable {α : Type} (key : α → ByteArray) (good : α → Bool)
def vAt1 (l : List α) (k : Nat) (e : α) : Bool := good e && (match k with | 0 => true | j + 1 => match l[j]? with | none => true | some e' => blt (key e') (key e))
def vAt (l : List α) (k : Nat) : Bool := match l[k]? with | none => true | some e => vAt1 key good l k e
theorem vAt_at (l : List α) (k : Nat) (hk : k < l.length) : vAt key good l k = vAt1 key good l k l[k] := by
  unfold vAt
  rw [List.getElem?_eq_getElem hk]
theorem vAt1_bad (l : List α) (k : Nat) (e : α) (h : good e = false) : vAt1 key good l k e = false := by simp [vAt1, h]
theorem vAt1_zero (l : List α) (k : Nat) (e : α) (h : good e = true) (hk : k = 0) : vAt1 key good l k e = true := by subst hk; simp [vAt1, h]
theorem vAt1_succ (l : List α) (k j : Nat) (e : α) (h : good e = true) (hk : k = j + 1) (hj : j < l.length) {v : Bool} (hv : blt (key l[j]) (key e) = v) : vAt1 key good l k e = v := by
  subst hk
  simp [vAt1, h, hj, hv]
def vAll (m : Nat) (l : List α) : Bool := decide (l.length ≤ m) && (List.range l.length).all (vAt key good l)
theorem vAll_no (m : Nat) (l : List α) (k : Nat) (hk : k < l.length) (h : vAt key good l k = false) : vAll key good m l = false := by
  have : (List.range l.length).all (vAt key good l) = false := by
    rw [List.all_eq_false]
    exact ⟨k, List.mem_range.2 hk, by rw [h]; decide⟩
  rw [vAll, this, Bool.and_false]
theorem vAll_all (m : Nat) (l : List α) (h : ∀ i < l.length, vAt key good l i = true) : vAll key good m l = decide (l.length ≤ m) := by
  have : (List.range l.length).all (vAt key good l) = true := List.all_eq_true.2 fun i hi => h i (List.mem_range.1 hi)
  rw [vAll, this, Bool.and_true]
end
/-- a variable of a record -/
structure Var where
  n : ByteArray
  v : ByteArray
def varC (x : Var) : List Value := [.string x.n, .string x.v]
def varZ : List Value := [.string ByteArray.empty, .string ByteArray.empty]
def VarOk (x : Var) : Prop := x.n.size ≤ 140737488355328 ∧ x.v.size ≤ 140737488355328
theorem varC_one (x : Var) : ∀ v ∈ varC x, v.oneCell' = true := by
  intro v hv
  simp [varC] at hv
  rcases hv with rfl | rfl <;> rfl
end Go.AdR
namespace Go.Proofs.YtjdinakdkdjocaaGreatDoor
open Go Go.RowKit Go.Adm Go.AdR
theorem zero_var (w : World) : (zeroValue 49).run Tryz.prog w = .ok (.agg varZ.toArray) w := by kernel_rfl
noncomputable def goodV (x : Var) : Bool := nameB x.n && !decide ((200 : Int) < (x.v.size : Int))
noncomputable def varsB (l : List Var) : Bool := vAll Var.n goodV 16 l
set_option maxHeartbeats 3200000 in
theorem variables_any (w : World) (B : Nat) (A : Option Addr) (n c : Nat) (l : List Var) (hl : Els w B 2 A n (l.map varC)) (hv : ∀ e ∈ l, VarOk e) (hn : l.length = n) (hn2 : n ≤ 1000000) (hB : B ≤ w.heap.size) :
    Calls Tryz.prog 59 #[.slice A n c] w fun e w' => e = .returned (.bool (varsB l)) ∧ Below w.heap.size w w' := by
  have hR : All w [.low (.els B 2 A n (l.map varC)), .kept w w.heap.size] := ⟨⟨hl, hB⟩, ⟨Below.refl _ _, Nat.le_refl _⟩, trivial⟩
  have HN := Lib.hid hn
  have H32 := Lib.hid hv
  clear hl hv hn
  have hzr := zero_var
  go_enter Tryz.func59, Tryz.ntmps59
  go_upto_region 1 with (fail)
  have hI0 := hR
  clear hR
  go_wp2
  go_loopw [7] (fun i wr => ∃ (k : Nat), k ≤ n ∧ i = .int .i64 k ∧ (∀ i < k, vAt Var.n goodV l i = true) ∧ All wr [.low (.els B 2 A n (l.map varC)), .kept w w.heap.size]) (fun i _ => n - (intOf i).toNat)
  case atStart => exact ⟨0, by omega, rfl, fun i hi => absurd hi (by omega), hI0⟩
  case round =>
    obtain ⟨k, hk, rfl, hA, hI⟩ := hrel
    have HA := Lib.hid hA
    clear hA hI0
    by_cases hlt : k < n
    · have hkl : k < l.length := by rw [HN.out]; exact hlt
      obtain ⟨ad, hA', hadB, hc⟩ := Els.at_ (hI.at_ 0 rfl : Els wr B 2 A n (l.map varC) ∧ B ≤ wr.heap.size).1 (k := k) (by rw [List.length_map]; exact hkl)
      subst hA'
      rw [List.getElem_map] at hc
      have HC := Lib.hid hc
      have hx := Lib.hid (H32.out _ (List.getElem_mem hkl))
      have HO : Hid (∀ v, vAt1 Var.n goodV l k l[k] = v → vAt Var.n goodV l k = v) := Lib.hid (fun v hv => by rw [vAt_at _ _ _ _ hkl]; exact hv)
      have HNO : Hid (vAt Var.n goodV l k = false → varsB l = false) := Lib.hid (fun h => vAll_no _ _ _ l k hkl h)
      clear hc
      generalize l[k] = x at *
      have hsz : w.heap.size ≤ wr.heap.size := hI.size_kept 1 rfl
      obtain ⟨gx, hgx⟩ : ∃ gx, gx = wr.heap.size := ⟨_, rfl⟩
      have d1 : decide ((k : Int) < (n : Int)) = true := by simp; omega
      go_upto_region 4 with (first
        | (refine wl_load_any rfl 49 (.tmp 10) rfl (ad.add (k * 2)) rfl (varC x) _ HC.out Tryz.underlying49 rfl (by kernel_rfl) ?_)
        | (refine wl_store_at (hI.new (l := varZ) _ 49 hgx rfl) 0 rfl 49 (.tmp 4) (.tmp 11) rfl gx _ _ (varC x) rfl (by rw [hgx]; rfl) rfl rfl (by kernel_rfl) (varC_one x) (by simp [Apart, Res.apart, Low.els] <;> omega) ?_; intro W2 hW2 hs2; clear hs2; simp only [List.set_cons_zero] at hW2))
      simp only [← hgx]
      have hgB : B ≤ gx := by omega
      clear hgx hI
      cases hp : nameB x.n with
      | false =>
        have HP := Lib.hid hp
        have HF : Hid (varsB l = false) := Lib.hid (HNO.out (HO.out _ (vAt1_bad _ _ _ _ _ (by rw [goodV, hp]; rfl))))
        clear hp
        refine wp_region_hopsH 24 (12 :: 13 :: 14 :: 15 :: 16 :: 17 :: 18 :: 19 :: 20 :: 21 :: 22 :: 23 :: 24 :: 25 :: 26 :: 27 :: 28 :: 29 :: 30 :: 31 :: 32 :: 33 :: 34 :: 35 :: []) _
          (.eq (.pointer (some ⟨gx, 0, none⟩)) :: .eq (.string x.n) :: .eq (.bool false) :: .eq (.bool true) :: .eq (.bool true) :: .eq undef :: .eq undef :: .eq undef :: .eq undef :: .eq (.bool true) :: .eq (.bool true) :: .eq undef :: .eq undef :: .eq undef :: .eq undef :: .eq undef :: .eq undef :: .eq undef :: .eq undef :: .eq undef :: .eq undef :: .eq undef :: .eq undef :: .eq undef :: [])
          (by kernel_rfl) (by kernel_rfl) hW2 rfl ?hops ?fin
        case hops =>
          refine ⟨?_, ?_, ?_, ?_, ?_, ?_, ?_, ?_, ?_, ?_, ?_, ?_, ?_, ?_, ?_, ?_, ?_, ?_, ?_, ?_, ?_, ?_, ?_, ?_, trivial⟩
          · intro a W hW hb hd K hK
            have b4 := hb 4 rfl
            go_simp
            exact hK _ _ (World.grownBy.refl _ _) rfl
          · intro a W hW hb hd K hK
            have b12 : a.tmps[12]?.getD undef = _ := hd ⟨0, .data⟩ (by simp) rfl
            have q1 : W.cell? ⟨gx, 0, none⟩ = some (.string x.n) := Cells.cell (hW.at_ 0 rfl) (i := 0) (by simp [varC])
            go_simp
            exact hK _ _ (World.grownBy.refl _ _) rfl
          · intro a W hW hb hd K hK
            have b13 : a.tmps[13]?.getD undef = _ := hd ⟨1, .data⟩ (by simp) rfl
            go_simp
            refine (Name_any x.n W hx.out.1).mono ?_
            rintro e w' ⟨rfl, rfl⟩
            exact hK _ _ (World.grownBy.refl _ _) (congrArg Value.bool HP.out)
          · intro a W hW hb hd K hK
            have b14 : a.tmps[14]?.getD undef = _ := hd ⟨2, .data⟩ (by simp) rfl
            go_simp
            exact hK _ _ (World.grownBy.refl _ _) rfl
          · intro a W hW hb hd K hK
            have b15 : a.tmps[15]?.getD undef = _ := hd ⟨3, .data⟩ (by simp) rfl
            go_simp
            exact hK _ _ (World.grownBy.refl _ _) rfl
          · exact Or.inr ⟨fun v w h => by rw [show v = _ from h]; first | (intro h2; cases h2) | (simp [undef]), fun w => rfl⟩
          · exact Or.inr ⟨fun v w h => by rw [show v = _ from h]; first | (intro h2; cases h2) | (simp [undef]), fun w => rfl⟩
          · exact Or.inr ⟨fun v w h => by rw [show v = _ from h]; first | (intro h2; cases h2) | (simp [undef]), fun w => rfl⟩
          · exact Or.inr ⟨fun v w h => by rw [show v = _ from h]; first | (intro h2; cases h2) | (simp [undef]), fun w => rfl⟩
          · intro a W hW hb hd K hK
            have b16 : a.tmps[16]?.getD undef = _ := hd ⟨4, .data⟩ (by simp) rfl
            have b20 : a.tmps[20]?.getD undef = _ := hd ⟨8, .data⟩ (by simp) rfl
            go_simp
            exact hK _ _ (World.grownBy.refl _ _) rfl
          · intro a W hW hb hd K hK
            have b21 : a.tmps[21]?.getD undef = _ := hd ⟨9, .data⟩ (by simp) rfl
            go_simp
            exact hK _ _ (World.grownBy.refl _ _) rfl
          · exact Or.inr ⟨fun v w h => by rw [show v = _ from h]; first | (intro h2; cases h2) | (simp [undef]), fun w => rfl⟩
          · exact Or.inr ⟨fun v w h => by rw [show v = _ from h]; first | (intro h2; cases h2) | (simp [undef]), fun w => rfl⟩
          · exact Or.inr ⟨fun v w h => by rw [show v = _ from h]; first | (intro h2; cases h2) | (simp [undef]), fun w => rfl⟩
          · exact Or.inr ⟨fun v w h => by rw [show v = _ from h]; first | (intro h2; cases h2) | (simp [undef]), fun w => rfl⟩
          · exact Or.inr ⟨fun v w h => by rw [show v = _ from h]; first | (intro h2; cases h2) | (simp [undef]), fun w => rfl⟩
          · exact Or.inr ⟨fun v w h => by rw [show v = _ from h]; first | (intro h2; cases h2) | (simp [undef]), fun w => rfl⟩
          · exact Or.inr ⟨fun v w h => by rw [show v = _ from h]; first | (intro h2; cases h2) | (simp [undef]), fun w => rfl⟩
          · exact Or.inr ⟨fun v w h => by rw [show v = _ from h]; first | (intro h2; cases h2) | (simp [undef]), fun w => rfl⟩
          · exact Or.inr ⟨fun v w h => by rw [show v = _ from h]; first | (intro h2; cases h2) | (simp [undef]), fun w => rfl⟩
          · exact Or.inr ⟨fun v w h => by rw [show v = _ from h]; first | (intro h2; cases h2) | (simp [undef]), fun w => rfl⟩
          · exact Or.inr ⟨fun v w h => by rw [show v = _ from h]; first | (intro h2; cases h2) | (simp [undef]), fun w => rfl⟩
          · exact Or.inr ⟨fun v w h => by rw [show v = _ from h]; first | (intro h2; cases h2) | (simp [undef]), fun w => rfl⟩
          · exact Or.inr ⟨fun v w h => by rw [show v = _ from h]; first | (intro h2; cases h2) | (simp [undef]), fun w => rfl⟩
        case fin =>
          intro vs W hW hv
          have e10 : vs 10 = _ := hv 10 (by decide)
          have e23 : vs 23 = _ := hv 23 (by decide)
          clear hv
          simp only [putAll, List.drop_succ_cons, List.drop_zero, e10, e23, Act.put, List.setIfInBounds_toArray, List.set_cons_succ, List.set_cons_zero]
          clear e10 e23
          go_wp2_with fail
          go_ret
          exact ⟨ret_bool (by rw [HF.out]), (hW.at_ 2 rfl : _ ∧ _).1⟩
      | true =>
        have HP := Lib.hid hp
        cases hz : decide ((200 : Int) < (x.v.size : Int)) with
        | true =>
          have HZ := Lib.hid hz
          have HF : Hid (varsB l = false) := Lib.hid (HNO.out (HO.out _ (vAt1_bad _ _ _ _ _ (by rw [goodV, hz]; simp))))
          clear hp hz
          refine wp_region_hopsH 24 (12 :: 13 :: 14 :: 15 :: 16 :: 17 :: 18 :: 19 :: 20 :: 21 :: 22 :: 23 :: 24 :: 25 :: 26 :: 27 :: 28 :: 29 :: 30 :: 31 :: 32 :: 33 :: 34 :: 35 :: []) _
            (.eq (.pointer (some ⟨gx, 0, none⟩)) :: .eq (.string x.n) :: .eq (.bool true) :: .eq (.bool false) :: .eq (.bool false) :: .eq (.pointer (some ⟨gx, 1, none⟩)) :: .eq (.string x.v) :: .eq (.int .i64 (x.v.size : Int)) :: .eq (.bool true) :: .eq (.bool true) :: .eq (.bool true) :: .eq undef :: .eq undef :: .eq undef :: .eq undef :: .eq undef :: .eq undef :: .eq undef :: .eq undef :: .eq undef :: .eq undef :: .eq undef :: .eq undef :: .eq undef :: [])
            (by kernel_rfl) (by kernel_rfl) hW2 rfl ?hops ?fin
          case hops =>
            refine ⟨?_, ?_, ?_, ?_, ?_, ?_, ?_, ?_, ?_, ?_, ?_, ?_, ?_, ?_, ?_, ?_, ?_, ?_, ?_, ?_, ?_, ?_, ?_, ?_, trivial⟩
            · intro a W hW hb hd K hK
              have b4 := hb 4 rfl
              go_simp
              exact hK _ _ (World.grownBy.refl _ _) rfl
            · intro a W hW hb hd K hK
              have b12 : a.tmps[12]?.getD undef = _ := hd ⟨0, .data⟩ (by simp) rfl
              have q1 : W.cell? ⟨gx, 0, none⟩ = some (.string x.n) := Cells.cell (hW.at_ 0 rfl) (i := 0) (by simp [varC])
              go_simp
              exact hK _ _ (World.grownBy.refl _ _) rfl
            · intro a W hW hb hd K hK
              have b13 : a.tmps[13]?.getD undef = _ := hd ⟨1, .data⟩ (by simp) rfl
              go_simp
              refine (Name_any x.n W hx.out.1).mono ?_
              rintro e w' ⟨rfl, rfl⟩
              exact hK _ _ (World.grownBy.refl _ _) (congrArg Value.bool HP.out)
            · intro a W hW hb hd K hK
              have b14 : a.tmps[14]?.getD undef = _ := hd ⟨2, .data⟩ (by simp) rfl
              go_simp
              exact hK _ _ (World.grownBy.refl _ _) rfl
            · intro a W hW hb hd K hK
              have b15 : a.tmps[15]?.getD undef = _ := hd ⟨3, .data⟩ (by simp) rfl
              go_simp
              exact hK _ _ (World.grownBy.refl _ _) rfl
            · refine Or.inl ⟨fun v w h => h, ?_⟩
              intro a W hW hb hd K hK
              have b4 := hb 4 rfl
              go_simp
              exact hK _ _ (World.grownBy.refl _ _) rfl
            · refine Or.inl ⟨fun v w h => h, ?_⟩
              intro a W hW hb hd K hK
              have b17 : a.tmps[17]?.getD undef = _ := hd ⟨5, .data⟩ (by simp) rfl
              have q1 : W.cell? ⟨gx, 1, none⟩ = some (.string x.v) := Cells.cell (hW.at_ 0 rfl) (i := 1) (by simp [varC])
              go_simp
              exact hK _ _ (World.grownBy.refl _ _) rfl
            · refine Or.inl ⟨fun v w h => h, ?_⟩
              intro a W hW hb hd K hK
              have b18 : a.tmps[18]?.getD undef = _ := hd ⟨6, .data⟩ (by simp) rfl
              go_simp
              exact hK _ _ (World.grownBy.refl _ _) rfl
            · refine Or.inl ⟨fun v w h => h, ?_⟩
              intro a W hW hb hd K hK
              have b19 : a.tmps[19]?.getD undef = _ := hd ⟨7, .data⟩ (by simp) rfl
              have q1 := HZ.out
              go_simp
              exact hK _ _ (World.grownBy.refl _ _) rfl
            · intro a W hW hb hd K hK
              have b16 : a.tmps[16]?.getD undef = _ := hd ⟨4, .data⟩ (by simp) rfl
              have b20 : a.tmps[20]?.getD undef = _ := hd ⟨8, .data⟩ (by simp) rfl
              go_simp
              exact hK _ _ (World.grownBy.refl _ _) rfl
            · intro a W hW hb hd K hK
              have b21 : a.tmps[21]?.getD undef = _ := hd ⟨9, .data⟩ (by simp) rfl
              go_simp
              exact hK _ _ (World.grownBy.refl _ _) rfl
            · exact Or.inr ⟨fun v w h => by rw [show v = _ from h]; first | (intro h2; cases h2) | (simp [undef]), fun w => rfl⟩
            · exact Or.inr ⟨fun v w h => by rw [show v = _ from h]; first | (intro h2; cases h2) | (simp [undef]), fun w => rfl⟩
            · exact Or.inr ⟨fun v w h => by rw [show v = _ from h]; first | (intro h2; cases h2) | (simp [undef]), fun w => rfl⟩
            · exact Or.inr ⟨fun v w h => by rw [show v = _ from h]; first | (intro h2; cases h2) | (simp [undef]), fun w => rfl⟩
            · exact Or.inr ⟨fun v w h => by rw [show v = _ from h]; first | (intro h2; cases h2) | (simp [undef]), fun w => rfl⟩
            · exact Or.inr ⟨fun v w h => by rw [show v = _ from h]; first | (intro h2; cases h2) | (simp [undef]), fun w => rfl⟩
            · exact Or.inr ⟨fun v w h => by rw [show v = _ from h]; first | (intro h2; cases h2) | (simp [undef]), fun w => rfl⟩
            · exact Or.inr ⟨fun v w h => by rw [show v = _ from h]; first | (intro h2; cases h2) | (simp [undef]), fun w => rfl⟩
            · exact Or.inr ⟨fun v w h => by rw [show v = _ from h]; first | (intro h2; cases h2) | (simp [undef]), fun w => rfl⟩
            · exact Or.inr ⟨fun v w h => by rw [show v = _ from h]; first | (intro h2; cases h2) | (simp [undef]), fun w => rfl⟩
            · exact Or.inr ⟨fun v w h => by rw [show v = _ from h]; first | (intro h2; cases h2) | (simp [undef]), fun w => rfl⟩
            · exact Or.inr ⟨fun v w h => by rw [show v = _ from h]; first | (intro h2; cases h2) | (simp [undef]), fun w => rfl⟩
            · exact Or.inr ⟨fun v w h => by rw [show v = _ from h]; first | (intro h2; cases h2) | (simp [undef]), fun w => rfl⟩
          case fin =>
            intro vs W hW hv
            have e10 : vs 10 = _ := hv 10 (by decide)
            have e23 : vs 23 = _ := hv 23 (by decide)
            clear hv
            simp only [putAll, List.drop_succ_cons, List.drop_zero, e10, e23, Act.put, List.setIfInBounds_toArray, List.set_cons_succ, List.set_cons_zero]
            clear e10 e23
            go_wp2_with fail
            go_ret
            exact ⟨ret_bool (by rw [HF.out]), (hW.at_ 2 rfl : _ ∧ _).1⟩
        | false =>
          have HZ := Lib.hid hz
          have HG : Hid (goodV x = true) := Lib.hid (by rw [goodV, hp, hz]; rfl)
          clear hp hz
          by_cases hk0 : k = 0
          · have HF : Hid (vAt Var.n goodV l k = true) := Lib.hid (HO.out _ (vAt1_zero _ _ _ _ _ HG.out hk0))
            have d2 : decide (0 < (k : Int)) = false := by simp; omega
            have d3 : decide (0 < k) = false := by simp; omega
            clear hk0
            refine wp_region_hopsH 24 (12 :: 13 :: 14 :: 15 :: 16 :: 17 :: 18 :: 19 :: 20 :: 21 :: 22 :: 23 :: 24 :: 25 :: 26 :: 27 :: 28 :: 29 :: 30 :: 31 :: 32 :: 33 :: 34 :: 35 :: []) _
              (.eq (.pointer (some ⟨gx, 0, none⟩)) :: .eq (.string x.n) :: .eq (.bool true) :: .eq (.bool false) :: .eq (.bool false) :: .eq (.pointer (some ⟨gx, 1, none⟩)) :: .eq (.string x.v) :: .eq (.int .i64 (x.v.size : Int)) :: .eq (.bool false) :: .eq (.bool false) :: .eq (.bool false) :: .eq (.int .i64 k) :: .eq (.bool false) :: .eq (.bool false) :: .eq undef :: .eq undef :: .eq undef :: .eq undef :: .eq undef :: .eq undef :: .eq undef :: .eq undef :: .eq undef :: .eq (.bool false) :: [])
              (by kernel_rfl) (by kernel_rfl) hW2 rfl ?hops ?fin
            case hops =>
              refine ⟨?_, ?_, ?_, ?_, ?_, ?_, ?_, ?_, ?_, ?_, ?_, ?_, ?_, ?_, ?_, ?_, ?_, ?_, ?_, ?_, ?_, ?_, ?_, ?_, trivial⟩
              · intro a W hW hb hd K hK
                have b4 := hb 4 rfl
                go_simp
                exact hK _ _ (World.grownBy.refl _ _) rfl
              · intro a W hW hb hd K hK
                have b12 : a.tmps[12]?.getD undef = _ := hd ⟨0, .data⟩ (by simp) rfl
                have q1 : W.cell? ⟨gx, 0, none⟩ = some (.string x.n) := Cells.cell (hW.at_ 0 rfl) (i := 0) (by simp [varC])
                go_simp
                exact hK _ _ (World.grownBy.refl _ _) rfl
              · intro a W hW hb hd K hK
                have b13 : a.tmps[13]?.getD undef = _ := hd ⟨1, .data⟩ (by simp) rfl
                go_simp
                refine (Name_any x.n W hx.out.1).mono ?_
                rintro e w' ⟨rfl, rfl⟩
                exact hK _ _ (World.grownBy.refl _ _) (congrArg Value.bool HP.out)
              · intro a W hW hb hd K hK
                have b14 : a.tmps[14]?.getD undef = _ := hd ⟨2, .data⟩ (by simp) rfl
                go_simp
                exact hK _ _ (World.grownBy.refl _ _) rfl
              · intro a W hW hb hd K hK
                have b15 : a.tmps[15]?.getD undef = _ := hd ⟨3, .data⟩ (by simp) rfl
                go_simp
                exact hK _ _ (World.grownBy.refl _ _) rfl
              · refine Or.inl ⟨fun v w h => h, ?_⟩
                intro a W hW hb hd K hK
                have b4 := hb 4 rfl
                go_simp
                exact hK _ _ (World.grownBy.refl _ _) rfl
              · refine Or.inl ⟨fun v w h => h, ?_⟩
                intro a W hW hb hd K hK
                have b17 : a.tmps[17]?.getD undef = _ := hd ⟨5, .data⟩ (by simp) rfl
                have q1 : W.cell? ⟨gx, 1, none⟩ = some (.string x.v) := Cells.cell (hW.at_ 0 rfl) (i := 1) (by simp [varC])
                go_simp
                exact hK _ _ (World.grownBy.refl _ _) rfl
              · refine Or.inl ⟨fun v w h => h, ?_⟩
                intro a W hW hb hd K hK
                have b18 : a.tmps[18]?.getD undef = _ := hd ⟨6, .data⟩ (by simp) rfl
                go_simp
                exact hK _ _ (World.grownBy.refl _ _) rfl
              · refine Or.inl ⟨fun v w h => h, ?_⟩
                intro a W hW hb hd K hK
                have b19 : a.tmps[19]?.getD undef = _ := hd ⟨7, .data⟩ (by simp) rfl
                have q1 := HZ.out
                go_simp
                exact hK _ _ (World.grownBy.refl _ _) rfl
              · intro a W hW hb hd K hK
                have b16 : a.tmps[16]?.getD undef = _ := hd ⟨4, .data⟩ (by simp) rfl
                have b20 : a.tmps[20]?.getD undef = _ := hd ⟨8, .data⟩ (by simp) rfl
                go_simp
                exact hK _ _ (World.grownBy.refl _ _) rfl
              · intro a W hW hb hd K hK
                have b21 : a.tmps[21]?.getD undef = _ := hd ⟨9, .data⟩ (by simp) rfl
                go_simp
                exact hK _ _ (World.grownBy.refl _ _) rfl
              · refine Or.inl ⟨fun v w h => h, ?_⟩
                intro a W hW hb hd K hK
                have b3 := hb 3 rfl
                go_simp
                exact hK _ _ (World.grownBy.refl _ _) rfl
              · refine Or.inl ⟨fun v w h => h, ?_⟩
                intro a W hW hb hd K hK
                have b23 : a.tmps[23]?.getD undef = _ := hd ⟨11, .data⟩ (by simp) rfl
                go_simp
                exact hK _ _ (World.grownBy.refl _ _) rfl
              · refine Or.inl ⟨fun v w h => h, ?_⟩
                intro a W hW hb hd K hK
                have b24 : a.tmps[24]?.getD undef = _ := hd ⟨12, .data⟩ (by simp) rfl
                go_simp
                exact hK _ _ (World.grownBy.refl _ _) rfl
              · exact Or.inr ⟨fun v w h => by rw [show v = _ from h]; first | (intro h2; cases h2) | (simp [undef]), fun w => rfl⟩
              · exact Or.inr ⟨fun v w h => by rw [show v = _ from h]; first | (intro h2; cases h2) | (simp [undef]), fun w => rfl⟩
              · exact Or.inr ⟨fun v w h => by rw [show v = _ from h]; first | (intro h2; cases h2) | (simp [undef]), fun w => rfl⟩
              · exact Or.inr ⟨fun v w h => by rw [show v = _ from h]; first | (intro h2; cases h2) | (simp [undef]), fun w => rfl⟩
              · exact Or.inr ⟨fun v w h => by rw [show v = _ from h]; first | (intro h2; cases h2) | (simp [undef]), fun w => rfl⟩
              · exact Or.inr ⟨fun v w h => by rw [show v = _ from h]; first | (intro h2; cases h2) | (simp [undef]), fun w => rfl⟩
              · exact Or.inr ⟨fun v w h => by rw [show v = _ from h]; first | (intro h2; cases h2) | (simp [undef]), fun w => rfl⟩
              · exact Or.inr ⟨fun v w h => by rw [show v = _ from h]; first | (intro h2; cases h2) | (simp [undef]), fun w => rfl⟩
              · exact Or.inr ⟨fun v w h => by rw [show v = _ from h]; first | (intro h2; cases h2) | (simp [undef]), fun w => rfl⟩
              · refine Or.inl ⟨fun v w h => h, ?_⟩
                intro a W hW hb hd K hK
                have b25 : a.tmps[25]?.getD undef = _ := hd ⟨13, .data⟩ (by simp) rfl
                have b34 : a.tmps[34]?.getD undef = _ := hd ⟨22, .data⟩ (by simp) rfl
                go_simp
                exact hK _ _ (World.grownBy.refl _ _) rfl
            case fin =>
              intro vs W hW hv
              have e10 : vs 10 = _ := hv 10 (by decide)
              have e23 : vs 23 = _ := hv 23 (by decide)
              clear hv
              simp only [putAll, List.drop_succ_cons, List.drop_zero, e10, e23, Act.put, List.setIfInBounds_toArray, List.set_cons_succ, List.set_cons_zero]
              clear e10 e23
              go_wp2_with fail
              refine ⟨⟨k + 1, by omega, by go_num, fun i hi => ?_, hW.2⟩, by simp [intOf]; omega⟩
              by_cases hik : i = k
              · rw [hik]; exact HF.out
              · exact HA.out i (by omega)
          · obtain ⟨j, hj⟩ : ∃ j, k = j + 1 := ⟨k - 1, by omega⟩
            have hjl : j < l.length := by omega
            have HJ : Hid (∀ W, All W [.cells gx 49 (varC x), .low (.els B 2 (some ad) n (l.map varC)), .kept w w.heap.size] → W.cell? (ad.add (j * 2)) = some (.string l[j].n)) := Lib.hid (fun W hW => by
              obtain ⟨ad', e, _, hc⟩ := Els.at_ (hW.at_ 1 rfl : Els W B 2 (some ad) n (l.map varC) ∧ B ≤ W.heap.size).1 (k := j) (by rw [List.length_map]; exact hjl)
              obtain rfl := Option.some.inj e
              rw [List.getElem_map] at hc
              have := hc 0 (.string l[j].n) rfl
              rwa [add_zero] at this)
            have HO2 : Hid (∀ v, blt l[j].n x.n = v → vAt Var.n goodV l k = v) := Lib.hid (fun v hv => HO.out _ (vAt1_succ _ _ _ _ _ _ HG.out hj hjl hv))
            generalize l[j] = y at *
            have HY := HJ
            have d2 : decide (0 < (k : Int)) = true := by simp; omega
            have d3 : decide (0 < k) = true := by simp; omega
            have w1 : IntKind.i64.wrap ((k : Int) - 1) = (j : Int) := by rw [IntWalk.i64_in _ (by omega)]; omega
            have wj1 : (0 : Int) ≤ (j : Int) := by omega
            have wj2 : (j : Int) < (n : Int) := by omega
            have wj3 : ((j : Int)).toNat = j := by omega
            have HK := Lib.hid hj
            clear hj
            cases hb : Op.bytesLess y.n.toList x.n.toList with
            | false =>
              have HF : Hid (varsB l = false) := Lib.hid (HNO.out (HO2.out _ hb))
              refine wp_region_hopsH 24 (12 :: 13 :: 14 :: 15 :: 16 :: 17 :: 18 :: 19 :: 20 :: 21 :: 22 :: 23 :: 24 :: 25 :: 26 :: 27 :: 28 :: 29 :: 30 :: 31 :: 32 :: 33 :: 34 :: 35 :: []) _
                (.eq (.pointer (some ⟨gx, 0, none⟩)) :: .eq (.string x.n) :: .eq (.bool true) :: .eq (.bool false) :: .eq (.bool false) :: .eq (.pointer (some ⟨gx, 1, none⟩)) :: .eq (.string x.v) :: .eq (.int .i64 (x.v.size : Int)) :: .eq (.bool false) :: .eq (.bool false) :: .eq (.bool false) :: .eq (.int .i64 k) :: .eq (.bool true) :: .eq (.bool true) :: .eq (.slice (some ad) n c) :: .eq (.int .i64 k) :: .eq (.int .i64 j) :: .eq (.pointer (some (ad.add (j * 2)))) :: .eq (.pointer (some (ad.add (j * 2)))) :: .eq (.string y.n) :: .eq (.pointer (some ⟨gx, 0, none⟩)) :: .eq (.string x.n) :: .eq (.bool true) :: .eq (.bool true) :: [])
                (by kernel_rfl) (by kernel_rfl) hW2 rfl ?hops ?fin
              case hops =>
                refine ⟨?_, ?_, ?_, ?_, ?_, ?_, ?_, ?_, ?_, ?_, ?_, ?_, ?_, ?_, ?_, ?_, ?_, ?_, ?_, ?_, ?_, ?_, ?_, ?_, trivial⟩
                · intro a W hW hb hd K hK
                  have b4 := hb 4 rfl
                  go_simp
                  exact hK _ _ (World.grownBy.refl _ _) rfl
                · intro a W hW hb hd K hK
                  have b12 : a.tmps[12]?.getD undef = _ := hd ⟨0, .data⟩ (by simp) rfl
                  have q1 : W.cell? ⟨gx, 0, none⟩ = some (.string x.n) := Cells.cell (hW.at_ 0 rfl) (i := 0) (by simp [varC])
                  go_simp
                  exact hK _ _ (World.grownBy.refl _ _) rfl
                · intro a W hW hb hd K hK
                  have b13 : a.tmps[13]?.getD undef = _ := hd ⟨1, .data⟩ (by simp) rfl
                  go_simp
                  refine (Name_any x.n W hx.out.1).mono ?_
                  rintro e w' ⟨rfl, rfl⟩
                  exact hK _ _ (World.grownBy.refl _ _) (congrArg Value.bool HP.out)
                · intro a W hW hb hd K hK
                  have b14 : a.tmps[14]?.getD undef = _ := hd ⟨2, .data⟩ (by simp) rfl
                  go_simp
                  exact hK _ _ (World.grownBy.refl _ _) rfl
                · intro a W hW hb hd K hK
                  have b15 : a.tmps[15]?.getD undef = _ := hd ⟨3, .data⟩ (by simp) rfl
                  go_simp
                  exact hK _ _ (World.grownBy.refl _ _) rfl
                · refine Or.inl ⟨fun v w h => h, ?_⟩
                  intro a W hW hb hd K hK
                  have b4 := hb 4 rfl
                  go_simp
                  exact hK _ _ (World.grownBy.refl _ _) rfl
                · refine Or.inl ⟨fun v w h => h, ?_⟩
                  intro a W hW hb hd K hK
                  have b17 : a.tmps[17]?.getD undef = _ := hd ⟨5, .data⟩ (by simp) rfl
                  have q1 : W.cell? ⟨gx, 1, none⟩ = some (.string x.v) := Cells.cell (hW.at_ 0 rfl) (i := 1) (by simp [varC])
                  go_simp
                  exact hK _ _ (World.grownBy.refl _ _) rfl
                · refine Or.inl ⟨fun v w h => h, ?_⟩
                  intro a W hW hb hd K hK
                  have b18 : a.tmps[18]?.getD undef = _ := hd ⟨6, .data⟩ (by simp) rfl
                  go_simp
                  exact hK _ _ (World.grownBy.refl _ _) rfl
                · refine Or.inl ⟨fun v w h => h, ?_⟩
                  intro a W hW hb hd K hK
                  have b19 : a.tmps[19]?.getD undef = _ := hd ⟨7, .data⟩ (by simp) rfl
                  have q1 := HZ.out
                  go_simp
                  exact hK _ _ (World.grownBy.refl _ _) rfl
                · intro a W hW hb hd K hK
                  have b16 : a.tmps[16]?.getD undef = _ := hd ⟨4, .data⟩ (by simp) rfl
                  have b20 : a.tmps[20]?.getD undef = _ := hd ⟨8, .data⟩ (by simp) rfl
                  go_simp
                  exact hK _ _ (World.grownBy.refl _ _) rfl
                · intro a W hW hb hd K hK
                  have b21 : a.tmps[21]?.getD undef = _ := hd ⟨9, .data⟩ (by simp) rfl
                  go_simp
                  exact hK _ _ (World.grownBy.refl _ _) rfl
                · refine Or.inl ⟨fun v w h => h, ?_⟩
                  intro a W hW hb hd K hK
                  have b3 := hb 3 rfl
                  go_simp
                  exact hK _ _ (World.grownBy.refl _ _) rfl
                · refine Or.inl ⟨fun v w h => h, ?_⟩
                  intro a W hW hb hd K hK
                  have b23 : a.tmps[23]?.getD undef = _ := hd ⟨11, .data⟩ (by simp) rfl
                  go_simp
                  exact hK _ _ (World.grownBy.refl _ _) rfl
                · refine Or.inl ⟨fun v w h => h, ?_⟩
                  intro a W hW hb hd K hK
                  have b24 : a.tmps[24]?.getD undef = _ := hd ⟨12, .data⟩ (by simp) rfl
                  go_simp
                  exact hK _ _ (World.grownBy.refl _ _) rfl
                · refine Or.inl ⟨fun v w h => h, ?_⟩
                  intro a W hW hb hd K hK
                  have b0 := hb 0 rfl
                  go_simp
                  exact hK _ _ (World.grownBy.refl _ _) rfl
                · refine Or.inl ⟨fun v w h => h, ?_⟩
                  intro a W hW hb hd K hK
                  have b3 := hb 3 rfl
                  go_simp
                  exact hK _ _ (World.grownBy.refl _ _) rfl
                · refine Or.inl ⟨fun v w h => h, ?_⟩
                  intro a W hW hb hd K hK
                  have b27 : a.tmps[27]?.getD undef = _ := hd ⟨15, .data⟩ (by simp) rfl
                  go_simp
                  exact hK _ _ (World.grownBy.refl _ _) rfl
                · refine Or.inl ⟨fun v w h => h, ?_⟩
                  intro a W hW hb hd K hK
                  have b26 : a.tmps[26]?.getD undef = _ := hd ⟨14, .data⟩ (by simp) rfl
                  have b28 : a.tmps[28]?.getD undef = _ := hd ⟨16, .data⟩ (by simp) rfl
                  go_simp
                  exact hK _ _ (World.grownBy.refl _ _) rfl
                · refine Or.inl ⟨fun v w h => h, ?_⟩
                  intro a W hW hb hd K hK
                  have b29 : a.tmps[29]?.getD undef = _ := hd ⟨17, .data⟩ (by simp) rfl
                  go_simp
                  exact hK _ _ (World.grownBy.refl _ _) (by first | rfl | (rw [add_zero]; rfl) | (simp [add_zero]; rfl))
                · refine Or.inl ⟨fun v w h => h, ?_⟩
                  intro a W hW hb hd K hK
                  have b30 : a.tmps[30]?.getD undef = _ := hd ⟨18, .data⟩ (by simp) rfl
                  have q1 : W.cell? (ad.add (j * 2)) = some (.string y.n) := HY.out W hW
                  go_simp
                  exact hK _ _ (World.grownBy.refl _ _) rfl
                · refine Or.inl ⟨fun v w h => h, ?_⟩
                  intro a W hW hb hd K hK
                  have b4 := hb 4 rfl
                  go_simp
                  exact hK _ _ (World.grownBy.refl _ _) rfl
                · refine Or.inl ⟨fun v w h => h, ?_⟩
                  intro a W hW hb hd K hK
                  have b32 : a.tmps[32]?.getD undef = _ := hd ⟨20, .data⟩ (by simp) rfl
                  have q1 : W.cell? ⟨gx, 0, none⟩ = some (.string x.n) := Cells.cell (hW.at_ 0 rfl) (i := 0) (by simp [varC])
                  go_simp
                  exact hK _ _ (World.grownBy.refl _ _) rfl
                · refine Or.inl ⟨fun v w h => h, ?_⟩
                  intro a W hW hb hd K hK
                  have b31 : a.tmps[31]?.getD undef = _ := hd ⟨19, .data⟩ (by simp) rfl
                  have b33 : a.tmps[33]?.getD undef = _ := hd ⟨21, .data⟩ (by simp) rfl
                  go_simp
                  exact hK _ _ (World.grownBy.refl _ _) rfl
                · refine Or.inl ⟨fun v w h => h, ?_⟩
                  intro a W hW hb hd K hK
                  have b25 : a.tmps[25]?.getD undef = _ := hd ⟨13, .data⟩ (by simp) rfl
                  have b34 : a.tmps[34]?.getD undef = _ := hd ⟨22, .data⟩ (by simp) rfl
                  go_simp
                  exact hK _ _ (World.grownBy.refl _ _) rfl
              case fin =>
                intro vs W hW hv
                have e10 : vs 10 = _ := hv 10 (by decide)
                have e23 : vs 23 = _ := hv 23 (by decide)
                clear hv
                simp only [putAll, List.drop_succ_cons, List.drop_zero, e10, e23, Act.put, List.setIfInBounds_toArray, List.set_cons_succ, List.set_cons_zero]
                clear e10 e23
                go_wp2_with fail
                go_ret
                exact ⟨ret_bool (by rw [HF.out]), (hW.at_ 2 rfl : _ ∧ _).1⟩
            | true =>
              have HF : Hid (vAt Var.n goodV l k = true) := Lib.hid (HO2.out _ hb)
              refine wp_region_hopsH 24 (12 :: 13 :: 14 :: 15 :: 16 :: 17 :: 18 :: 19 :: 20 :: 21 :: 22 :: 23 :: 24 :: 25 :: 26 :: 27 :: 28 :: 29 :: 30 :: 31 :: 32 :: 33 :: 34 :: 35 :: []) _
                (.eq (.pointer (some ⟨gx, 0, none⟩)) :: .eq (.string x.n) :: .eq (.bool true) :: .eq (.bool false) :: .eq (.bool false) :: .eq (.pointer (some ⟨gx, 1, none⟩)) :: .eq (.string x.v) :: .eq (.int .i64 (x.v.size : Int)) :: .eq (.bool false) :: .eq (.bool false) :: .eq (.bool false) :: .eq (.int .i64 k) :: .eq (.bool true) :: .eq (.bool true) :: .eq (.slice (some ad) n c) :: .eq (.int .i64 k) :: .eq (.int .i64 j) :: .eq (.pointer (some (ad.add (j * 2)))) :: .eq (.pointer (some (ad.add (j * 2)))) :: .eq (.string y.n) :: .eq (.pointer (some ⟨gx, 0, none⟩)) :: .eq (.string x.n) :: .eq (.bool false) :: .eq (.bool false) :: [])
                (by kernel_rfl) (by kernel_rfl) hW2 rfl ?hops ?fin
              case hops =>
                refine ⟨?_, ?_, ?_, ?_, ?_, ?_, ?_, ?_, ?_, ?_, ?_, ?_, ?_, ?_, ?_, ?_, ?_, ?_, ?_, ?_, ?_, ?_, ?_, ?_, trivial⟩
                · intro a W hW hb hd K hK
                  have b4 := hb 4 rfl
                  go_simp
                  exact hK _ _ (World.grownBy.refl _ _) rfl
                · intro a W hW hb hd K hK
                  have b12 : a.tmps[12]?.getD undef = _ := hd ⟨0, .data⟩ (by simp) rfl
                  have q1 : W.cell? ⟨gx, 0, none⟩ = some (.string x.n) := Cells.cell (hW.at_ 0 rfl) (i := 0) (by simp [varC])
                  go_simp
                  exact hK _ _ (World.grownBy.refl _ _) rfl
                · intro a W hW hb hd K hK
                  have b13 : a.tmps[13]?.getD undef = _ := hd ⟨1, .data⟩ (by simp) rfl
                  go_simp
                  refine (Name_any x.n W hx.out.1).mono ?_
                  rintro e w' ⟨rfl, rfl⟩
                  exact hK _ _ (World.grownBy.refl _ _) (congrArg Value.bool HP.out)
                · intro a W hW hb hd K hK
                  have b14 : a.tmps[14]?.getD undef = _ := hd ⟨2, .data⟩ (by simp) rfl
                  go_simp
                  exact hK _ _ (World.grownBy.refl _ _) rfl
                · intro a W hW hb hd K hK
                  have b15 : a.tmps[15]?.getD undef = _ := hd ⟨3, .data⟩ (by simp) rfl
                  go_simp
                  exact hK _ _ (World.grownBy.refl _ _) rfl
                · refine Or.inl ⟨fun v w h => h, ?_⟩
                  intro a W hW hb hd K hK
                  have b4 := hb 4 rfl
                  go_simp
                  exact hK _ _ (World.grownBy.refl _ _) rfl
                · refine Or.inl ⟨fun v w h => h, ?_⟩
                  intro a W hW hb hd K hK
                  have b17 : a.tmps[17]?.getD undef = _ := hd ⟨5, .data⟩ (by simp) rfl
                  have q1 : W.cell? ⟨gx, 1, none⟩ = some (.string x.v) := Cells.cell (hW.at_ 0 rfl) (i := 1) (by simp [varC])
                  go_simp
                  exact hK _ _ (World.grownBy.refl _ _) rfl
                · refine Or.inl ⟨fun v w h => h, ?_⟩
                  intro a W hW hb hd K hK
                  have b18 : a.tmps[18]?.getD undef = _ := hd ⟨6, .data⟩ (by simp) rfl
                  go_simp
                  exact hK _ _ (World.grownBy.refl _ _) rfl
                · refine Or.inl ⟨fun v w h => h, ?_⟩
                  intro a W hW hb hd K hK
                  have b19 : a.tmps[19]?.getD undef = _ := hd ⟨7, .data⟩ (by simp) rfl
                  have q1 := HZ.out
                  go_simp
                  exact hK _ _ (World.grownBy.refl _ _) rfl
                · intro a W hW hb hd K hK
                  have b16 : a.tmps[16]?.getD undef = _ := hd ⟨4, .data⟩ (by simp) rfl
                  have b20 : a.tmps[20]?.getD undef = _ := hd ⟨8, .data⟩ (by simp) rfl
                  go_simp
                  exact hK _ _ (World.grownBy.refl _ _) rfl
                · intro a W hW hb hd K hK
                  have b21 : a.tmps[21]?.getD undef = _ := hd ⟨9, .data⟩ (by simp) rfl
                  go_simp
                  exact hK _ _ (World.grownBy.refl _ _) rfl
                · refine Or.inl ⟨fun v w h => h, ?_⟩
                  intro a W hW hb hd K hK
                  have b3 := hb 3 rfl
                  go_simp
                  exact hK _ _ (World.grownBy.refl _ _) rfl
                · refine Or.inl ⟨fun v w h => h, ?_⟩
                  intro a W hW hb hd K hK
                  have b23 : a.tmps[23]?.getD undef = _ := hd ⟨11, .data⟩ (by simp) rfl
                  go_simp
                  exact hK _ _ (World.grownBy.refl _ _) rfl
                · refine Or.inl ⟨fun v w h => h, ?_⟩
                  intro a W hW hb hd K hK
                  have b24 : a.tmps[24]?.getD undef = _ := hd ⟨12, .data⟩ (by simp) rfl
                  go_simp
                  exact hK _ _ (World.grownBy.refl _ _) rfl
                · refine Or.inl ⟨fun v w h => h, ?_⟩
                  intro a W hW hb hd K hK
                  have b0 := hb 0 rfl
                  go_simp
                  exact hK _ _ (World.grownBy.refl _ _) rfl
                · refine Or.inl ⟨fun v w h => h, ?_⟩
                  intro a W hW hb hd K hK
                  have b3 := hb 3 rfl
                  go_simp
                  exact hK _ _ (World.grownBy.refl _ _) rfl
                · refine Or.inl ⟨fun v w h => h, ?_⟩
                  intro a W hW hb hd K hK
                  have b27 : a.tmps[27]?.getD undef = _ := hd ⟨15, .data⟩ (by simp) rfl
                  go_simp
                  exact hK _ _ (World.grownBy.refl _ _) rfl
                · refine Or.inl ⟨fun v w h => h, ?_⟩
                  intro a W hW hb hd K hK
                  have b26 : a.tmps[26]?.getD undef = _ := hd ⟨14, .data⟩ (by simp) rfl
                  have b28 : a.tmps[28]?.getD undef = _ := hd ⟨16, .data⟩ (by simp) rfl
                  go_simp
                  exact hK _ _ (World.grownBy.refl _ _) rfl
                · refine Or.inl ⟨fun v w h => h, ?_⟩
                  intro a W hW hb hd K hK
                  have b29 : a.tmps[29]?.getD undef = _ := hd ⟨17, .data⟩ (by simp) rfl
                  go_simp
                  exact hK _ _ (World.grownBy.refl _ _) (by first | rfl | (rw [add_zero]; rfl) | (simp [add_zero]; rfl))
                · refine Or.inl ⟨fun v w h => h, ?_⟩
                  intro a W hW hb hd K hK
                  have b30 : a.tmps[30]?.getD undef = _ := hd ⟨18, .data⟩ (by simp) rfl
                  have q1 : W.cell? (ad.add (j * 2)) = some (.string y.n) := HY.out W hW
                  go_simp
                  exact hK _ _ (World.grownBy.refl _ _) rfl
                · refine Or.inl ⟨fun v w h => h, ?_⟩
                  intro a W hW hb hd K hK
                  have b4 := hb 4 rfl
                  go_simp
                  exact hK _ _ (World.grownBy.refl _ _) rfl
                · refine Or.inl ⟨fun v w h => h, ?_⟩
                  intro a W hW hb hd K hK
                  have b32 : a.tmps[32]?.getD undef = _ := hd ⟨20, .data⟩ (by simp) rfl
                  have q1 : W.cell? ⟨gx, 0, none⟩ = some (.string x.n) := Cells.cell (hW.at_ 0 rfl) (i := 0) (by simp [varC])
                  go_simp
                  exact hK _ _ (World.grownBy.refl _ _) rfl
                · refine Or.inl ⟨fun v w h => h, ?_⟩
                  intro a W hW hb hd K hK
                  have b31 : a.tmps[31]?.getD undef = _ := hd ⟨19, .data⟩ (by simp) rfl
                  have b33 : a.tmps[33]?.getD undef = _ := hd ⟨21, .data⟩ (by simp) rfl
                  go_simp
                  exact hK _ _ (World.grownBy.refl _ _) rfl
                · refine Or.inl ⟨fun v w h => h, ?_⟩
                  intro a W hW hb hd K hK
                  have b25 : a.tmps[25]?.getD undef = _ := hd ⟨13, .data⟩ (by simp) rfl
                  have b34 : a.tmps[34]?.getD undef = _ := hd ⟨22, .data⟩ (by simp) rfl
                  go_simp
                  exact hK _ _ (World.grownBy.refl _ _) rfl
              case fin =>
                intro vs W hW hv
                have e10 : vs 10 = _ := hv 10 (by decide)
                have e23 : vs 23 = _ := hv 23 (by decide)
                clear hv
                simp only [putAll, List.drop_succ_cons, List.drop_zero, e10, e23, Act.put, List.setIfInBounds_toArray, List.set_cons_succ, List.set_cons_zero]
                clear e10 e23
                go_wp2_with fail
                refine ⟨⟨k + 1, by omega, by go_num, fun i hi => ?_, hW.2⟩, by simp [intOf]; omega⟩
                by_cases hik : i = k
                · rw [hik]; exact HF.out
                · exact HA.out i (by omega)
    · obtain rfl : k = n := by omega
      have d1 : decide ((k : Int) < (k : Int)) = false := by simp
      have hv : Hid (varsB l = decide (k ≤ 16)) := Lib.hid (by rw [varsB, vAll_all _ _ _ l (by rw [HN.out]; exact HA.out), HN.out])
      go_wp2
      go_ret
      refine ⟨ret_bool (by rw [hv.out]; simp only [decide_eq_decide]; omega), (hI.at_ 1 rfl : _ ∧ _).1⟩
end Go.Proofs.YtjdinakdkdjocaaGreatDoor
set_option linter.unusedSimpArgs false
set_option linter.unusedVariables false
set_option maxRecDepth 100000
namespace Go.AdR
open Go Go.RowKit Go.Adm
def longB (s : ByteArray) : Bool := decide ((200 : Int) < (s.size : Int))
end Go.AdR
namespace Go.Proofs.YtjdinakdkdjocaaGreatDoor
open Go Go.RowKit Go.Adm Go.AdR
theorem long_any (s : ByteArray) (w : World) : Calls Tryz.prog 57 #[.string s] w fun e w' => e = .returned (.bool (longB s)) ∧ w' = w := by
  have hL : Hid (longB s = decide ((200 : Int) < (s.size : Int))) := Lib.hid rfl
  go_enter Tryz.func57, Tryz.ntmps57
  go_wp2_with fail
  go_ret
  exact ⟨ret_bool (by rw [hL.out]), rfl⟩
set_option maxHeartbeats 3200000 in
theorem IndexLong_any (w : World) (B : Nat) (A : Option Addr) (n c : Nat) (l : List ByteArray) (h : Strs w B A n l) (hn2 : n ≤ 1000000) (hB : B ≤ w.heap.size) :
    Calls Tryz.prog 82 #[.slice A n c, .func (.func 57) #[] #[]] w fun e w' => (∃ i : Int, e = .returned (.int .i64 i) ∧ decide (0 ≤ i) = l.any longB) ∧ w' = w := by
  have HN := Lib.hid h.len
  have H := Lib.hid h
  clear h
  go_enter Tryz.func82, Tryz.ntmps82
  go_wp2_with fail
  go_loop [8] (fun i => ∃ k : Nat, k ≤ n ∧ i = .int .i64 k ∧ ∀ j (hj : j < l.length), j < k → longB l[j] = false) (fun i => n - (intOf i).toNat)
  case atStart => exact ⟨0, Nat.zero_le _, rfl, fun _ _ h => absurd h (by omega)⟩
  case round =>
    obtain ⟨k, hk, rfl, hall⟩ := hrel
    have HA := Lib.hid hall
    clear hall
    by_cases hlt : k < n
    · have d1 : decide ((k : Int) < (n : Int)) = true := by simp; omega
      have hkl : k < l.length := by rw [HN.out]; exact hlt
      obtain ⟨ad, rfl, hadB, hc, hs⟩ := H.out.at_ hkl
      have HX : Hid (longB l[k] = true → l.any longB = true) := Lib.hid (fun h => List.any_eq_true.2 ⟨_, List.getElem_mem hkl, h⟩)
      have HY : Hid (longB l[k] = false → ∀ j (hj : j < l.length), j < k + 1 → longB l[j] = false) := Lib.hid (fun h j hj h2 => by
        rcases Nat.lt_succ_iff_lt_or_eq.1 h2 with h4 | h4
        · exact HA.out j hj h4
        · subst h4; exact h)
      generalize l[k] = x at *
      clear hkl
      cases h0 : longB x with
      | true =>
        have hv := Lib.hid (HX.out h0)
        have hcn : Calls Tryz.prog 57 #[.string x] w fun e w' => e = .returned (.bool true) ∧ w' = w := by rw [← h0]; exact long_any x w
        clear h0 HX HY
        go_wp2_with (go_at_call 57; refine hcn.mono ?_; rintro e w' ⟨rfl, rfl⟩)
        go_ret
        exact ⟨⟨(k : Int), by rfl, by rw [hv.out]; simp⟩, rfl⟩
      | false =>
        have hv := Lib.hid (HY.out h0)
        have hcn : Calls Tryz.prog 57 #[.string x] w fun e w' => e = .returned (.bool false) ∧ w' = w := by rw [← h0]; exact long_any x w
        clear h0 HX HY
        go_wp2_with (go_at_call 57; refine hcn.mono ?_; rintro e w' ⟨rfl, rfl⟩)
        exact ⟨⟨k + 1, by omega, by go_num, hv.out⟩, by simp [intOf]; omega⟩
    · have d1 : decide ((k : Int) < (n : Int)) = false := by simp; omega
      have hv : Hid (l.any longB = false) := Lib.hid (by
        rw [List.any_eq_false]
        intro x hx
        obtain ⟨j, hj, rfl⟩ := List.getElem_of_mem hx
        rw [HA.out j hj (by have := HN.out; omega)]
        decide)
      go_wp2_with fail
      go_ret
      exact ⟨⟨-1, by rfl, by rw [hv.out]; decide⟩, rfl⟩
theorem ContainsLong_any (w : World) (B : Nat) (A : Option Addr) (n c : Nat) (l : List ByteArray) (h : Strs w B A n l) (hn2 : n ≤ 1000000) (hB : B ≤ w.heap.size) :
    Calls Tryz.prog 58 #[.slice A n c, .func (.func 57) #[] #[]] w fun e w' => e = .returned (.bool (l.any longB)) ∧ w' = w := by
  have hc := IndexLong_any w B A n c l h hn2 hB
  clear h hn2 hB
  go_enter Tryz.func58, Tryz.ntmps58
  go_wp2_with (go_at_call 82; refine hc.mono ?_; clear hc; rintro e w' ⟨⟨i, rfl, hi⟩, rfl⟩)
  go_ret
  exact ⟨ret_bool (by rw [← hi]), rfl⟩
end Go.Proofs.YtjdinakdkdjocaaGreatDoor

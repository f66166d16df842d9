/- Origins: which comes first, on both sides; the origin of a release. -/
import Derived.Test.YtkdblhlehagmbaaDoorGen2
import Derived.Test.YtkdblhlehagmbaaDoorSto1
import Derived.Test.YtkdblhlehagmbaaDoorRel1
import Derived.Test.YtkdblhlehagmbaaDoorRel2
set_option linter.unusedSimpArgs false
set_option linter.unusedVariables false
set_option maxRecDepth 100000
namespace Go.Adm
open Go Go.RowKit
structure Ori where
  d : List UInt8
  l : ByteArray
  r : ByteArray
def oriC (o : Ori) : List Value := o.d.map bv ++ [.string o.l, .string o.r]
structure Rls where
  a : List UInt8
  d : List UInt8
  l : ByteArray
  r : ByteArray
  c : List UInt8
  t : Int
def rlsC (x : Rls) : List Value := x.a.map bv ++ (x.d.map bv ++ ([.string x.l, .string x.r] ++ (x.c.map bv ++ [.int .i64 x.t])))
def Rls.ori (x : Rls) : Ori := ⟨x.d, x.l, x.r⟩
theorem oriC_len (o : Ori) (h : o.d.length = 32) : (oriC o).length = 34 := by simp [oriC, h]
theorem oriC_0 (o : Ori) (h : o.d.length = 32) : ((oriC o).drop 0).take 32 = o.d.map bv := by
  rw [List.drop_zero]
  unfold oriC
  exact List.take_left' (by rw [List.length_map, h])
theorem oriC_32 (o : Ori) (h : o.d.length = 32) : (oriC o)[32]? = some (.string o.l) := by
  unfold oriC
  rw [List.getElem?_append_right (by rw [List.length_map, h]; omega), List.length_map, h]; rfl
theorem oriC_33 (o : Ori) (h : o.d.length = 32) : (oriC o)[33]? = some (.string o.r) := by
  unfold oriC
  rw [List.getElem?_append_right (by rw [List.length_map, h]; omega), List.length_map, h]; rfl
theorem cell_at {w : World} {g : Nat} {t : TypeId} {cs : List Value} (h : Cells w g t cs) {i : Nat} {v : Value} (hi : cs[i]? = some v) : w.cell? ⟨g, i, none⟩ = some v := by
  obtain ⟨hl, e⟩ := List.getElem?_eq_some_iff.1 hi
  rw [Cells.cell h hl, e]
theorem cell_dig {w : World} {g o : Nat} {t : TypeId} {cs : List Value} {d : List UInt8} (h : Cells w g t cs) (hd : (cs.drop o).take 32 = d.map bv) : ∀ j u, (d.map bv)[j]? = some u → w.cell? ((⟨g, o, none⟩ : Addr).add j) = some u := by
  intro j u hu
  rw [← hd, List.getElem?_take] at hu
  split at hu
  · rw [List.getElem?_drop] at hu
    rw [show (⟨g, o, none⟩ : Addr).add j = ⟨g, o + j, none⟩ from by simp [Addr.add]]
    exact cell_at h hu
  · cases hu
theorem ba_inj {a b : ByteArray} (h : a.toList = b.toList) : a = b := by
  rw [ByteArray.toList_eq, ByteArray.toList_eq] at h
  exact ByteArray.ext (Array.ext' h)
def OriOk (o : Ori) : Prop := o.d.length = 32 ∧ o.l.size ≤ 140737488355328 ∧ o.r.size ≤ 140737488355328
def oriZ : List Value := List.replicate 32 (Value.int .u8 0) ++ [sv ByteArray.empty, sv ByteArray.empty]
theorem fill_ori (o : Ori) (hd : o.d.length = 32) : Instr.fill (#[(0, 32), (32, 1), (33, 1)][·]?) oriZ.toArray [(0, .agg (o.d.map bv).toArray), (1, .string o.l), (2, .string o.r)] = some (oriC o).toArray := by
  refine (fill_step (off := 0) (size := 32) (es := o.d.map bv) (pre := []) (old := List.replicate 32 (Value.int .u8 0)) (post := [sv ByteArray.empty, sv ByteArray.empty]) rfl rfl rfl (by simp) rfl (by simp [hd])).trans ?_
  refine (fill_step (off := 32) (size := 1) (es := [.string o.l]) (pre := o.d.map bv) (old := [sv ByteArray.empty]) (post := [sv ByteArray.empty]) rfl (by simp) (by simp [hd]) rfl rfl rfl).trans ?_
  refine (fill_step (off := 33) (size := 1) (es := [.string o.r]) (pre := o.d.map bv ++ [.string o.l]) (old := [sv ByteArray.empty]) (post := []) rfl (by simp) (by simp [hd]) rfl rfl rfl).trans ?_
  simp [Instr.fill, oriC]
theorem rls_d (x : Rls) (ha : x.a.length = 32) (hd : x.d.length = 32) : ((rlsC x).drop 32).take 32 = x.d.map bv := by
  unfold rlsC
  rw [List.drop_left' (by rw [List.length_map, ha]), List.take_left' (by rw [List.length_map, hd])]
theorem rls_l (x : Rls) (ha : x.a.length = 32) (hd : x.d.length = 32) : (rlsC x)[64]? = some (.string x.l) := by
  unfold rlsC
  rw [List.getElem?_append_right (by rw [List.length_map, ha]; omega), List.length_map, ha, List.getElem?_append_right (by rw [List.length_map, hd]; omega), List.length_map, hd]; rfl
theorem rls_r (x : Rls) (ha : x.a.length = 32) (hd : x.d.length = 32) : (rlsC x)[65]? = some (.string x.r) := by
  unfold rlsC
  rw [List.getElem?_append_right (by rw [List.length_map, ha]; omega), List.length_map, ha, List.getElem?_append_right (by rw [List.length_map, hd]; omega), List.length_map, hd]; rfl
end Go.Adm
namespace Go.Proofs.YtkdblhlehagmbaaDoor
open Go Go.RowKit Go.Adm
theorem zero_ori (w : World) : (zeroValue 27).run Tryd.prog w = .ok (.agg oriZ.toArray) w := by kernel_rfl
theorem eq_dg (w : World) (x y : List UInt8) (hx : x.length = 32) (hy : y.length = 32) : (binOp .eql 23 (.agg (x.map bv).toArray) (.agg (y.map bv).toArray)).run Tryd.prog w = .ok (.bool (decide (x = y))) w :=
  run_eq_deep w 2 23 (by decide) (by kernel_rfl) (by simp only [Value.formed, Tryd.underlying23, List.size_toArray, List.length_map, hx]; kernel_rfl) (by simp only [Value.formed, Tryd.underlying23, List.size_toArray, List.length_map, hy]; kernel_rfl)
    (kl_bytes Tryd.underlying23 Tryd.underlying5 (by kernel_rfl) (by kernel_rfl) x hx) (kl_bytes Tryd.underlying23 Tryd.underlying5 (by kernel_rfl) (by kernel_rfl) y hy) _ (by
      rw [decide_eq_true_eq]
      exact ⟨fun h => by rw [h], map_bl_inj⟩)
theorem ne_dg (w : World) (x y : List UInt8) (hx : x.length = 32) (hy : y.length = 32) : (binOp .neq 23 (.agg (x.map bv).toArray) (.agg (y.map bv).toArray)).run Tryd.prog w = .ok (.bool (!decide (x = y))) w := by
  have h := eq_dg w x y hx hy
  rw [show binOp .neq 23 (.agg (x.map bv).toArray) (.agg (y.map bv).toArray) = _ from rfl]
  rw [run_neq_struct]
  rw [run_eql_struct] at h
  revert h
  generalize (Op.equalIn 10000 23 _ _).run Tryd.prog w = q
  intro h
  cases q with
  | ok b w' =>
    simp only [Result.andThen, Result.ok.injEq, Value.bool.injEq] at h ⊢
    exact ⟨by rw [h.1], h.2⟩
  | _ => simp [Result.andThen] at h
theorem kl_str {P : Program} {e : TypeId} (he : P.underlying e = some .string) (s : ByteArray) (hs : s.size ≤ 140737488355328) (d : Nat) : P.keyLits (d + 1) e [sv s] = some [.string s.data.toList] := by
  unfold Program.keyLits
  rw [he]
  simp only [sv]
  rw [if_pos (by unfold maxLen; omega)]
theorem kl_ori (o : Ori) (h : OriOk o) : Tryd.prog.keyLits 3 27 (oriC o) = some (o.d.map bl ++ [.string o.l.data.toList, .string o.r.data.toList]) := by
  have e2 : (oriC o).take 32 = o.d.map bv := by have := oriC_0 o h.1; rwa [List.drop_zero] at this
  have e3 : ((oriC o).drop 32).take 1 = [sv o.l] := by unfold oriC; rw [List.drop_left' (by rw [List.length_map, h.1])]; rfl
  have e4 : ((oriC o).drop 33).take 1 = [sv o.r] := by
    rw [show 33 = 32 + 1 from rfl, ← List.drop_drop]
    unfold oriC; rw [List.drop_left' (by rw [List.length_map, h.1])]; rfl
  have k1 := kl_bytes (P := Tryd.prog) Tryd.underlying23 Tryd.underlying5 (by kernel_rfl) (by kernel_rfl) o.d h.1
  have k2 := kl_str (P := Tryd.prog) Tryd.underlying9 o.l h.2.1 1
  have k3 := kl_str (P := Tryd.prog) Tryd.underlying9 o.r h.2.2 1
  have c1 : Tryd.prog.cellsOf 27 = 34 := by kernel_rfl
  have c2 : Tryd.prog.cellsOf 23 = 32 := by kernel_rfl
  have c3 : Tryd.prog.cellsOf 9 = 1 := by kernel_rfl
  unfold Program.keyLits
  rw [Tryd.underlying27]
  simp [oriC_len o h.1, c1, c2, c3, List.mapM_cons, e2, e3, e4, k1, k2, k3]
theorem fm_ori (o : Ori) (h : OriOk o) : (Value.agg (oriC o).toArray).formed Tryd.prog 27 = true := by
  have hl := oriC_len o h.1
  generalize oriC o = l at *
  have hc : Tryd.prog.cellsOf 27 = 34 := by kernel_rfl
  simp [Value.formed, Tryd.underlying27, hl, hc]
theorem ori_inj {x y : Ori} (hx : OriOk x) (hy : OriOk y) (h : (x.d.map bl ++ [.string x.l.data.toList, .string x.r.data.toList]) = (y.d.map bl ++ [.string y.l.data.toList, .string y.r.data.toList])) : x = y := by
  obtain ⟨h1, h2⟩ := List.append_inj h (by rw [List.length_map, List.length_map, hx.1, hy.1])
  injection h2 with h2 h3
  injection h3 with h3 _
  injection h2 with h2
  injection h3 with h3
  cases x; cases y
  simp only at h1 h2 h3
  rw [map_bl_inj h1]
  congr 1
  · exact ba_inj (by rw [ByteArray.toList_eq, ByteArray.toList_eq]; exact h2)
  · exact ba_inj (by rw [ByteArray.toList_eq, ByteArray.toList_eq]; exact h3)
def oriEq (x y : Ori) : Bool := decide (x.d = y.d) && (x.l.toList == y.l.toList && x.r.toList == y.r.toList)
theorem oriEq_iff (x y : Ori) : oriEq x y = true ↔ x = y := by
  constructor
  · intro h
    simp only [oriEq, Bool.and_eq_true, decide_eq_true_eq, beq_iff_eq] at h
    cases x; cases y
    simp only at h
    obtain ⟨h1, h2, h3⟩ := h
    rw [h1, ba_inj h2, ba_inj h3]
  · rintro rfl
    simp [oriEq]
theorem eq_ori (w : World) (x y : Ori) (hx : OriOk x) (hy : OriOk y) : (binOp .eql 27 (.agg (oriC x).toArray) (.agg (oriC y).toArray)).run Tryd.prog w = .ok (.bool (oriEq x y)) w :=
  run_eq_deep w 3 27 (by decide) (by kernel_rfl) (fm_ori x hx) (fm_ori y hy) (kl_ori x hx) (kl_ori y hy) (oriEq x y) (by
    rw [oriEq_iff]
    exact ⟨fun h => by rw [h], ori_inj hx hy⟩)
theorem ne_ori (w : World) (x y : Ori) (hx : OriOk x) (hy : OriOk y) : (binOp .neq 27 (.agg (oriC x).toArray) (.agg (oriC y).toArray)).run Tryd.prog w = .ok (.bool (!oriEq x y)) w := by
  have h := eq_ori w x y hx hy
  rw [run_eql_struct] at h
  rw [run_neq_struct]
  revert h
  generalize (Op.equalIn 10000 27 _ _).run Tryd.prog w = q
  intro h
  cases q with
  | ok b w' =>
    simp only [Result.andThen, Result.ok.injEq, Value.bool.injEq] at h ⊢
    exact ⟨by rw [h.1], h.2⟩
  | _ => simp [Result.andThen] at h
/-- the order of the reference -/
def rlessO (a b : Ori) : Bool := if a.d = b.d then (if a.l.toList = b.l.toList then Op.bytesLess a.r.toList b.r.toList else Op.bytesLess a.l.toList b.l.toList) else lessD a.d b.d
/-- whether one origin comes before another -/
def lessO (a b : Ori) : Bool := decide (orS [Lib.compareBytes a.d b.d, cmpS a.l b.l, cmpS a.r b.r] < 0)
theorem bytesCompare_at (w : World) (a1 a2 : Addr) (c1 c2 n1 n2 : Nat) (l1 l2 : List UInt8) (e1 : l1.length = n1) (e2 : l2.length = n2) (h1 : ∀ j u, (l1.map bv)[j]? = some u → w.cell? (a1.add j) = some u) (h2 : ∀ j u, (l2.map bv)[j]? = some u → w.cell? (a2.add j) = some u) :
    Calls Tryd.prog 11 #[.slice (some a1) n1 c1, .slice (some a2) n2 c2] w fun e w' => e = .returned (.int .i64 (Lib.compareBytes l1 l2)) ∧ w' = w := by
  subst e1 e2
  exact bytesCompare_any w a1 a2 c1 c2 l1 l2 h1 h2
set_option maxHeartbeats 3200000 in
theorem oLess_any (w : World) (a b : Ori) (ha : a.d.length = 32) (hb : b.d.length = 32) :
    Calls Tryd.prog 7 #[.agg (oriC a).toArray, .agg (oriC b).toArray] w fun e w' => e = .returned (.bool (lessO a b)) ∧ Below w.heap.size w w' := by
  have hR : All w [.kept w w.heap.size] := ⟨⟨Below.refl _ _, Nat.le_refl _⟩, trivial⟩
  have HA := Lib.hid ha
  have HB := Lib.hid hb
  have A0 := Lib.hid (oriC_0 a ha)
  have B0 := Lib.hid (oriC_0 b hb)
  have A1 := Lib.hid (oriC_32 a ha)
  have B1 := Lib.hid (oriC_32 b hb)
  have A2 := Lib.hid (oriC_33 a ha)
  have B2 := Lib.hid (oriC_33 b hb)
  have HF : Hid (lessO a b = decide (orS [Lib.compareBytes a.d b.d, cmpS a.l b.l, cmpS a.r b.r] < 0)) := Lib.hid rfl
  clear ha hb
  go_enter Tryd.func7, Tryd.ntmps7
  go_upto_region 1 with (fail)
  have hI := (hR.new (l := oriC a) _ 27 rfl rfl).new (l := oriC b) (g := w.heap.size + 1) _ 27 (by simp) rfl
  obtain ⟨x, hx⟩ : ∃ x, x = Lib.compareBytes a.d b.d := ⟨_, rfl⟩
  obtain ⟨y, hy⟩ : ∃ y, y = cmpS a.l b.l := ⟨_, rfl⟩
  obtain ⟨z, hz⟩ : ∃ z, z = cmpS a.r b.r := ⟨_, rfl⟩
  have HX := Lib.hid hx.symm
  have HY := Lib.hid hy.symm
  have HZ := Lib.hid hz.symm
  clear hx hy hz
  refine wp_region_hops 16 [5, 6, 7, 8, 9, 10, 11, 12, 13, 14, 15, 16, 17, 18, 19, 20] _
    [.eq (.pointer (some ⟨w.heap.size, 0, none⟩)), .eq (.slice (some ⟨w.heap.size, 0, none⟩) 32 32), .eq (.pointer (some ⟨w.heap.size + 1, 0, none⟩)), .eq (.slice (some ⟨w.heap.size + 1, 0, none⟩) 32 32), .eq (iv x), .eq (.pointer (some ⟨w.heap.size, 32, none⟩)), .eq (.string a.l), .eq (.pointer (some ⟨w.heap.size + 1, 32, none⟩)), .eq (.string b.l), .eq (iv y), .eq (.pointer (some ⟨w.heap.size, 33, none⟩)), .eq (.string a.r), .eq (.pointer (some ⟨w.heap.size + 1, 33, none⟩)), .eq (.string b.r), .eq (iv z), .own (w.heap.size + 2) 3 1 3 [iv x, iv y, iv z]]
    (by kernel_rfl) (by kernel_rfl) hI rfl ?hops ?fin
  case hops =>
    refine ⟨?_, ?_, ?_, ?_, ?_, ?_, ?_, ?_, ?_, ?_, ?_, ?_, ?_, ?_, ?_, ?_, trivial⟩
    · intro a' W hW hb hd K hK
      have b2 := hb 2 rfl
      go_simp
      exact hK _ _ (World.grownBy.refl _ _) rfl
    · intro a' W hW hb hd K hK
      have b5 : a'.tmps[5]?.getD undef = _ := hd ⟨0, .data⟩ (by simp) rfl
      go_simp
      exact hK _ _ (World.grownBy.refl _ _) rfl
    · intro a' W hW hb hd K hK
      have b3 := hb 3 rfl
      go_simp
      exact hK _ _ (World.grownBy.refl _ _) rfl
    · intro a' W hW hb hd K hK
      have b7 : a'.tmps[7]?.getD undef = _ := hd ⟨2, .data⟩ (by simp) rfl
      go_simp
      exact hK _ _ (World.grownBy.refl _ _) rfl
    · intro a' W hW hb hd K hK
      have b6 : a'.tmps[6]?.getD undef = _ := hd ⟨1, .data⟩ (by simp) rfl
      have b8 : a'.tmps[8]?.getD undef = _ := hd ⟨3, .data⟩ (by simp) rfl
      go_simp
      refine (bytesCompare_at _ _ _ _ _ _ _ a.d b.d HA.out HB.out (cell_dig (hW.at_ 1 rfl) A0.out) (cell_dig (hW.at_ 0 rfl) B0.out)).mono ?_
      rintro e w' ⟨rfl, rfl⟩
      exact hK _ _ (World.grownBy.refl _ _) (congrArg (Value.int .i64) HX.out)
    · intro a' W hW hb hd K hK
      have b2 := hb 2 rfl
      go_simp
      exact hK _ _ (World.grownBy.refl _ _) rfl
    · intro a' W hW hb hd K hK
      have cc : W.cell? ⟨w.heap.size, 32, none⟩ = _ := cell_at (hW.at_ 1 rfl) A1.out
      have b10 : a'.tmps[10]?.getD undef = _ := hd ⟨5, .data⟩ (by simp) rfl
      go_simp
      exact hK _ _ (World.grownBy.refl _ _) rfl
    · intro a' W hW hb hd K hK
      have b3 := hb 3 rfl
      go_simp
      exact hK _ _ (World.grownBy.refl _ _) rfl
    · intro a' W hW hb hd K hK
      have cc : W.cell? ⟨w.heap.size + 1, 32, none⟩ = _ := cell_at (hW.at_ 0 rfl) B1.out
      have b12 : a'.tmps[12]?.getD undef = _ := hd ⟨7, .data⟩ (by simp) rfl
      go_simp
      exact hK _ _ (World.grownBy.refl _ _) rfl
    · intro a' W hW hb hd K hK
      have b11 : a'.tmps[11]?.getD undef = _ := hd ⟨6, .data⟩ (by simp) rfl
      have b13 : a'.tmps[13]?.getD undef = _ := hd ⟨8, .data⟩ (by simp) rfl
      go_simp
      refine (Compare_str _ _ _).mono ?_
      rintro e w' ⟨rfl, rfl⟩
      exact hK _ _ (World.grownBy.refl _ _) (congrArg (Value.int .i64) HY.out)
    · intro a' W hW hb hd K hK
      have b2 := hb 2 rfl
      go_simp
      exact hK _ _ (World.grownBy.refl _ _) rfl
    · intro a' W hW hb hd K hK
      have cc : W.cell? ⟨w.heap.size, 33, none⟩ = _ := cell_at (hW.at_ 1 rfl) A2.out
      have b15 : a'.tmps[15]?.getD undef = _ := hd ⟨10, .data⟩ (by simp) rfl
      go_simp
      exact hK _ _ (World.grownBy.refl _ _) rfl
    · intro a' W hW hb hd K hK
      have b3 := hb 3 rfl
      go_simp
      exact hK _ _ (World.grownBy.refl _ _) rfl
    · intro a' W hW hb hd K hK
      have cc : W.cell? ⟨w.heap.size + 1, 33, none⟩ = _ := cell_at (hW.at_ 0 rfl) B2.out
      have b17 : a'.tmps[17]?.getD undef = _ := hd ⟨12, .data⟩ (by simp) rfl
      go_simp
      exact hK _ _ (World.grownBy.refl _ _) rfl
    · intro a' W hW hb hd K hK
      have b16 : a'.tmps[16]?.getD undef = _ := hd ⟨11, .data⟩ (by simp) rfl
      have b18 : a'.tmps[18]?.getD undef = _ := hd ⟨13, .data⟩ (by simp) rfl
      go_simp
      refine (Compare_str _ _ _).mono ?_
      rintro e w' ⟨rfl, rfl⟩
      exact hK _ _ (World.grownBy.refl _ _) (congrArg (Value.int .i64) HZ.out)
    · intro a' W hW hb hd K hK
      have b9 : a'.tmps[9]?.getD undef = _ := hd ⟨4, .data⟩ (by simp) rfl
      have b14 : a'.tmps[14]?.getD undef = _ := hd ⟨9, .data⟩ (by simp) rfl
      have b19 : a'.tmps[19]?.getD undef = _ := hd ⟨14, .data⟩ (by simp) rfl
      go_simp
      exact hK _ _ (grown_alloc _ _) ⟨by have := Cells.lt (hW.at_ 0 rfl); simp; omega, _, _, rfl, (Go.Adm.Own.lit W _ 3 (by have := Cells.lt (hW.at_ 0 rfl); omega) (by decide) rfl).cast rfl rfl⟩
  case fin =>
    intro vs W hW hv
    obtain ⟨hb2, A3, c3, e3, hown⟩ : w.heap.size + 2 ≤ W.heap.size ∧ ∃ A c, vs 15 = .slice A 3 c ∧ Go.Adm.Own W (w.heap.size + 2) 3 1 A 3 c [iv x, iv y, iv z] := hv 15 (by decide)
    clear hv hI
    simp only [putAll, List.drop_succ_cons, List.drop_zero, e3, Act.put, List.setIfInBounds_toArray, List.set_cons_succ, List.set_cons_zero]
    clear e3
    obtain ⟨ad, rfl⟩ : ∃ ad, A3 = some ad := by
      cases A3 with
      | some ad => exact ⟨ad, rfl⟩
      | none => obtain ⟨q, _, e, _⟩ := hown.rd.cell (k := 0) (by decide); cases e
    have hrd : Rd W W.heap.size 1 (some ad) [x, y, z].length ([x, y, z].map iv) := hown.rd
    have hk := (hW.at_ 2 rfl : _ ∧ _).1
    clear hown hW
    go_wp2_with (go_at_call 10; refine (Or_any _ _ _ [x, y, z] c3 hrd (by simp)).mono ?_; rintro e w' ⟨rfl, rfl⟩)
    go_ret
    exact ⟨ret_bool (by rw [HF.out, HX.out, HY.out, HZ.out]), hk⟩
set_option maxHeartbeats 3200000 in
theorem roLess_any (w : World) (a b : Ori) (ha : a.d.length = 32) (hb : b.d.length = 32) :
    Calls Tryd.prog 8 #[.agg (oriC a).toArray, .agg (oriC b).toArray] w fun e w' => e = .returned (.bool (rlessO a b)) ∧ Below w.heap.size w w' := by
  have hR : All w [.kept w w.heap.size] := ⟨⟨Below.refl _ _, Nat.le_refl _⟩, trivial⟩
  have HA := Lib.hid ha
  have HB := Lib.hid hb
  have A0 := Lib.hid (oriC_0 a ha)
  have B0 := Lib.hid (oriC_0 b hb)
  have A1 := Lib.hid (oriC_32 a ha)
  have B1 := Lib.hid (oriC_32 b hb)
  have A2 := Lib.hid (oriC_33 a ha)
  have B2 := Lib.hid (oriC_33 b hb)
  clear ha hb
  go_enter Tryd.func8, Tryd.ntmps8
  go_upto_region 1 with (fail)
  refine wp_gen ((hR.new (l := oriC a) _ 27 rfl rfl).new (l := oriC b) (g := w.heap.size + 1) _ 27 (by simp) rfl) ?_
  intro W hW
  have c1 := cell_at (hW.at_ 1 rfl) A1.out
  have c2 := cell_at (hW.at_ 1 rfl) A2.out
  have c3 := cell_at (hW.at_ 0 rfl) B1.out
  have c4 := cell_at (hW.at_ 0 rfl) B2.out
  have r1 := Lib.hid (cell_dig (hW.at_ 1 rfl) A0.out)
  have r2 := Lib.hid (cell_dig (hW.at_ 0 rfl) B0.out)
  have hne := fun w => ne_dg w a.d b.d HA.out HB.out
  by_cases hd : a.d = b.d
  · have d1 : (!decide (a.d = b.d)) = false := by simp [hd]
    have HF : Hid (rlessO a b = if a.l.toList = b.l.toList then Op.bytesLess a.r.toList b.r.toList else Op.bytesLess a.l.toList b.l.toList) := Lib.hid (by unfold rlessO; rw [if_pos hd])
    rw [d1] at hne
    clear hd d1 hR
    by_cases hl : a.l.toList = b.l.toList
    · have d2 : (!(a.l.toList == b.l.toList)) = false := by simp [hl]
      have HF2 := Lib.hid (HF.out.trans (if_pos hl))
      clear hl
      go_wp2_with (first | (refine wl_load_any rfl 23 (.tmp 5) rfl ⟨w.heap.size, 0, none⟩ rfl (a.d.map bv) _ r1.out Tryd.underlying23 rfl (by rw [List.length_map, HA.out]; kernel_rfl) ?_) | (refine wl_load_any rfl 23 (.tmp 7) rfl ⟨w.heap.size + 1, 0, none⟩ rfl (b.d.map bv) _ r2.out Tryd.underlying23 rfl (by rw [List.length_map, HB.out]; kernel_rfl) ?_))
      all_goals first
        | (go_ret; exact ⟨ret_bool (by rw [HF2.out]), (hW.at_ 2 rfl : _ ∧ _).1⟩)
        | skip
    · have d2 : (!(a.l.toList == b.l.toList)) = true := by simp [hl]
      have HF2 := Lib.hid (HF.out.trans (if_neg hl))
      clear hl
      go_wp2_with (first | (refine wl_load_any rfl 23 (.tmp 5) rfl ⟨w.heap.size, 0, none⟩ rfl (a.d.map bv) _ r1.out Tryd.underlying23 rfl (by rw [List.length_map, HA.out]; kernel_rfl) ?_) | (refine wl_load_any rfl 23 (.tmp 7) rfl ⟨w.heap.size + 1, 0, none⟩ rfl (b.d.map bv) _ r2.out Tryd.underlying23 rfl (by rw [List.length_map, HB.out]; kernel_rfl) ?_))
      all_goals first
        | (go_ret; exact ⟨ret_bool (by rw [HF2.out]), (hW.at_ 2 rfl : _ ∧ _).1⟩)
        | skip
  · have d1 : (!decide (a.d = b.d)) = true := by simp [hd]
    have HF : Hid (rlessO a b = lessD a.d b.d) := Lib.hid (by unfold rlessO; rw [if_neg hd])
    rw [d1] at hne
    clear hd d1 hR
    go_wp2_with (first | (refine wl_load_any rfl 23 (.tmp 5) rfl ⟨w.heap.size, 0, none⟩ rfl (a.d.map bv) _ r1.out Tryd.underlying23 rfl (by rw [List.length_map, HA.out]; kernel_rfl) ?_) | (refine wl_load_any rfl 23 (.tmp 7) rfl ⟨w.heap.size + 1, 0, none⟩ rfl (b.d.map bv) _ r2.out Tryd.underlying23 rfl (by rw [List.length_map, HB.out]; kernel_rfl) ?_) | (refine wl_load_any rfl 23 (.tmp 10) rfl ⟨w.heap.size, 0, none⟩ rfl (a.d.map bv) _ r1.out Tryd.underlying23 rfl (by rw [List.length_map, HA.out]; kernel_rfl) ?_) | (refine wl_load_any rfl 23 (.tmp 12) rfl ⟨w.heap.size + 1, 0, none⟩ rfl (b.d.map bv) _ r2.out Tryd.underlying23 rfl (by rw [List.length_map, HB.out]; kernel_rfl) ?_) | (go_at_call 13; refine (Less_any _ a.d b.d HA.out HB.out).mono ?_; rintro e w' ⟨rfl, hb'⟩))
    go_ret
    exact ⟨ret_bool (by rw [HF.out]), ((hW.call hb').at_ 2 rfl : _ ∧ _).1⟩
set_option maxHeartbeats 3200000 in
theorem Origin_any (w : World) (x : Rls) (ha : x.a.length = 32) (hd : x.d.length = 32) :
    Calls Tryd.prog 4 #[.agg (rlsC x).toArray] w fun e w' => e = .returned (.agg (oriC x.ori).toArray) ∧ Below w.heap.size w w' := by
  have hR : All w [.kept w w.heap.size] := ⟨⟨Below.refl _ _, Nat.le_refl _⟩, trivial⟩
  have HD := Lib.hid hd
  have X0 := Lib.hid (rls_d x ha hd)
  have X1 := Lib.hid (rls_l x ha hd)
  have X2 := Lib.hid (rls_r x ha hd)
  have hfo : Instr.fill (#[(0, 32), (32, 1), (33, 1)][·]?) oriZ.toArray [(0, .agg (x.d.map bv).toArray), (1, .string x.l), (2, .string x.r)] = some (oriC x.ori).toArray := fill_ori x.ori hd
  have hol := oriC_len x.ori hd
  have hon : ∀ v ∈ oriC x.ori, v.oneCell' = true := by
    intro v hv
    unfold oriC at hv
    rw [List.mem_append] at hv
    rcases hv with hv | hv
    · exact bv_one _ v hv
    · simp at hv; rcases hv with rfl | rfl <;> rfl
  obtain ⟨R, hRo⟩ : ∃ R, R = oriC x.ori := ⟨_, rfl⟩
  rw [← hRo] at hfo hol hon
  have HFO := Lib.hid hfo
  have HOL := Lib.hid hol
  have HON := Lib.hid hon
  have HRO := Lib.hid hRo
  clear hfo hol hon hRo
  have hzr := zero_ori
  clear ha hd
  go_enter Tryd.func4, Tryd.ntmps4
  go_upto_region 1 with (fail)
  refine wp_gen ((hR.new (l := rlsC x) _ 25 rfl rfl).new (l := oriZ) (g := w.heap.size + 1) _ 27 (by simp) rfl) ?_
  intro W hW
  have c1 := cell_at (hW.at_ 1 rfl) X1.out
  have c2 := cell_at (hW.at_ 1 rfl) X2.out
  have r1 := Lib.hid (cell_dig (hW.at_ 1 rfl) X0.out)
  clear hR
  go_wp2_with (first | (refine wl_load_any rfl 23 (.tmp 3) rfl ⟨w.heap.size, 32, none⟩ rfl (x.d.map bv) _ r1.out Tryd.underlying23 rfl (by rw [List.length_map, HD.out]; kernel_rfl) ?_) | (refine wl_build rfl 27 [(0, .tmp 4), (1, .tmp 6), (2, .tmp 8)] rfl _ _ #[(0, 32), (32, 1), (33, 1)] R.toArray zero_ori Tryd.underlying27 (fun w => by kernel_rfl) ?_ ?_; exact HFO.out) | (refine wl_store_at hW 0 rfl 27 (.tmp 2) _ rfl (w.heap.size + 1) _ _ R rfl rfl rfl (by rw [HOL.out]; rfl) (by rw [HOL.out]; kernel_rfl) HON.out (by simp [Apart, Res.apart] <;> omega) ?_; intro w9 hI9 hs9))
  refine bodyPost_ret (v := .agg R.toArray) ?_ rfl ⟨by rw [HRO.out], (hI9.at_ 2 rfl : _ ∧ _).1⟩
  exact results_cell_row rfl _ _ (w.heap.size + 1) 27 R.toArray (0, 0) _ rfl (hI9.at_ 0 rfl) Tryd.underlying27 rfl (by rw [List.size_toArray, HOL.out]; kernel_rfl)
set_option maxHeartbeats 3200000 in
theorem rOrigin_any (w : World) (x : Rls) (ha : x.a.length = 32) (hd : x.d.length = 32) :
    Calls Tryd.prog 6 #[.agg (rlsC x).toArray] w fun e w' => e = .returned (.agg (oriC x.ori).toArray) ∧ Below w.heap.size w w' := by
  have hR : All w [.kept w w.heap.size] := ⟨⟨Below.refl _ _, Nat.le_refl _⟩, trivial⟩
  have HD := Lib.hid hd
  have X0 := Lib.hid (rls_d x ha hd)
  have X1 := Lib.hid (rls_l x ha hd)
  have X2 := Lib.hid (rls_r x ha hd)
  have hfo : Instr.fill (#[(0, 32), (32, 1), (33, 1)][·]?) oriZ.toArray [(0, .agg (x.d.map bv).toArray), (1, .string x.l), (2, .string x.r)] = some (oriC x.ori).toArray := fill_ori x.ori hd
  have hol := oriC_len x.ori hd
  have hon : ∀ v ∈ oriC x.ori, v.oneCell' = true := by
    intro v hv
    unfold oriC at hv
    rw [List.mem_append] at hv
    rcases hv with hv | hv
    · exact bv_one _ v hv
    · simp at hv; rcases hv with rfl | rfl <;> rfl
  obtain ⟨R, hRo⟩ : ∃ R, R = oriC x.ori := ⟨_, rfl⟩
  rw [← hRo] at hfo hol hon
  have HFO := Lib.hid hfo
  have HOL := Lib.hid hol
  have HON := Lib.hid hon
  have HRO := Lib.hid hRo
  clear hfo hol hon hRo
  have hzr := zero_ori
  clear ha hd
  go_enter Tryd.func6, Tryd.ntmps6
  go_upto_region 1 with (fail)
  refine wp_gen ((hR.new (l := rlsC x) _ 25 rfl rfl).new (l := oriZ) (g := w.heap.size + 1) _ 27 (by simp) rfl) ?_
  intro W hW
  have c1 := cell_at (hW.at_ 1 rfl) X1.out
  have c2 := cell_at (hW.at_ 1 rfl) X2.out
  have r1 := Lib.hid (cell_dig (hW.at_ 1 rfl) X0.out)
  clear hR
  go_wp2_with (first | (refine wl_load_any rfl 23 (.tmp 3) rfl ⟨w.heap.size, 32, none⟩ rfl (x.d.map bv) _ r1.out Tryd.underlying23 rfl (by rw [List.length_map, HD.out]; kernel_rfl) ?_) | (refine wl_build rfl 27 [(0, .tmp 4), (1, .tmp 6), (2, .tmp 8)] rfl _ _ #[(0, 32), (32, 1), (33, 1)] R.toArray zero_ori Tryd.underlying27 (fun w => by kernel_rfl) ?_ ?_; exact HFO.out) | (refine wl_store_at hW 0 rfl 27 (.tmp 2) _ rfl (w.heap.size + 1) _ _ R rfl rfl rfl (by rw [HOL.out]; rfl) (by rw [HOL.out]; kernel_rfl) HON.out (by simp [Apart, Res.apart] <;> omega) ?_; intro w9 hI9 hs9))
  refine bodyPost_ret (v := .agg R.toArray) ?_ rfl ⟨by rw [HRO.out], (hI9.at_ 2 rfl : _ ∧ _).1⟩
  exact results_cell_row rfl _ _ (w.heap.size + 1) 27 R.toArray (0, 0) _ rfl (hI9.at_ 0 rfl) Tryd.underlying27 rfl (by rw [List.size_toArray, HOL.out]; kernel_rfl)
end Go.Proofs.YtkdblhlehagmbaaDoor

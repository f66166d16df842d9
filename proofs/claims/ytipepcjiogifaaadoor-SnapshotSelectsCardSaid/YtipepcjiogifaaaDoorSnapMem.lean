/- Entries and changes in memory: their cells, the element types, zero values, literals, equality. -/
import Derived.Test.YtipepcjiogifaaaDoorSnapSpec2
import Derived.Laws.Cover1
import Derived.Deep.Cut
import Derived.IntWalk
import Derived.Deep.QuietTactic
import Derived.BigQuiet
import Derived.Deep.RegionHeld3
set_option linter.unusedSimpArgs false
set_option linter.unusedVariables false
namespace Go.Adm
open Go Go.RowKit

def blt (a b : ByteArray) : Bool := Op.bytesLess a.toList b.toList
theorem less_irr : ∀ (a : List UInt8), Op.bytesLess a a = false
  | [] => rfl
  | x :: r => by simp [Op.bytesLess, less_irr r]
theorem less_tot : ∀ (a b : List UInt8), a ≠ b → Op.bytesLess a b = true ∨ Op.bytesLess b a = true
  | [], [], h => absurd rfl h
  | [], _ :: _, _ => .inl rfl
  | _ :: _, [], _ => .inr rfl
  | x :: r, y :: s, h => by
    by_cases hxy : x = y
    · subst hxy
      have hne : r ≠ s := fun e => h (by rw [e])
      rcases less_tot r s hne with h1 | h1
      · left; simp [Op.bytesLess, h1]
      · right; simp [Op.bytesLess, h1]
    · have ht : x < y ∨ y < x := by
        rcases Nat.lt_trichotomy x.toNat y.toNat with h1 | h1 | h1
        · exact .inl (UInt8.lt_iff_toNat_lt.2 h1)
        · exact absurd (UInt8.toNat_inj.1 h1) hxy
        · exact .inr (UInt8.lt_iff_toNat_lt.2 h1)
      rcases ht with h1 | h1
      · left; simp [Op.bytesLess, h1]
      · right; simp [Op.bytesLess, h1]
theorem less_tr : ∀ (a b c : List UInt8), Op.bytesLess a b = true → Op.bytesLess b c = true → Op.bytesLess a c = true
  | _, [], _, h, _ => by simp [Op.bytesLess] at h
  | _, _ :: _, [], _, h => by simp [Op.bytesLess] at h
  | [], _ :: _, _ :: _, _, _ => rfl
  | x :: a, y :: b, z :: c, h1, h2 => by
    simp only [Op.bytesLess, Bool.or_eq_true, Bool.and_eq_true, decide_eq_true_eq, beq_iff_eq] at h1 h2 ⊢
    rcases h1 with h1 | ⟨rfl, h1⟩ <;> rcases h2 with h2 | ⟨rfl, h2⟩
    · left
      rw [UInt8.lt_iff_toNat_lt] at *
      omega
    · exact .inl h1
    · exact .inl h2
    · exact .inr ⟨rfl, less_tr a b c h1 h2⟩
theorem toList_inj {a b : ByteArray} (h : a.toList = b.toList) : a = b := by
  rw [ByteArray.toList_eq, ByteArray.toList_eq] at h
  cases a; cases b
  simp only at h
  congr 1
  exact Array.toList_inj.1 h
theorem sto_blt : Sto blt where
  irr a := less_irr _
  tr a b c := less_tr _ _ _
  tot a b h := less_tot _ _ fun e => h (toList_inj e)
def entEq (x y : Ent ByteArray (List UInt8)) : Bool := x.p.toList == y.p.toList && x.d == y.d
def chgEq (x y : Chg ByteArray (List UInt8)) : Bool := x.p.toList == y.p.toList && (x.o == y.o && x.n == y.n)
theorem entEq_iff (x y : Ent ByteArray (List UInt8)) : entEq x y = true ↔ x = y := by
  cases x; cases y
  simp only [entEq, Bool.and_eq_true, beq_iff_eq, Ent.mk.injEq]
  exact ⟨fun ⟨h1, h2⟩ => ⟨toList_inj h1, h2⟩, fun ⟨h1, h2⟩ => ⟨by rw [h1], h2⟩⟩
theorem chgEq_iff (x y : Chg ByteArray (List UInt8)) : chgEq x y = true ↔ x = y := by
  cases x; cases y
  simp only [chgEq, Bool.and_eq_true, beq_iff_eq, Chg.mk.injEq]
  exact ⟨fun ⟨h1, h2, h3⟩ => ⟨toList_inj h1, h2, h3⟩, fun ⟨h1, h2, h3⟩ => ⟨by rw [h1], h2, h3⟩⟩
theorem toList_beq (a b : ByteArray) : (a.toList == b.toList) = decide (a = b) := by
  by_cases h : a = b
  · subst h; simp
  · rw [decide_eq_false h]
    simp only [beq_eq_false_iff_ne]
    exact fun e => h (toList_inj e)
abbrev E := Ent ByteArray (List UInt8)
abbrev C := Chg ByteArray (List UInt8)
def z32 : List UInt8 := List.replicate 32 0
def entC (e : E) : List Value := sv e.p :: e.d.map bv
def chgC (c : C) : List Value := sv c.p :: (c.o.map bv ++ c.n.map bv)
def E32 (e : E) : Prop := e.d.length = 32 ∧ e.p.size ≤ 140737488355328
def C32 (c : C) : Prop := c.o.length = 32 ∧ c.n.length = 32 ∧ c.p.size ≤ 140737488355328
theorem entC_len {e : E} (h : E32 e) : (entC e).length = 33 := by simp [entC]; exact h.1
theorem chgC_len {c : C} (h : C32 c) : (chgC c).length = 65 := by simp [chgC, h.1, h.2.1]
theorem z32_len : z32.length = 32 := rfl
theorem cre_32 {e : E} (h : E32 e) : C32 (cre z32 e) := ⟨rfl, h⟩
theorem inv_32 {c : C} (h : C32 c) : C32 (invC c) := ⟨h.2.1, h.1, h.2.2⟩
def entZ : List Value := sv ByteArray.empty :: List.replicate 32 (Value.int .u8 0)
def chgZ : List Value := sv ByteArray.empty :: List.replicate 64 (Value.int .u8 0)
theorem entC_one (e : E) : ∀ v ∈ entC e, v.oneCell' = true := by
  intro v hv
  rcases List.mem_cons.1 hv with rfl | h
  · rfl
  · exact bv_one _ _ h
theorem chgC_one (c : C) : ∀ v ∈ chgC c, v.oneCell' = true := by
  intro v hv
  rcases List.mem_cons.1 hv with rfl | h
  · rfl
  · rcases List.mem_append.1 h with h | h
    · exact bv_one _ _ h
    · exact bv_one _ _ h
theorem entC_take (e : E) : (entC e).drop 1 = e.d.map bv := rfl
theorem chgC_old {c : C} (h : C32 c) : ((chgC c).drop 1).take 32 = c.o.map bv := by
  show (c.o.map bv ++ c.n.map bv).take 32 = _
  rw [List.take_append_of_le_length (by rw [List.length_map, h.1]; omega), List.take_of_length_le (by rw [List.length_map, h.1]; omega)]
theorem chgC_new {c : C} (h : C32 c) : (chgC c).drop 33 = c.n.map bv := by
  show (c.o.map bv ++ c.n.map bv).drop 32 = _
  rw [List.drop_append, List.drop_eq_nil_of_le (by rw [List.length_map, h.1]; omega), List.length_map, h.1]
  rfl
theorem chgs_len {l : List C} (h : ∀ c ∈ l, C32 c) : ∀ e ∈ l.map chgC, e.length = 65 := by
  intro e he
  obtain ⟨c, hc, rfl⟩ := List.mem_map.1 he
  exact chgC_len (h c hc)
theorem ents_len {l : List E} (h : ∀ c ∈ l, E32 c) : ∀ e ∈ l.map entC, e.length = 33 := by
  intro e he
  obtain ⟨c, hc, rfl⟩ := List.mem_map.1 he
  exact entC_len (h c hc)
/-- an element of a slice of structs, where it lies -/
theorem Els.elem {α : Type} {w : World} {B n size : Nat} {A : Option Addr} {f : α → List Value} {l : List α} (h : Els w B size A n (l.map f)) {k : Nat} (hk : k < l.length) :
    ∃ ad, A = some ad ∧ ad.block < B ∧ ∀ j u, (f l[k])[j]? = some u → w.cell? ((ad.add (k * size)).add j) = some u := by
  obtain ⟨ad, e, hb, hc⟩ := h.at_ (k := k) (by rw [List.length_map]; exact hk)
  rw [List.getElem_map] at hc
  exact ⟨ad, e, hb, hc⟩
theorem fill_ent (s : ByteArray) (d : List UInt8) (hd : d.length = 32) : Instr.fill (#[(0, 1), (1, 32)][·]?) entZ.toArray [(0, .string s), (1, .agg (d.map bv).toArray)] = some (entC ⟨s, d⟩).toArray := by
  refine (fill_step (off := 0) (size := 1) (es := [.string s]) (pre := []) (old := [sv ByteArray.empty]) (post := List.replicate 32 (Value.int .u8 0)) rfl rfl rfl rfl rfl rfl).trans ?_
  refine (fill_step (off := 1) (size := 32) (es := d.map bv) (pre := [.string s]) (old := List.replicate 32 (Value.int .u8 0)) (post := []) rfl (by simp) rfl rfl rfl (by simp [hd])).trans ?_
  simp [Instr.fill, entC, sv]
theorem chgZ_eq : chgZ = [sv ByteArray.empty] ++ (List.replicate 32 (Value.int .u8 0) ++ List.replicate 32 (Value.int .u8 0)) := rfl
theorem fill_chg02 (s : ByteArray) (d : List UInt8) (hd : d.length = 32) : Instr.fill (#[(0, 1), (1, 32), (33, 32)][·]?) chgZ.toArray [(0, .string s), (2, .agg (d.map bv).toArray)] = some (chgC ⟨s, z32, d⟩).toArray := by
  refine (fill_step (off := 0) (size := 1) (es := [.string s]) (pre := []) (old := [sv ByteArray.empty]) (post := List.replicate 32 (Value.int .u8 0) ++ List.replicate 32 (Value.int .u8 0)) rfl rfl rfl rfl rfl rfl).trans ?_
  refine (fill_step (off := 33) (size := 32) (es := d.map bv) (pre := [.string s] ++ List.replicate 32 (Value.int .u8 0)) (old := List.replicate 32 (Value.int .u8 0)) (post := []) rfl (by simp) rfl rfl rfl (by simp [hd])).trans ?_
  simp only [Instr.fill, List.append_nil, List.cons_append, List.nil_append]
  rfl
theorem fill_chg01 (s : ByteArray) (d : List UInt8) (hd : d.length = 32) : Instr.fill (#[(0, 1), (1, 32), (33, 32)][·]?) chgZ.toArray [(0, .string s), (1, .agg (d.map bv).toArray)] = some (chgC ⟨s, d, z32⟩).toArray := by
  refine (fill_step (off := 0) (size := 1) (es := [.string s]) (pre := []) (old := [sv ByteArray.empty]) (post := List.replicate 32 (Value.int .u8 0) ++ List.replicate 32 (Value.int .u8 0)) rfl rfl rfl rfl rfl rfl).trans ?_
  refine (fill_step (off := 1) (size := 32) (es := d.map bv) (pre := [.string s]) (old := List.replicate 32 (Value.int .u8 0)) (post := List.replicate 32 (Value.int .u8 0)) rfl rfl rfl rfl rfl (by simp [hd])).trans ?_
  simp only [Instr.fill, List.append_nil, List.cons_append, List.nil_append]
  rfl
theorem fill_chg012 (s : ByteArray) (d d' : List UInt8) (hd : d.length = 32) (hd' : d'.length = 32) : Instr.fill (#[(0, 1), (1, 32), (33, 32)][·]?) chgZ.toArray [(0, .string s), (1, .agg (d.map bv).toArray), (2, .agg (d'.map bv).toArray)] = some (chgC ⟨s, d, d'⟩).toArray := by
  refine (fill_step (off := 0) (size := 1) (es := [.string s]) (pre := []) (old := [sv ByteArray.empty]) (post := List.replicate 32 (Value.int .u8 0) ++ List.replicate 32 (Value.int .u8 0)) rfl rfl rfl rfl rfl rfl).trans ?_
  refine (fill_step (off := 1) (size := 32) (es := d.map bv) (pre := [.string s]) (old := List.replicate 32 (Value.int .u8 0)) (post := List.replicate 32 (Value.int .u8 0)) rfl rfl rfl rfl rfl (by simp [hd])).trans ?_
  refine (fill_step (off := 33) (size := 32) (es := d'.map bv) (pre := [.string s] ++ d.map bv) (old := List.replicate 32 (Value.int .u8 0)) (post := []) rfl (by simp) (by simp [hd]) rfl rfl (by simp [hd'])).trans ?_
  simp only [Instr.fill, List.append_nil, List.cons_append, List.nil_append]
  rfl
end Go.Adm
namespace Go.Proofs.YtipepcjiogifaaaDoor
open Go Go.RowKit Go.Adm

theorem zero_ent (w : World) : (zeroValue 50).run Tryd.prog w = .ok (.agg entZ.toArray) w := by kernel_rfl
theorem zero_chg (w : World) : (zeroValue 57).run Tryd.prog w = .ok (.agg chgZ.toArray) w := by kernel_rfl
theorem el_ent : ElemOf Tryd.prog 22 50 (.agg entZ.toArray) 33 48 := ElemOf.mk' Tryd.underlying22 (by kernel_rfl) rfl (by decide) (by decide)
theorem el_chg : ElemOf Tryd.prog 58 57 (.agg chgZ.toArray) 65 80 := ElemOf.mk' Tryd.underlying58 (by kernel_rfl) rfl (by decide) (by decide)
theorem eq_dg (w : World) (x y : List UInt8) (hx : x.length = 32) (hy : y.length = 32) : (binOp .eql 40 (.agg (x.map bv).toArray) (.agg (y.map bv).toArray)).run Tryd.prog w = .ok (.bool (decide (x = y))) w :=
  run_eq_deep w 2 40 (by decide) (by kernel_rfl) (by simp only [Value.formed, Tryd.underlying40, List.size_toArray, List.length_map, hx]; kernel_rfl) (by simp only [Value.formed, Tryd.underlying40, List.size_toArray, List.length_map, hy]; kernel_rfl)
    (kl_bytes Tryd.underlying40 Tryd.underlying5 (by kernel_rfl) (by kernel_rfl) x hx) (kl_bytes Tryd.underlying40 Tryd.underlying5 (by kernel_rfl) (by kernel_rfl) y hy) _ (by
      rw [decide_eq_true_eq]
      exact ⟨fun h => by rw [h], map_bl_inj⟩)
theorem ne_dg (w : World) (x y : List UInt8) (hx : x.length = 32) (hy : y.length = 32) : (binOp .neq 40 (.agg (x.map bv).toArray) (.agg (y.map bv).toArray)).run Tryd.prog w = .ok (.bool (!decide (x = y))) w := by
  have h := eq_dg w x y hx hy
  rw [show binOp .neq 40 (.agg (x.map bv).toArray) (.agg (y.map bv).toArray) = _ from rfl]
  rw [run_neq_struct]
  rw [run_eql_struct] at h
  revert h
  generalize (Op.equalIn 10000 40 _ _).run Tryd.prog w = q
  intro h
  cases q with
  | ok b w' =>
    simp only [Result.andThen, Result.ok.injEq, Value.bool.injEq] at h ⊢
    exact ⟨by rw [h.1], h.2⟩
  | _ => simp [Result.andThen] at h
theorem kl_str {P : Program} {e : TypeId} (he : P.underlying e = some .string) (s : ByteArray) (hs : s.size ≤ 140737488355328) (d : Nat) : P.keyLits (d + 1) e [sv s] = some [.string s.data.toList] := by
  unfold Program.keyLits
  rw [he]
  simp only [sv]
  rw [if_pos (by unfold maxLen; omega)]
theorem kl_ent (e : E) (h : E32 e) : Tryd.prog.keyLits 3 50 (entC e) = some (.string e.p.data.toList :: e.d.map bl) := by
  have e1 : (entC e).take 1 = [sv e.p] := rfl
  have e2 : (entC e).tail.take 32 = e.d.map bv := by rw [entC, List.tail_cons, List.take_of_length_le (by simp [h.1])]
  have k1 := kl_bytes (P := Tryd.prog) Tryd.underlying40 Tryd.underlying5 (by kernel_rfl) (by kernel_rfl) e.d h.1
  have k2 := kl_str (P := Tryd.prog) Tryd.underlying9 e.p h.2 1
  have c1 : Tryd.prog.cellsOf 50 = 33 := by kernel_rfl
  have c2 : Tryd.prog.cellsOf 40 = 32 := by kernel_rfl
  have c3 : Tryd.prog.cellsOf 9 = 1 := by kernel_rfl
  unfold Program.keyLits
  rw [Tryd.underlying50]
  simp [entC_len h, c1, c2, c3, List.mapM_cons, e2, k1, k2, e1]
theorem kl_chg (c : C) (h : C32 c) : Tryd.prog.keyLits 3 57 (chgC c) = some (.string c.p.data.toList :: (c.o.map bl ++ c.n.map bl)) := by
  have e1 : (chgC c).take 1 = [sv c.p] := rfl
  have e2 : (chgC c).tail.take 32 = c.o.map bv := by have := chgC_old h; rwa [List.drop_one] at this
  have e3 : ((chgC c).drop 33).take 32 = c.n.map bv := by rw [chgC_new h, List.take_of_length_le (by simp [h.2.1])]
  have k1 := kl_bytes (P := Tryd.prog) Tryd.underlying40 Tryd.underlying5 (by kernel_rfl) (by kernel_rfl) c.o h.1
  have k3 := kl_bytes (P := Tryd.prog) Tryd.underlying40 Tryd.underlying5 (by kernel_rfl) (by kernel_rfl) c.n h.2.1
  have k2 := kl_str (P := Tryd.prog) Tryd.underlying9 c.p h.2.2 1
  have c1 : Tryd.prog.cellsOf 57 = 65 := by kernel_rfl
  have c2 : Tryd.prog.cellsOf 40 = 32 := by kernel_rfl
  have c3 : Tryd.prog.cellsOf 9 = 1 := by kernel_rfl
  unfold Program.keyLits
  rw [Tryd.underlying57]
  simp [chgC_len h, c1, c2, c3, List.mapM_cons, e2, e3, k1, k2, k3, e1]
theorem fm_ent (e : E) (h : E32 e) : (Value.agg (entC e).toArray).formed Tryd.prog 50 = true := by
  have hl := entC_len h
  generalize entC e = l at *
  have hc : Tryd.prog.cellsOf 50 = 33 := by kernel_rfl
  simp [Value.formed, Tryd.underlying50, hl, hc]
theorem fm_chg (c : C) (h : C32 c) : (Value.agg (chgC c).toArray).formed Tryd.prog 57 = true := by
  have hl := chgC_len h
  generalize chgC c = l at *
  have hc : Tryd.prog.cellsOf 57 = 65 := by kernel_rfl
  simp [Value.formed, Tryd.underlying57, hl, hc]
theorem ent_inj {x y : E} (h : (Lit.string x.p.data.toList :: x.d.map bl) = (.string y.p.data.toList :: y.d.map bl)) : x = y := by
  injection h with h1 h2
  injection h1 with h1
  cases x; cases y
  simp only at h1 h2
  rw [map_bl_inj h2]
  congr 1
  exact toList_inj (by rw [ByteArray.toList_eq, ByteArray.toList_eq]; exact h1)
theorem chg_inj {x y : C} (hx : C32 x) (hy : C32 y) (h : (Lit.string x.p.data.toList :: (x.o.map bl ++ x.n.map bl)) = (.string y.p.data.toList :: (y.o.map bl ++ y.n.map bl))) : x = y := by
  injection h with h1 h2
  injection h1 with h1
  obtain ⟨h3, h4⟩ := List.append_inj h2 (by rw [List.length_map, List.length_map, hx.1, hy.1])
  cases x; cases y
  simp only at h1 h3 h4
  rw [map_bl_inj h3, map_bl_inj h4]
  congr 1
  exact toList_inj (by rw [ByteArray.toList_eq, ByteArray.toList_eq]; exact h1)
theorem ne_ent (w : World) (x y : E) (hx : E32 x) (hy : E32 y) : (binOp .neq 50 (.agg (entC x).toArray) (.agg (entC y).toArray)).run Tryd.prog w = .ok (.bool (!entEq x y)) w := by
  have h := run_eq_deep w 3 50 (by decide) (by kernel_rfl) (fm_ent x hx) (fm_ent y hy) (kl_ent x hx) (kl_ent y hy) (entEq x y) (by
    rw [entEq_iff]
    exact ⟨fun h => by rw [h], ent_inj⟩)
  rw [run_eql_struct] at h
  rw [run_neq_struct]
  revert h
  generalize (Op.equalIn 10000 50 _ _).run Tryd.prog w = q
  intro h
  cases q with
  | ok b w' =>
    simp only [Result.andThen, Result.ok.injEq, Value.bool.injEq] at h ⊢
    exact ⟨by rw [h.1], h.2⟩
  | _ => simp [Result.andThen] at h
theorem eq_ent (w : World) (x y : E) (hx : E32 x) (hy : E32 y) : (binOp .eql 50 (.agg (entC x).toArray) (.agg (entC y).toArray)).run Tryd.prog w = .ok (.bool (entEq x y)) w :=
  run_eq_deep w 3 50 (by decide) (by kernel_rfl) (fm_ent x hx) (fm_ent y hy) (kl_ent x hx) (kl_ent y hy) (entEq x y) (by
    rw [entEq_iff]
    exact ⟨fun h => by rw [h], ent_inj⟩)
theorem ne_chg (w : World) (x y : C) (hx : C32 x) (hy : C32 y) : (binOp .neq 57 (.agg (chgC x).toArray) (.agg (chgC y).toArray)).run Tryd.prog w = .ok (.bool (!chgEq x y)) w := by
  have h := run_eq_deep w 3 57 (by decide) (by kernel_rfl) (fm_chg x hx) (fm_chg y hy) (kl_chg x hx) (kl_chg y hy) (chgEq x y) (by
    rw [chgEq_iff]
    exact ⟨fun h => by rw [h], chg_inj hx hy⟩)
  rw [run_eql_struct] at h
  rw [run_neq_struct]
  revert h
  generalize (Op.equalIn 10000 57 _ _).run Tryd.prog w = q
  intro h
  cases q with
  | ok b w' =>
    simp only [Result.andThen, Result.ok.injEq, Value.bool.injEq] at h ⊢
    exact ⟨by rw [h.1], h.2⟩
  | _ => simp [Result.andThen] at h
end Go.Proofs.YtipepcjiogifaaaDoor

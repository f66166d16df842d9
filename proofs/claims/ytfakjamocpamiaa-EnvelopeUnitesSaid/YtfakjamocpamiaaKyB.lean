/- onetime.base4 yields the four digits of a byte. onetime.Digits. The reference's Digits. -/
import Derived.Test.YtfakjamocpamiaaKyA
import Derived.Test.YtfakjamocpamiaaGen2
import Derived.RangeFuncNested
import Derived.RangeFuncBound
import Derived.RangeFuncCalls
import Derived.RangeFuncLeaves
import Derived.Shelf.Abstract
import Derived.Shelf.RegionOpen
import Derived.OwnWalkIn
import Derived.TacticsInMore
import Derived.LoopNIn
import Derived.LoopIn
set_option linter.unusedSimpArgs false
set_option linter.unusedVariables false
namespace Go.Adm
open Go Go.RowKit
def dig4 (b : UInt8) : List (Fin 4) := [Fin.ofNat 4 (b.toNat / 64), Fin.ofNat 4 (b.toNat / 16), Fin.ofNat 4 (b.toNat / 4), Fin.ofNat 4 b.toNat]
theorem and3 (b : UInt8) (m : Nat) : bits .and .u8 ((b.toNat : Int) / m) 3 = (((Fin.ofNat 4 (b.toNat / m)).val : Nat) : Int) := by
 have h := b.toNat_lt
 have h2 : b.toNat / m ≤ b.toNat := Nat.div_le_self _ _
 have e : ((b.toNat : Int) / m) = ((b.toNat / m : Nat) : Int) := by simp
 rw [e, show (3 : Int) = ((3 : Nat) : Int) from rfl, u8_and_nat _ _ (by omega) (by omega)]
 have h3 : b.toNat / m &&& 3 = b.toNat / m % 4 := Nat.and_two_pow_sub_one_eq_mod _ 2
 rw [h3]
 rfl
theorem dig4_len (b : UInt8) : (dig4 b).length = 4 := rfl
end Go.Adm
namespace Go.Proofs.Ytfakjamocpamiaa
open Go Go.RowKit Go.Adm Go.Shelf
attribute [local go_sem] Oper.semAt_some

theorem base4_any (w : World) (b : UInt8) :
  Calls Try.prog 103 #[.int .u8 b.toNat] w fun e w' => e = .returned (.func (.func 108) #[] #[.pointer (some ⟨w.heap.size, 0, none⟩)]) ∧ w' = w.alloc (.cells #[.int .u8 b.toNat] 5) := by
 go_enter Try.func103, Try.ntmps103
 go_wp2
 go_ret
 exact ⟨rfl, rfl⟩

set_option maxHeartbeats 1600000 in
theorem base4_stops (F : Fence) (n : Nat) (hF : F.fn 108) (hro : F.round = none) (hn : 1 ≤ n) (gb : Nat) (b : UInt8) (w : World) (hgb : gb < w.heap.size) (hc : w.cell? ⟨gb, 0, none⟩ = some (.int .u8 b.toNat)) :
  SeqStopsK F n Try.prog 108 #[.pointer (some ⟨gb, 0, none⟩)] (fun x : Fin 4 => #[.int .i64 ((x.val : Nat) : Int)]) (fun W W' => W'.cell? ⟨gb, 0, none⟩ = W.cell? ⟨gb, 0, none⟩) (fun xs => xs = dig4 b) (fun _ => True) 4 w := by
 intro l J Jx W hW hJ hJx hY h0
 have hcW : W.cell? ⟨gb, 0, none⟩ = some (.int .u8 b.toNat) := (hW.cell (p := ⟨gb, 0, none⟩) hgb).trans hc
 have hb := b.toNat_lt
 have e0 : bits .and .u8 ((b.toNat : Int) / 64) 3 = _ := and3 b 64
 have e1 : bits .and .u8 ((b.toNat : Int) / 16) 3 = _ := and3 b 16
 have e2 : bits .and .u8 ((b.toNat : Int) / 4) 3 = _ := and3 b 4
 have e3 := and3 b 1
 have hd0 : dig4 b = [Fin.ofNat 4 (b.toNat / 64), Fin.ofNat 4 (b.toNat / 16), Fin.ofNat 4 (b.toNat / 4), Fin.ofNat 4 (b.toNat / 1)] := by simp [dig4]
 rw [show (((1 : Nat) : Int)) = 1 from rfl, Int.ediv_one] at e3
 generalize Fin.ofNat 4 (b.toNat / 64) = x0 at *
 generalize Fin.ofNat 4 (b.toNat / 16) = x1 at *
 generalize Fin.ofNat 4 (b.toNat / 4) = x2 at *
 generalize Fin.ofNat 4 (b.toNat / 1) = x3 at *
 have hd : dig4 b = [x0, x1, x2, x3] := hd0
 clear hd0
 have l0 := x0.isLt
 have l1 := x1.isLt
 have l2 := x2.isLt
 have l3 := x3.isLt
 refine callsIn_of_wp Try.func108 rfl hF ?_ hro
 simp only [Try.ntmps108, List.size_toArray, List.length_cons, List.length_nil, Nat.reduceAdd, Nat.reduceSub, Array.replicate_succ, Array.replicate_zero, List.push_toArray, List.append_toArray, List.nil_append, List.cons_append]
 gi_wp2
 gi_loopw [3] (fun p wr => ∃ j : Nat, j ≤ 4 ∧ p = .int .i64 (6 - 2 * (j : Int)) ∧ J ((dig4 b).take j) wr ∧ wr.cell? ⟨gb, 0, none⟩ = some (.int .u8 b.toNat)) (fun p _ => (intOf p + 2).toNat)
 case atStart => exact ⟨0, by omega, rfl, h0, hcW⟩
 case round =>
  obtain ⟨j, hj, rfl, hJj, hcj⟩ := hrel
  have hjj : j = 0 ∨ j = 1 ∨ j = 2 ∨ j = 3 ∨ j = 4 := by omega
  rw [hd] at hJj
  rcases hjj with rfl | rfl | rfl | rfl | rfl
  ·obtain ⟨fn, tmps, assign, body, hy, hR⟩ := hY _ x0 wr hJj (by simp)
   gi_wp2
   refine hR.mono ?_
   rintro e W' (⟨rfl, hJ', hk'⟩ | ⟨rfl, hJx'⟩)
   ·gi_wp2
    go_roundw
    case rel => exact ⟨1, by omega, rfl, by rw [hd]; exact hJ', hk'.trans hcj⟩
    case measure => simp [intOf]
   ·gi_wp2
    refine bodyPost_ret (results_none rfl _ _ _) rfl ?_
    exact ⟨⟨_, rfl⟩, .inr ⟨_, trivial, hJx'⟩⟩
  ·obtain ⟨fn, tmps, assign, body, hy, hR⟩ := hY _ x1 wr hJj (by simp)
   gi_wp2
   refine hR.mono ?_
   rintro e W' (⟨rfl, hJ', hk'⟩ | ⟨rfl, hJx'⟩)
   ·gi_wp2
    go_roundw
    case rel => exact ⟨2, by omega, rfl, by rw [hd]; exact hJ', hk'.trans hcj⟩
    case measure => simp [intOf]
   ·gi_wp2
    refine bodyPost_ret (results_none rfl _ _ _) rfl ?_
    exact ⟨⟨_, rfl⟩, .inr ⟨_, trivial, hJx'⟩⟩
  ·obtain ⟨fn, tmps, assign, body, hy, hR⟩ := hY _ x2 wr hJj (by simp)
   gi_wp2
   refine hR.mono ?_
   rintro e W' (⟨rfl, hJ', hk'⟩ | ⟨rfl, hJx'⟩)
   ·gi_wp2
    go_roundw
    case rel => exact ⟨3, by omega, rfl, by rw [hd]; exact hJ', hk'.trans hcj⟩
    case measure => simp [intOf]
   ·gi_wp2
    refine bodyPost_ret (results_none rfl _ _ _) rfl ?_
    exact ⟨⟨_, rfl⟩, .inr ⟨_, trivial, hJx'⟩⟩
  ·obtain ⟨fn, tmps, assign, body, hy, hR⟩ := hY _ x3 wr hJj (by simp)
   gi_wp2
   refine hR.mono ?_
   rintro e W' (⟨rfl, hJ', hk'⟩ | ⟨rfl, hJx'⟩)
   ·gi_wp2
    go_roundw
    case rel => exact ⟨4, by omega, rfl, by rw [hd]; exact hJ', hk'.trans hcj⟩
    case measure => simp [intOf]
   ·gi_wp2
    refine bodyPost_ret (results_none rfl _ _ _) rfl ?_
    exact ⟨⟨_, rfl⟩, .inr ⟨_, trivial, hJx'⟩⟩
  ·gi_wp2
   go_end0
   exact ⟨⟨_, rfl⟩, .inl ⟨_, hd.symm, hJj⟩⟩
end Go.Proofs.Ytfakjamocpamiaa
set_option linter.unusedSimpArgs false
set_option linter.unusedVariables false
namespace Go.Adm
open Go Go.RowKit
def fv (x : Fin 4) : Value := .int .i64 ((x.val : Nat) : Int)
def digsum (l : List (Fin 4)) : Nat := (l.map fun x => 3 - x.val).sum
def digits16 (d : List UInt8) : List (Fin 4) := (d.take 16).flatMap dig4
def digitsS (d : List UInt8) : List (Fin 4) := digits16 d ++ dig4 (UInt8.ofNat (digsum (digits16 d)))
def DigPost (d : List UInt8) (w : World) (e : Ending) (w' : World) : Prop := ∃ A c, e = .returned (.slice A 68 c) ∧ 68 ≤ c ∧ c ≤ maxLen ∧ Rd w' w'.heap.size 1 A 68 ((digitsS d).map fv) ∧ Below w.heap.size w w'
theorem digsum_snoc (l : List (Fin 4)) (x : Fin 4) : digsum (l ++ [x]) = digsum l + (3 - x.val) := by simp [digsum]
theorem digsum_le (l : List (Fin 4)) : digsum l ≤ 3 * l.length := by
 induction l with
 | nil => simp [digsum]
 | cons x l ih => simp only [digsum, List.map_cons, List.sum_cons, List.length_cons] at ih ⊢; omega
theorem digits_succ (d : List UInt8) (k : Nat) (hk : k < d.length) : (d.take (k + 1)).flatMap dig4 = (d.take k).flatMap dig4 ++ dig4 d[k] := by
 rw [List.take_succ_eq_append_getElem hk, List.flatMap_append]; simp
theorem digits_len (d : List UInt8) : (d.flatMap dig4).length = 4 * d.length := by
 induction d with
 | nil => rfl
 | cons x d ih => rw [List.flatMap_cons, List.length_append, ih, dig4_len]; simp; omega
end Go.Adm
namespace Go.Proofs.Ytfakjamocpamiaa
open Go Go.RowKit Go.Adm Go.Shelf
attribute [local go_sem] Oper.semAt_some

theorem el_int : ElemOf Try.prog 129 3 (.int .i64 0) 1 8 := ElemOf.mk' Try.underlying129 (by kernel_rfl) rfl (by decide) (by decide)
abbrev rsD (w : World) (d : List UInt8) (A : Option Addr) (c : Nat) (l : List (Fin 4)) (s : Nat) : List Res :=
 [.own (w.heap.size + 1) 3 1 A l.length c (l.map fv), .cells (w.heap.size + 1 + 1) 129 [.slice A l.length c], .cells (w.heap.size + 1 + 1 + 1) 3 [.int .i64 (s : Nat)], .cells w.heap.size 37 (d.map bv), .kept w w.heap.size]
structure DI (w : World) (d : List UInt8) (gb : Nat) (W : World) (l : List (Fin 4)) (s : Nat) (A : Option Addr) (c : Nat) : Prop where
 all : All W (rsD w d A c l s)
 ne1 : (Value.slice A l.length c).ownBlock ≠ some (w.heap.size + 1 + 1)
 ne2 : (Value.slice A l.length c).ownBlock ≠ some (w.heap.size + 1 + 1 + 1)
 ne3 : (Value.slice A l.length c).ownBlock ≠ some gb
 lt : w.heap.size + 1 + 1 + 1 < W.heap.size
 ltg : gb < W.heap.size
theorem DI.from {w : World} {d : List UInt8} {gb B : Nat} {f : List (Fin 4) → List (Fin 4)} {g : List (Fin 4) → Nat} (hB : w.heap.size ≤ B) : OwnFrom B (fun pre W => ∃ A c, DI w d gb W (f pre) (g pre) A c) := fun s W W' row ⟨A, c, h⟩ hg hr =>
 ⟨A, c, (all_from (B := B) (f := fun _ : Unit => rsD w d A c (f s) (g s)) (fun _ => ⟨trivial, trivial, trivial, trivial, hB, trivial⟩)) () W W' row h.all hg hr, h.ne1, h.ne2, h.ne3, Nat.lt_of_lt_of_le h.lt hg.size, Nat.lt_of_lt_of_le h.ltg hg.size⟩
/-- one digit more: the row has grown, the two boxes are written -/
theorem DI.more {w : World} {d : List UInt8} {gb : Nat} {W w3 : World} {l : List (Fin 4)} {s : Nat} {A A3 : Option Addr} {c c3 : Nat} {o : Obj} (h : DI w d gb W l s A c) (x : Fin 4) (hgb : w.heap.size + 1 + 1 + 1 < gb)
  (hown3 : Go.Adm.Own w3 (w.heap.size + 1) 3 1 A3 (l.length + 1) c3 (l.map fv ++ [.int .i64 ((x.val : Nat) : Int)])) (hg3 : (W.alloc o).grownBy w3 (Value.slice A l.length c).ownBlock)
  (hob3 : (Value.slice A3 (l.length + 1) c3).ownBlock = (Value.slice A l.length c).ownBlock ∨ (Value.slice A3 (l.length + 1) c3).ownBlock = some (W.alloc o).heap.size) :
  let w4 := w3.setCell ⟨w.heap.size + 1 + 1, 0, none⟩ (.slice A3 (l.length + 1) c3)
  KeepsOthers W w4 ∧ w4.cell? ⟨gb, 0, none⟩ = W.cell? ⟨gb, 0, none⟩ ∧ DI w d gb w4 (l ++ [x]) s A3 c3 := by
 intro w4
 have hown := (h.all.1 : Go.Adm.Own W (w.heap.size + 1) 3 1 A l.length c (l.map fv))
 have hsz : (W.alloc o).heap.size = W.heap.size + 1 := by simp
 have h1 := h.lt
 have h2 := h.ltg
 have hb3 : All w3 [.cells (w.heap.size + 1 + 1) 129 [.slice A l.length c], .cells (w.heap.size + 1 + 1 + 1) 3 [.int .i64 (s : Nat)], .cells w.heap.size 37 (d.map bv), .kept w w.heap.size] :=
  All.step hg3 ((h.all.erase 0).alloc o) ⟨fun e => h.ne1 e.symm, fun e => h.ne2 e.symm, fun e => by have := (hown.lt e.symm).1; omega, fun g e => by have := (hown.lt e).1; omega, trivial⟩
 have n1 : (Value.slice A3 (l.length + 1) c3).ownBlock ≠ some (w.heap.size + 1 + 1) := fun e => by
  rcases hob3 with h3 | h3
  ·exact h.ne1 (h3.symm.trans e)
  ·rw [h3] at e; injection e with e; omega
 have n2 : (Value.slice A3 (l.length + 1) c3).ownBlock ≠ some (w.heap.size + 1 + 1 + 1) := fun e => by
  rcases hob3 with h3 | h3
  ·exact h.ne2 (h3.symm.trans e)
  ·rw [h3] at e; injection e with e; omega
 have n3 : (Value.slice A3 (l.length + 1) c3).ownBlock ≠ some gb := fun e => by
  rcases hob3 with h3 | h3
  ·exact h.ne3 (h3.symm.trans e)
  ·rw [h3] at e; injection e with e; omega
 have hall3 : All w3 [.own (w.heap.size + 1) 3 1 A3 (l ++ [x]).length c3 ((l ++ [x]).map fv), .cells (w.heap.size + 1 + 1) 129 [.slice A l.length c], .cells (w.heap.size + 1 + 1 + 1) 3 [.int .i64 (s : Nat)], .cells w.heap.size 37 (d.map bv), .kept w w.heap.size] :=
  ⟨by rw [List.length_append, List.map_append]; exact hown3, hb3⟩
 have hs3 := hg3.size
 have hlx : (l ++ [x]).length = l.length + 1 := by simp
 refine ⟨((KeepsOthers.alloc W o).trans (.of_grownBy hg3 fun j o' e ho => Go.Adm.Own.isCells (Go.Adm.Own.alloc hown o) j o' e ho)).trans (.setCell _ _ _), ?_, ⟨?_, ?_, ?_, ?_, ?_, ?_⟩⟩
 ·rw [World.cell?_setCell_other w3 _ _ _ (fun e => by injection e with e; omega), World.cell?_of_block (w := W.alloc o) (hg3.block gb (by omega) (fun e => h.ne3 e.symm)), World.cell?_alloc_lt W o _ h2]
 ·have h4 := hall3.store 1 rfl 0 (.slice A3 (l ++ [x]).length c3) ⟨fun g e => by injection e with e; subst e; right; rw [hlx]; exact n1, fun e => by injection e with e; omega, fun e => by injection e with e; omega, fun g e => by injection e with e; omega, trivial⟩
  rw [hlx] at h4
  rw [show rsD w d A3 c3 (l ++ [x]) s = [.own (w.heap.size + 1) 3 1 A3 (l.length + 1) c3 ((l ++ [x]).map fv), .cells (w.heap.size + 1 + 1) 129 [.slice A3 (l.length + 1) c3], .cells (w.heap.size + 1 + 1 + 1) 3 [.int .i64 (s : Nat)], .cells w.heap.size 37 (d.map bv), .kept w w.heap.size] from by rw [← hlx]]
  exact h4
 ·rw [hlx]; exact n1
 ·rw [hlx]; exact n2
 ·rw [hlx]; exact n3
 ·show w.heap.size + 1 + 1 + 1 < (w3.setCell _ _).heap.size; rw [size_setCell]; omega
 ·show gb < (w3.setCell _ _).heap.size; rw [size_setCell]; omega
/-- the sum is written -/
theorem DI.sum {w : World} {d : List UInt8} {gb : Nat} {W : World} {l : List (Fin 4)} {s s' : Nat} {A : Option Addr} {c : Nat} (h : DI w d gb W l s A c) (v : Int) (hv : v = (s' : Nat)) (hgb : w.heap.size + 1 + 1 + 1 < gb) :
  let w4 := W.setCell ⟨w.heap.size + 1 + 1 + 1, 0, none⟩ (.int .i64 v)
  KeepsOthers W w4 ∧ w4.cell? ⟨gb, 0, none⟩ = W.cell? ⟨gb, 0, none⟩ ∧ DI w d gb w4 l s' A c := by
 subst hv
 intro w4
 refine ⟨.setCell _ _ _, World.cell?_setCell_other W _ _ _ (fun e => by injection e with e; omega), h.all.store 2 rfl 0 (.int .i64 (s' : Nat)) ⟨fun g e => by injection e with e; subst e; right; exact h.ne2, fun e => by injection e with e; omega, fun e => by injection e with e; omega, fun g e => by injection e with e; omega, trivial⟩, h.ne1, h.ne2, h.ne3, ?_, ?_⟩
 ·show _ < (W.setCell _ _).heap.size; rw [size_setCell]; exact h.lt
 ·show _ < (W.setCell _ _).heap.size; rw [size_setCell]; exact h.ltg

set_option maxRecDepth 100000 in
set_option maxHeartbeats 1600000 in
theorem Digits_any (w : World) (d : List UInt8) (hd : d.length = 32) :
  Calls Try.prog 88 #[.agg (d.map bv).toArray] w (DigPost d w) := by
 have hdl := Lib.hid hd
 clear hd
 have hR : All w [.kept w w.heap.size] := ⟨⟨Below.refl _ _, Nat.le_refl _⟩, trivial⟩
 obtain ⟨i0, hi, hz0, hz1, hz2⟩ := el_int.hi
 have hmk := fun (W : World) => run_make (P := Try.prog) W 129 3 i0 _ el_int.ht hi hz0 .i64 .i64 0 68 (by omega) (by omega) (by rw [hz2]; omega) (by omega)
 simp only [Int.toNat_natCast, hz1] at hmk
 clear hi hz0 hz1 hz2
 refine (callsIn_wide (n := 3)).1 ?_
 refine callsIn_of_wp_marks Try.func88 rfl trivial ?_
 refine wpIn_wide.2 ?_
 simp only [Try.ntmps88, List.size_toArray, List.length_cons, List.length_nil, Nat.reduceAdd, Nat.reduceSub, Array.replicate_succ, Array.replicate_zero, List.push_toArray, List.append_toArray, List.nil_append, List.cons_append]
 go_upto_region 3 with (fail)
 have hA := (((hR.new (d.map bv).toArray 37 rfl rfl).alloc (.cells (madeCells (Value.int .i64 0).cells (Int.toNat 68 * 1)) 3)).new #[.slice (some ⟨w.heap.size + 1, 0, none⟩) 0 68] 129 (g := w.heap.size + 1 + 1) (by simp) rfl).new #[.int .i64 0] 3 (g := w.heap.size + 1 + 1 + 1) (by simp) rfl
 refine wp_genP (Pr := fun W => DI w d w.heap.size W [] 0 (some ⟨w.heap.size + 1, 0, none⟩) 68) ⟨⟨?_, hA.2.1, hA.1, hA.2.2.1, hA.2.2.2.1, trivial⟩, by simp [Value.ownBlock], by simp [Value.ownBlock], by simp [Value.ownBlock], Cells.lt hA.1, Cells.lt hA.2.2.1⟩ ?_
 ·have h1 := World.ownsRow_made (base := w.heap.size + 1) (e := 3) (size := 1) (w.alloc (.cells (d.map bv).toArray 37)) (madeCells (Value.int .i64 0).cells (Int.toNat 68 * 1)) 68 (by simp) (by decide) (by simp [madeCells])
  have h2 : (w.alloc (.cells (d.map bv).toArray 37)).heap.size = w.heap.size + 1 := by simp
  rw [h2] at h1
  exact World.ownsRow.alloc (World.ownsRow.alloc h1 _) _
 intro W hW
 clear hA hmk
 go_wp2
 refine wp_loop (fun a W' => ∃ (k : Nat) (Ds : List Nat) (A : Option Addr) (c : Nat) (u6 u13 u14 u15 u16 u17 u27 : Value), k ≤ 16 ∧ a = ⟨#[(.agg (d.map bv).toArray), (.pointer (some ⟨w.heap.size, 0, none⟩)), (.slice none 0 0), (.pointer (some ⟨w.heap.size + 1 + 1, 0, none⟩)), (.pointer (some ⟨w.heap.size + 1 + 1 + 1, 0, none⟩)), undef, u6, undef, undef, (.slice (some ⟨w.heap.size + 1, 0, none⟩) 0 68), (.slice (some ⟨w.heap.size, 0, none⟩) 16 32), (.int .i64 16), (.int .i64 k), u13, u14, u15, u16, u17, undef, undef, undef, undef, undef, undef, undef, undef, undef, u27, undef, undef, undef, undef, undef, undef, undef, undef, undef], Ds.map coll⟩ ∧ DI w d w.heap.size W' ((d.take k).flatMap dig4) (digsum ((d.take k).flatMap dig4)) A c ∧ (∀ D ∈ Ds, w.heap.size ≤ D ∧ W'.heap[D]? = some (.deferred (some []))) ∧ Ds.Nodup) (fun a _ => 16 - (intOf (a.tmps.getD 12 undef)).toNat) ⟨0, [], _, _, undef, undef, undef, undef, undef, undef, undef, by omega, rfl, hW, by simp, List.nodup_nil⟩ ?_
 rintro a wr ⟨k, Ds, A, c, u6, u13, u14, u15, u16, u17, u27, hk, rfl, hD, hDs, hnd⟩
 have hlen := digits_len (d.take k)
 rw [List.length_take, hdl.out] at hlen
 by_cases hlt : k < 16
 ·have hkd : k < d.length := by rw [hdl.out]; omega
  have hM := Lib.hid (digits_succ d k hkd)
  have cb : wr.cell? ⟨w.heap.size, k, none⟩ = some (.int .u8 d[k].toNat) := by
   have := Cells.cell (hD.all.2.2.2.1 : Cells wr w.heap.size _ _) (i := k) (by rw [List.length_map, hdl.out]; omega)
   rw [this]; simp [bv]
  have hb := d[k].toNat_lt
  generalize d[k] = b at *
  go_wp2_with (go_at_call 103; refine (base4_any _ b).mono ?_; rintro e w' ⟨rfl, rfl⟩)
  have hgs : w.heap.size + 1 + 1 + 1 < wr.heap.size := hD.lt
  have hDW : DI w d wr.heap.size (wr.alloc (.cells #[.int .u8 b.toNat] 5)) ((d.take k).flatMap dig4 ++ []) (digsum ((d.take k).flatMap dig4 ++ [])) A c := by
   rw [List.append_nil]
   exact ⟨hD.all.alloc _, hD.ne1, hD.ne2, Go.Adm.Own.ne hD.all.1, by have := hD.lt; simp; omega, by simp⟩
  have hDs2 : ∀ D ∈ Ds, D < wr.heap.size + 1 ∧ (wr.alloc (.cells #[.int .u8 b.toNat] 5)).heap[D]? = some (.deferred (some [])) := fun D h => by
   have h1 := (Array.getElem?_eq_some_iff.1 (hDs D h).2).1
   exact ⟨by omega, (Below.heap_alloc wr _ D h1).trans (hDs D h).2⟩
  have hDg : ∀ D ∈ Ds, w.heap.size ≤ D := fun D h => (hDs D h).1
  have hcb : (wr.alloc (.cells #[.int .u8 b.toNat] 5)).cell? ⟨wr.heap.size, 0, none⟩ = some (.int .u8 b.toNat) := Cells.cell (Cells.new wr 5 #[.int .u8 b.toNat]) (i := 0) (by simp)
  generalize hl0 : (d.take k).flatMap dig4 = l0 at *
  have HL0 := Lib.hid hl0
  clear hl0 hDs hD cb
  refine (wpIn_wide (n := 3)).1 ?_
  refine wpIn_rangeFunc_ownF rfl (by decide) (gf := 108) (lb := #[.pointer (some ⟨wr.heap.size, 0, none⟩)]) rfl trivial (enters_of Try.func108 (by kernel_rfl) rfl)
   (base4_stops Fence.wide 2 trivial rfl (by decide) wr.heap.size b _ (by simp) hcb) (fun h k => k.trans h)
   (fun W' D o o' hB hD ho _ => World.cell?_of_block (w := W') (a := ⟨wr.heap.size, 0, none⟩) (World.putObj_heap_other (by simp at hB ⊢; omega))) (Below.refl _ _) (fun _ => rfl)
   (fun pre W' => (∃ A c, DI w d wr.heap.size W' (l0 ++ pre) (digsum (l0 ++ pre)) A c) ∧ ∀ D ∈ Ds, D < wr.heap.size + 1 ∧ W'.heap[D]? = some (.deferred (some [])))
   (fun _ _ _ => False) ?own (fun _ _ _ _ _ hs _ _ => hs) ⟨⟨A, c, hDW⟩, hDs2⟩
   (fun x => { tmps := #[(.agg (d.map bv).toArray), (.pointer (some ⟨w.heap.size, 0, none⟩)), (.slice none 0 0), (.pointer (some ⟨w.heap.size + 1 + 1, 0, none⟩)), (.pointer (some ⟨w.heap.size + 1 + 1 + 1, 0, none⟩)), undef, (.int .u8 b.toNat), (.int .i64 ((x.val : Nat) : Int)), undef, (.slice (some ⟨w.heap.size + 1, 0, none⟩) 0 68), (.slice (some ⟨w.heap.size, 0, none⟩) 16 32), (.int .i64 16), (.int .i64 k), (.bool true), (.pointer (some ⟨w.heap.size, k, none⟩)), (.int .u8 b.toNat), (.int .u8 b.toNat), (.func (.func 108) #[] #[.pointer (some ⟨wr.heap.size, 0, none⟩)]), (.int .i64 ((x.val : Nat) : Int)), undef, undef, undef, undef, undef, undef, undef, undef, u27, undef, undef, undef, undef, undef, undef, undef, undef, undef], defers := [] }) ?assign ?body ?done ?stop
  case own =>
   refine OwnFrom.and (DI.from (f := fun pre => l0 ++ pre) (g := fun pre => digsum (l0 ++ pre)) (by simp; omega)) (fun s W W' row hs hg hr D hD => ⟨(hs D hD).1, (hg.block D (Array.getElem?_eq_some_iff.1 (hs D hD).2).1 (fun e => ?_)).trans (hs D hD).2⟩)
   have h1 := (hr D e.symm).1
   have h2 := (hs D hD).1
   simp at h1
   omega
  case assign =>
   intro l x W K hK
   gi_wp2
   exact hK
  case stop =>
   intro D c' pre W _ _ h _
   exact h.elim
  case body =>
   rintro l pre x W ⟨⟨A', c', hI⟩, hDs3⟩ hpl
   have hx := x.isLt
   have hLL : (l0 ++ pre).length ≤ 64 := by rw [List.length_append, hlen]; omega
   have hsum := digsum_le (l0 ++ pre)
   have hsn := Lib.hid (digsum_snoc (l0 ++ pre) x)
   have hown := (hI.all.1 : Go.Adm.Own W (w.heap.size + 1) 3 1 A' (l0 ++ pre).length c' ((l0 ++ pre).map fv))
   have hne1 := hI.ne1
   have hne2 := hI.ne2
   have hne3 := hI.ne3
   have hlt3 := hI.lt
   have hall := hI.all
   have hgb : wr.heap.size < W.heap.size ∨ W.heap.size ≤ wr.heap.size := by omega
   generalize hl1 : l0 ++ pre = l1 at *
   have HL1 := Lib.hid hl1
   have hII := Lib.hid hI
   clear hl1 hI
   generalize digsum l1 = s1 at *
   have c1 : W.cell? ⟨w.heap.size + 1 + 1, 0, none⟩ = some (.slice A' l1.length c') := Cells.cell (hall.2.1 : Cells W (w.heap.size + 1 + 1) _ _) (i := 0) (by simp)
   gi_wp2_with (gi_at_builtin; refine wlIn_app el_int rfl (.tmp 19) (.tmp 21) rfl (w.heap.size + 1) A' l1.length c' (l1.map fv) rfl (Go.Adm.Own.alloc hown _) (W.heap.size + 1) _ 1 1 [.int .i64 ((x.val : Nat) : Int)] rfl (Rd.lit W _ _ 1 rfl) (by intro u hu; simp only [List.mem_singleton] at hu; subst hu; rfl) (by omega) (by simp; omega) ?_; intro A3 c3 w3 hown3 hg3 hob3; have hb3 : All w3 [.cells (w.heap.size + 1 + 1) 129 [.slice A' l1.length c'], .cells (w.heap.size + 1 + 1 + 1) 3 [.int .i64 (s1 : Nat)], .cells w.heap.size 37 (d.map bv), .kept w w.heap.size] := (by have h1 := (hall.erase 0).alloc (.cells #[.int .i64 ((x.val : Nat) : Int)] 3); exact All.step hg3 h1 ⟨fun e => hne1 e.symm, fun e => hne2 e.symm, fun e => by have := (hown.lt e.symm).1; omega, fun g e => by have := (hown.lt e).1; omega, trivial⟩); have c2 : w3.cell? ⟨w.heap.size + 1 + 1, 0, none⟩ = some (.slice A' l1.length c') := Cells.cell hb3.1 (i := 0) (by simp); have f2 := Cells.frozen hb3.1 0; have c4 : ∀ v, (w3.setCell ⟨w.heap.size + 1 + 1, 0, none⟩ v).cell? ⟨w.heap.size + 1 + 1 + 1, 0, none⟩ = some (.int .i64 (s1 : Nat)) := (fun v => Cells.cell ((hb3.2.1 : Cells w3 (w.heap.size + 1 + 1 + 1) _ _).far (p := ⟨w.heap.size + 1 + 1, 0, none⟩) (by simp) v) (i := 0) (by simp)); have f4 : ∀ v, (w3.setCell ⟨w.heap.size + 1 + 1, 0, none⟩ v).frozen? ⟨w.heap.size + 1 + 1 + 1, 0, none⟩ = false := (fun v => Cells.frozen ((hb3.2.1 : Cells w3 (w.heap.size + 1 + 1 + 1) _ _).far (p := ⟨w.heap.size + 1 + 1, 0, none⟩) (by simp) v) 0))
   have hm := hII.out.more x hgs hown3 hg3 hob3
   have hm2 := hm.2.2.sum (s' := digsum (l1 ++ [x])) ((s1 : Int) + (3 - ((x.val : Nat) : Int))) (by rw [hsn.out]; omega) hgs
   refine ⟨hm.1.trans hm2.1, hm2.2.1.trans hm.2.1, ⟨A3, c3, ?_⟩, fun D h => ⟨(hDs3 D h).1, (hm.1.trans hm2.1).same D _ (hDs3 D h).2 rfl⟩⟩
   rw [← List.append_assoc, HL1.out]
   exact hm2.2.2
  case done =>
   intro D xs W' hDl hxs hI hK
   obtain ⟨⟨A', c', hI⟩, hDs3⟩ := hI
   subst hxs
   have hM2 : Hid ((d.take (k + 1)).flatMap dig4 = l0 ++ dig4 b) := Lib.hid (by rw [hM.out])
   have hnD : D ∉ Ds := fun h => by have := (hDs2 D h).1; simp at hDl; omega
   go_wp2
   refine ⟨⟨k + 1, D :: Ds, A', c', _, _, _, _, _, _, _, by omega, rfl, ?_, ?_, List.nodup_cons.2 ⟨hnD, hnd⟩⟩, by simp [intOf]; omega⟩
   ·rw [hM2.out]
    exact ⟨hI.all, hI.ne1, hI.ne2, fun e => by have := ((hI.all.1 : Go.Adm.Own _ _ _ _ _ _ _ _).lt e).1; omega, hI.lt, Nat.lt_trans (by omega) hI.lt⟩
   ·intro D' hD'
    rcases List.mem_cons.1 hD' with rfl | h
    ·exact ⟨by simp at hDl; omega, hK⟩
    ·exact ⟨hDg D' h, (hDs3 D' h).2⟩
 ·have hk16 : k = 16 := by omega
  have hkb : decide ((k : Int) < 16) = false := by simp; omega
  have hL16 : (d.take k).flatMap dig4 = digits16 d := by rw [hk16]; rfl
  have hl64 : (digits16 d).length = 64 := by rw [← hL16, hlen]; omega
  rw [hL16] at hD
  have hs1 := digsum_le (digits16 d)
  have hbs : digsum (digits16 d) = (UInt8.ofNat (digsum (digits16 d))).toNat := by rw [UInt8.toNat_ofNat']; omega
  rw [hbs] at hD
  have hfin : Hid (digitsS d = digits16 d ++ dig4 (UInt8.ofNat (digsum (digits16 d)))) := Lib.hid rfl
  generalize UInt8.ofNat (digsum (digits16 d)) = b at *
  have hb := b.toNat_lt
  have HK := Lib.hid hk16
  have c4 : wr.cell? ⟨w.heap.size + 1 + 1 + 1, 0, none⟩ = some (.int .i64 b.toNat) := Cells.cell hD.all.2.2.1 (i := 0) (by simp)
  clear hk16 hL16 hbs hs1
  generalize digits16 d = l0 at *
  have HL := Lib.hid hl64
  go_wp2_with (go_at_call 103; refine (base4_any _ b).mono ?_; rintro e w' ⟨rfl, rfl⟩)
  have hgs : w.heap.size + 1 + 1 + 1 < wr.heap.size := hD.lt
  have hDW : DI w d wr.heap.size (wr.alloc (.cells #[.int .u8 b.toNat] 5)) (l0 ++ []) b.toNat A c := by
   rw [List.append_nil]
   exact ⟨hD.all.alloc _, hD.ne1, hD.ne2, Go.Adm.Own.ne hD.all.1, by have := hD.lt; simp; omega, by simp⟩
  have hDs2 : ∀ D ∈ Ds, D < wr.heap.size + 1 ∧ (wr.alloc (.cells #[.int .u8 b.toNat] 5)).heap[D]? = some (.deferred (some [])) := fun D h => by
   have h1 := (Array.getElem?_eq_some_iff.1 (hDs D h).2).1
   exact ⟨by omega, (Below.heap_alloc wr _ D h1).trans (hDs D h).2⟩
  have hDg : ∀ D ∈ Ds, w.heap.size ≤ D := fun D h => (hDs D h).1
  have hcb : (wr.alloc (.cells #[.int .u8 b.toNat] 5)).cell? ⟨wr.heap.size, 0, none⟩ = some (.int .u8 b.toNat) := Cells.cell (Cells.new wr 5 #[.int .u8 b.toNat]) (i := 0) (by simp)
  clear hDs hD c4
  refine (wpIn_wide (n := 3)).1 ?_
  refine wpIn_rangeFunc_ownF rfl (by decide) (gf := 108) (lb := #[.pointer (some ⟨wr.heap.size, 0, none⟩)]) rfl trivial (enters_of Try.func108 (by kernel_rfl) rfl)
   (base4_stops Fence.wide 2 trivial rfl (by decide) wr.heap.size b _ (by simp) hcb) (fun h k => k.trans h)
   (fun W' D o o' hB hD ho _ => World.cell?_of_block (w := W') (a := ⟨wr.heap.size, 0, none⟩) (World.putObj_heap_other (by simp at hB ⊢; omega))) (Below.refl _ _) (fun _ => rfl)
   (fun pre W' => (∃ A c, DI w d wr.heap.size W' (l0 ++ pre) b.toNat A c) ∧ ∀ D ∈ Ds, D < wr.heap.size + 1 ∧ W'.heap[D]? = some (.deferred (some [])))
   (fun _ _ _ => False) ?own (fun _ _ _ _ _ hs _ _ => hs) ⟨⟨A, c, hDW⟩, hDs2⟩
   (fun x => { tmps := #[(.agg (d.map bv).toArray), (.pointer (some ⟨w.heap.size, 0, none⟩)), (.slice none 0 0), (.pointer (some ⟨w.heap.size + 1 + 1, 0, none⟩)), (.pointer (some ⟨w.heap.size + 1 + 1 + 1, 0, none⟩)), undef, u6, undef, (.int .i64 ((x.val : Nat) : Int)), (.slice (some ⟨w.heap.size + 1, 0, none⟩) 0 68), (.slice (some ⟨w.heap.size, 0, none⟩) 16 32), (.int .i64 16), (.int .i64 k), (.bool false), u14, u15, u16, u17, undef, undef, undef, undef, undef, undef, undef, undef, undef, u27, (.int .i64 b.toNat), (.int .u8 b.toNat), (.func (.func 108) #[] #[.pointer (some ⟨wr.heap.size, 0, none⟩)]), (.int .i64 ((x.val : Nat) : Int)), undef, undef, undef, undef, undef], defers := [] }) ?assign ?body ?done ?stop
  case own =>
   refine OwnFrom.and (DI.from (f := fun pre => l0 ++ pre) (g := fun _ => b.toNat) (by simp; omega)) (fun s W W' row hs hg hr D hD => ⟨(hs D hD).1, (hg.block D (Array.getElem?_eq_some_iff.1 (hs D hD).2).1 (fun e => ?_)).trans (hs D hD).2⟩)
   have h1 := (hr D e.symm).1
   have h2 := (hs D hD).1
   simp at h1
   omega
  case assign =>
   intro l x W K hK
   gi_wp2
   exact hK
  case stop =>
   intro D c' pre W _ _ h _
   exact h.elim
  case body =>
   rintro l pre x W ⟨⟨A', c', hI⟩, hDs3⟩ hpl
   have hx := x.isLt
   have hLL : (l0 ++ pre).length ≤ 67 := by rw [List.length_append, HL.out]; omega
   have hown := (hI.all.1 : Go.Adm.Own W (w.heap.size + 1) 3 1 A' (l0 ++ pre).length c' ((l0 ++ pre).map fv))
   have hne1 := hI.ne1
   have hne2 := hI.ne2
   have hlt3 := hI.lt
   have hall := hI.all
   generalize hl1 : l0 ++ pre = l1 at *
   have HL1 := Lib.hid hl1
   have hII := Lib.hid hI
   clear hl1 hI
   have c1 : W.cell? ⟨w.heap.size + 1 + 1, 0, none⟩ = some (.slice A' l1.length c') := Cells.cell (hall.2.1 : Cells W (w.heap.size + 1 + 1) _ _) (i := 0) (by simp)
   gi_wp2_with (gi_at_builtin; refine wlIn_app el_int rfl (.tmp 32) (.tmp 34) rfl (w.heap.size + 1) A' l1.length c' (l1.map fv) rfl (Go.Adm.Own.alloc hown _) (W.heap.size + 1) _ 1 1 [.int .i64 ((x.val : Nat) : Int)] rfl (Rd.lit W _ _ 1 rfl) (by intro u hu; simp only [List.mem_singleton] at hu; subst hu; rfl) (by omega) (by simp; omega) ?_; intro A3 c3 w3 hown3 hg3 hob3; have hb3 : All w3 [.cells (w.heap.size + 1 + 1) 129 [.slice A' l1.length c'], .cells (w.heap.size + 1 + 1 + 1) 3 [.int .i64 (b.toNat : Nat)], .cells w.heap.size 37 (d.map bv), .kept w w.heap.size] := (by have h1 := (hall.erase 0).alloc (.cells #[.int .i64 ((x.val : Nat) : Int)] 3); exact All.step hg3 h1 ⟨fun e => hne1 e.symm, fun e => hne2 e.symm, fun e => by have := (hown.lt e.symm).1; omega, fun g e => by have := (hown.lt e).1; omega, trivial⟩); have c2 : w3.cell? ⟨w.heap.size + 1 + 1, 0, none⟩ = some (.slice A' l1.length c') := Cells.cell hb3.1 (i := 0) (by simp); have f2 := Cells.frozen hb3.1 0)
   have hm := hII.out.more x hgs hown3 hg3 hob3
   refine ⟨hm.1, hm.2.1, ⟨A3, c3, ?_⟩, fun D h => ⟨(hDs3 D h).1, hm.1.same D _ (hDs3 D h).2 rfl⟩⟩
   rw [← List.append_assoc, HL1.out]
   exact hm.2.2
  case done =>
   intro D xs W' hDl hxs hI hK
   obtain ⟨⟨A', c', hI⟩, hDs3⟩ := hI
   subst hxs
   have hnD : D ∉ Ds := fun h => by have := (hDs2 D h).1; simp at hDl; omega
   have hlf : (l0 ++ dig4 b).length = 68 := by rw [List.length_append, HL.out]; rfl
   have c1 : W'.cell? ⟨w.heap.size + 1 + 1, 0, none⟩ = some (.slice A' 68 c') := by rw [← hlf]; exact Cells.cell (hI.all.2.1 : Cells W' (w.heap.size + 1 + 1) _ _) (i := 0) (by simp)
   have HLF := Lib.hid hlf
   have HI := Lib.hid hI
   clear hlf hI
   go_wp2
   refine leaves_all (B := w.heap.size) (D :: Ds) W' ?_ (List.nodup_cons.2 ⟨hnD, hnd⟩) ?_
   ·intro D' hD'
    rcases List.mem_cons.1 hD' with rfl | h
    ·exact ⟨by simp at hDl; omega, hK⟩
    ·exact ⟨hDg D' h, (hDs3 D' h).2⟩
   ·intro W'' hW'' _
    have h1 := hW'' (rsD w d A' c' (l0 ++ dig4 b) b.toNat) ⟨trivial, trivial, trivial, trivial, Nat.le_refl _, trivial⟩ HI.out.all
    have h2 := (h1.1 : Go.Adm.Own W'' (w.heap.size + 1) 3 1 A' (l0 ++ dig4 b).length c' _)
    rw [HLF.out, ← hfin.out] at h2
    exact ⟨_, results_tmp rfl _ _ _, A', c', rfl, h2.cap.1, h2.cap.2, h2.rd, (h1.at_ 4 rfl).1⟩
end Go.Proofs.Ytfakjamocpamiaa
set_option linter.unusedSimpArgs false
set_option linter.unusedVariables false
namespace Go.Adm
open Go Go.RowKit
theorem i64_and3 (n : Int) : bits .and .i64 n 3 = n % 4 := by
 have h3 : (BitVec.ofInt 64 3).toNat = 2 ^ 2 - 1 := by decide
 have key : (BitVec.ofInt 64 n &&& BitVec.ofInt 64 3).toNat = (n % ((2 ^ 64 : Nat) : Int)).toNat % 2 ^ 2 := by
  rw [BitVec.toNat_and, BitVec.toNat_ofInt, h3, Nat.and_two_pow_sub_one_eq_mod]
 show IntKind.i64.wrap ((BitVec.ofInt 64 n &&& BitVec.ofInt 64 3).toNat : Nat) = n % 4
 rw [key, IntKind.wrap_i64]
 omega
theorem and3i (b : UInt8) (m : Nat) : bits .and .i64 ((b.toNat : Int) / m) 3 = (((Fin.ofNat 4 (b.toNat / m)).val : Nat) : Int) := by
 rw [i64_and3]
 have e : ((b.toNat : Int) / m) = ((b.toNat / m : Nat) : Int) := by simp
 have h : (Fin.ofNat 4 (b.toNat / m)).val = b.toNat / m % 4 := rfl
 rw [e, h]
 omega
/-- the digits of a byte, by name, and what the operations make of it -/
theorem dig4_names (b : UInt8) : ∃ x0 x1 x2 x3 : Fin 4, dig4 b = [x0, x1, x2, x3] ∧ bits .and .i64 ((b.toNat : Int) / 64) 3 = ((x0.val : Nat) : Int) ∧ bits .and .i64 ((b.toNat : Int) / 16) 3 = ((x1.val : Nat) : Int) ∧
  bits .and .i64 ((b.toNat : Int) / 4) 3 = ((x2.val : Nat) : Int) ∧ bits .and .i64 (b.toNat : Int) 3 = ((x3.val : Nat) : Int) :=
 ⟨Fin.ofNat 4 (b.toNat / 64), Fin.ofNat 4 (b.toNat / 16), Fin.ofNat 4 (b.toNat / 4), Fin.ofNat 4 b.toNat, rfl, and3i b 64, and3i b 16, and3i b 4, by have := and3i b 1; simpa using this⟩
end Go.Adm
namespace Go.Proofs.Ytfakjamocpamiaa
open Go Go.RowKit Go.Adm

set_option maxRecDepth 100000 in
set_option maxHeartbeats 3200000 in
theorem refDigits_any (w : World) (d : List UInt8) (hd : d.length = 32) :
  Calls Try.prog 94 #[.agg (d.map bv).toArray] w (DigPost d w) := by
 have hdl := Lib.hid hd
 clear hd
 have hR : All w [.own (w.heap.size + 1) 3 1 none 0 0 [], .kept w w.heap.size] := ⟨Go.Adm.Own.nil _ _ _ _, ⟨Below.refl _ _, Nat.le_refl _⟩, trivial⟩
 go_enter Try.func94, Try.ntmps94
 go_upto_region 1 with (fail)
 refine wp_gen (rs := [.own (w.heap.size + 1) 3 1 none 0 0 ([].map fv), .cells w.heap.size 37 (d.map bv), .kept w w.heap.size]) ⟨(hR.alloc _).1, Cells.new' w _ _ rfl rfl, (hR.alloc _).2.1, trivial⟩ ?_
 intro W hW
 go_wp2
 go_loopw [3, 4, 5] (fun v s i wr => ∃ (k L : Nat) (A' : Option Addr) (c' : Nat), k ≤ 16 ∧ i = .int .i64 k ∧ Hid (L = 4 * k) ∧ v = .slice A' L c' ∧ s = .int .i64 (digsum ((d.take k).flatMap dig4) : Nat) ∧ All wr [.own (w.heap.size + 1) 3 1 A' L c' (((d.take k).flatMap dig4).map fv), .cells w.heap.size 37 (d.map bv), .kept w w.heap.size] ∧ w.heap.size + 1 ≤ wr.heap.size) (fun _ _ i _ => 16 - (intOf i).toNat)
 case atStart => exact ⟨0, 0, none, 0, by omega, rfl, Lib.hid rfl, rfl, rfl, hW, Cells.lt (hW.at_ 1 rfl)⟩
 case round =>
  obtain ⟨k, L, A', c', hk, rfl, HL, rfl, rfl, hI, hsz⟩ := hrel
  by_cases hlt : k < 16
  ·have hkb : decide ((k : Int) < 16) = true := by simp; omega
   have hkd : k < d.length := by rw [hdl.out]; omega
   have hM := Lib.hid (digits_succ d k hkd)
   have hlen := digits_len (d.take k)
   rw [List.length_take, hdl.out] at hlen
   have hs0 := digsum_le ((d.take k).flatMap dig4)
   have hs60 : digsum ((d.take k).flatMap dig4) ≤ 180 := by omega
   have hbb := d[k].toNat_lt
   have hcell : d[k] = d[k] := rfl
   have HB : Hid (∀ wv, Cells wv w.heap.size 37 (d.map bv) → wv.cell? ⟨w.heap.size, k, none⟩ = some (.int .u8 d[k].toNat)) := Lib.hid (fun wv h => by
    rw [Cells.cell h (i := k) (by rw [List.length_map, hdl.out]; omega)]; simp [bv])
   clear hcell hs0 hlen
   generalize d[k] = b at *
   obtain ⟨x0, x1, x2, x3, hdig, e0, e1, e2, e3⟩ := dig4_names b
   have l0 := x0.isLt
   have l1 := x1.isLt
   have l2 := x2.isLt
   have l3 := x3.isLt
   have HDG := Lib.hid hdig
   clear hdig
   generalize hl : (d.take k).flatMap dig4 = l at *
   have HLL := Lib.hid hl
   clear hl
   have hLb : L ≤ 60 := by have := HL.out; omega
   go_wp2
   obtain ⟨wo, hwo⟩ : ∃ x, x = wr := ⟨_, rfl⟩
   subst hwo
   go_loopw [3, 4, 6] (fun v s i wr => ∃ (j n : Nat) (A2 : Option Addr) (c2 : Nat), j ≤ 4 ∧ i = .int .i64 (3 - (j : Int)) ∧ Hid (n = L + j) ∧ n ≤ 64 ∧ v = .slice A2 n c2 ∧ s = .int .i64 (digsum (l ++ [x0, x1, x2, x3].take j) : Nat) ∧ All wr [.own (w.heap.size + 1) 3 1 A2 n c2 ((l ++ [x0, x1, x2, x3].take j).map fv), .cells w.heap.size 37 (d.map bv), .kept w w.heap.size] ∧ w.heap.size + 1 ≤ wr.heap.size) (fun _ _ i _ => (intOf i + 1).toNat)
   case atStart => exact ⟨0, L, A', c', by omega, rfl, Lib.hid rfl, by omega, rfl, by rw [List.take_zero, List.append_nil], by rw [List.take_zero, List.append_nil]; exact hI, hsz⟩
   case round =>
    obtain ⟨j, n, A2, c2, hj, rfl, HN, hn, rfl, rfl, hI2, hsz2⟩ := hrel
    have cb := HB.out _ (hI2.at_ 1 rfl)
    have hsb : digsum (l ++ [x0, x1, x2, x3].take j) ≤ 192 := by
     have h1 : digsum (l ++ [x0, x1, x2, x3].take j) = digsum l + digsum ([x0, x1, x2, x3].take j) := by simp [digsum]
     have h2 := digsum_le ([x0, x1, x2, x3].take j)
     have h3 : ([x0, x1, x2, x3].take j).length ≤ 4 := by rw [List.length_take]; simp; omega
     omega
    have hjj : j = 0 ∨ j = 1 ∨ j = 2 ∨ j = 3 ∨ j = 4 := by omega
    rcases hjj with rfl | rfl | rfl | rfl | rfl
    ·have hsn : Hid (digsum (l ++ [x0, x1, x2, x3].take 1) = digsum (l ++ [x0, x1, x2, x3].take 0) + (3 - x0.val)) := Lib.hid (by simp [digsum] <;> omega)
     have hmp : Hid ((l ++ [x0, x1, x2, x3].take 1).map fv = (l ++ [x0, x1, x2, x3].take 0).map fv ++ [.int .i64 ((x0.val : Nat) : Int)]) := Lib.hid (by simp [fv])
     generalize digsum (l ++ [x0, x1, x2, x3].take 0) = s1 at *
     go_wp2_with (at_builtin; refine wl_app_at el_int (hI2.alloc _) 0 rfl (.tmp 26) (.tmp 28) rfl (w.heap.size + 1) _ _ _ _ rfl rfl (wr.heap.size + 1) _ 1 1 [.int .i64 ((x0.val : Nat) : Int)] rfl (Rd.lit wr _ _ 1 rfl) (by intro u hu; simp only [List.mem_singleton] at hu; subst hu; rfl) (by omega) (by simp; omega) (by intro g hg _; simp [Apart, Res.apart] <;> omega) ?_; intro A5 c5 w5 hI5 hs5)
     refine ⟨⟨1, n + 1, A5, c5, by omega, rfl, Lib.hid (by have := HN.out; omega), by have := HN.out; omega, rfl, congrArg (Value.int .i64) (by rw [hsn.out]; omega), by rw [hmp.out]; exact hI5, by first | omega | (simp at hs5; omega)⟩, by simp [intOf]⟩
    ·have hsn : Hid (digsum (l ++ [x0, x1, x2, x3].take 2) = digsum (l ++ [x0, x1, x2, x3].take 1) + (3 - x1.val)) := Lib.hid (by simp [digsum] <;> omega)
     have hmp : Hid ((l ++ [x0, x1, x2, x3].take 2).map fv = (l ++ [x0, x1, x2, x3].take 1).map fv ++ [.int .i64 ((x1.val : Nat) : Int)]) := Lib.hid (by simp [fv])
     generalize digsum (l ++ [x0, x1, x2, x3].take 1) = s1 at *
     go_wp2_with (at_builtin; refine wl_app_at el_int (hI2.alloc _) 0 rfl (.tmp 26) (.tmp 28) rfl (w.heap.size + 1) _ _ _ _ rfl rfl (wr.heap.size + 1) _ 1 1 [.int .i64 ((x1.val : Nat) : Int)] rfl (Rd.lit wr _ _ 1 rfl) (by intro u hu; simp only [List.mem_singleton] at hu; subst hu; rfl) (by omega) (by simp; omega) (by intro g hg _; simp [Apart, Res.apart] <;> omega) ?_; intro A5 c5 w5 hI5 hs5)
     refine ⟨⟨2, n + 1, A5, c5, by omega, rfl, Lib.hid (by have := HN.out; omega), by have := HN.out; omega, rfl, congrArg (Value.int .i64) (by rw [hsn.out]; omega), by rw [hmp.out]; exact hI5, by first | omega | (simp at hs5; omega)⟩, by simp [intOf]⟩
    ·have hsn : Hid (digsum (l ++ [x0, x1, x2, x3].take 3) = digsum (l ++ [x0, x1, x2, x3].take 2) + (3 - x2.val)) := Lib.hid (by simp [digsum] <;> omega)
     have hmp : Hid ((l ++ [x0, x1, x2, x3].take 3).map fv = (l ++ [x0, x1, x2, x3].take 2).map fv ++ [.int .i64 ((x2.val : Nat) : Int)]) := Lib.hid (by simp [fv])
     generalize digsum (l ++ [x0, x1, x2, x3].take 2) = s1 at *
     go_wp2_with (at_builtin; refine wl_app_at el_int (hI2.alloc _) 0 rfl (.tmp 26) (.tmp 28) rfl (w.heap.size + 1) _ _ _ _ rfl rfl (wr.heap.size + 1) _ 1 1 [.int .i64 ((x2.val : Nat) : Int)] rfl (Rd.lit wr _ _ 1 rfl) (by intro u hu; simp only [List.mem_singleton] at hu; subst hu; rfl) (by omega) (by simp; omega) (by intro g hg _; simp [Apart, Res.apart] <;> omega) ?_; intro A5 c5 w5 hI5 hs5)
     refine ⟨⟨3, n + 1, A5, c5, by omega, rfl, Lib.hid (by have := HN.out; omega), by have := HN.out; omega, rfl, congrArg (Value.int .i64) (by rw [hsn.out]; omega), by rw [hmp.out]; exact hI5, by first | omega | (simp at hs5; omega)⟩, by simp [intOf]⟩
    ·have hsn : Hid (digsum (l ++ [x0, x1, x2, x3].take 4) = digsum (l ++ [x0, x1, x2, x3].take 3) + (3 - x3.val)) := Lib.hid (by simp [digsum] <;> omega)
     have hmp : Hid ((l ++ [x0, x1, x2, x3].take 4).map fv = (l ++ [x0, x1, x2, x3].take 3).map fv ++ [.int .i64 ((x3.val : Nat) : Int)]) := Lib.hid (by simp [fv])
     generalize digsum (l ++ [x0, x1, x2, x3].take 3) = s1 at *
     go_wp2_with (at_builtin; refine wl_app_at el_int (hI2.alloc _) 0 rfl (.tmp 26) (.tmp 28) rfl (w.heap.size + 1) _ _ _ _ rfl rfl (wr.heap.size + 1) _ 1 1 [.int .i64 ((x3.val : Nat) : Int)] rfl (Rd.lit wr _ _ 1 rfl) (by intro u hu; simp only [List.mem_singleton] at hu; subst hu; rfl) (by omega) (by simp; omega) (by intro g hg _; simp [Apart, Res.apart] <;> omega) ?_; intro A5 c5 w5 hI5 hs5)
     refine ⟨⟨4, n + 1, A5, c5, by omega, rfl, Lib.hid (by have := HN.out; omega), by have := HN.out; omega, rfl, congrArg (Value.int .i64) (by rw [hsn.out]; omega), by rw [hmp.out]; exact hI5, by first | omega | (simp at hs5; omega)⟩, by simp [intOf]⟩
    ·have h4 : Hid ((d.take (k + 1)).flatMap dig4 = l ++ [x0, x1, x2, x3].take 4) := Lib.hid (by rw [hM.out, HDG.out]; rfl)
     clear hI cb hsb
     go_wp2
     refine ⟨⟨k + 1, n, A2, c2, by omega, by go_num, Lib.hid (by have := HN.out; have := HL.out; omega), rfl, by rw [h4.out], by rw [h4.out]; exact hI2, hsz2⟩, by simp [intOf]; omega⟩
  ·have hk16 : k = 16 := by omega
   have hL16 : (d.take k).flatMap dig4 = digits16 d := by rw [hk16]; rfl
   have hL64 : L = 64 := by have := HL.out; omega
   rw [hL16] at hI ⊢
   have hl64 : (digits16 d).length = 64 := by rw [← hL16, digits_len, List.length_take, hdl.out]; omega
   have hs1 := digsum_le (digits16 d)
   have hbs : digsum (digits16 d) = (UInt8.ofNat (digsum (digits16 d))).toNat := by rw [UInt8.toNat_ofNat']; omega
   rw [hbs]
   have hfin : Hid (digitsS d = digits16 d ++ dig4 (UInt8.ofNat (digsum (digits16 d)))) := Lib.hid rfl
   generalize UInt8.ofNat (digsum (digits16 d)) = b at *
   have hbb := b.toNat_lt
   obtain ⟨x0, x1, x2, x3, hdig, e0, e1, e2, e3⟩ := dig4_names b
   have l0 := x0.isLt
   have l1 := x1.isLt
   have l2 := x2.isLt
   have l3 := x3.isLt
   have HFIN : Hid (digitsS d = digits16 d ++ [x0, x1, x2, x3].take 4) := Lib.hid (by rw [hfin.out, hdig]; rfl)
   have HLL := Lib.hid hL64
   have hkb : decide ((k : Int) < 16) = false := by simp; omega
   clear hdig hfin hk16 hL16 hbs hs1 hl64 hL64
   generalize digits16 d = l at *
   go_wp2
   obtain ⟨wo, hwo⟩ : ∃ x, x = wr := ⟨_, rfl⟩
   subst hwo
   go_loopw [3, 8] (fun v i wr => ∃ (j n : Nat) (A2 : Option Addr) (c2 : Nat), j ≤ 4 ∧ i = .int .i64 (3 - (j : Int)) ∧ Hid (n = 64 + j) ∧ n ≤ 68 ∧ v = .slice A2 n c2 ∧ All wr [.own (w.heap.size + 1) 3 1 A2 n c2 ((l ++ [x0, x1, x2, x3].take j).map fv), .cells w.heap.size 37 (d.map bv), .kept w w.heap.size] ∧ w.heap.size + 1 ≤ wr.heap.size) (fun _ i _ => (intOf i + 1).toNat)
   case atStart => exact ⟨0, L, A', c', by omega, rfl, Lib.hid (by have := HLL.out; omega), by have := HLL.out; omega, rfl, by rw [List.take_zero, List.append_nil]; exact hI, hsz⟩
   case round =>
    obtain ⟨j, n, A2, c2, hj, rfl, HN, hn, rfl, hI2, hsz2⟩ := hrel
    have hjj : j = 0 ∨ j = 1 ∨ j = 2 ∨ j = 3 ∨ j = 4 := by omega
    rcases hjj with rfl | rfl | rfl | rfl | rfl
    ·have hmp : Hid ((l ++ [x0, x1, x2, x3].take 1).map fv = (l ++ [x0, x1, x2, x3].take 0).map fv ++ [.int .i64 ((x0.val : Nat) : Int)]) := Lib.hid (by simp [fv])
     have hn2 : n ≤ 64 := by have := HN.out; omega
     go_wp2_with (at_builtin; refine wl_app_at el_int (hI2.alloc _) 0 rfl (.tmp 38) (.tmp 45) rfl (w.heap.size + 1) _ _ _ _ rfl rfl (wr.heap.size + 1) _ 1 1 [.int .i64 ((x0.val : Nat) : Int)] rfl (Rd.lit wr _ _ 1 rfl) (by intro u hu; simp only [List.mem_singleton] at hu; subst hu; rfl) (by omega) (by simp; omega) (by intro g hg _; simp [Apart, Res.apart] <;> omega) ?_; intro A5 c5 w5 hI5 hs5)
     refine ⟨⟨1, n + 1, A5, c5, by omega, rfl, Lib.hid (by have := HN.out; omega), by have := HN.out; omega, rfl, by rw [hmp.out]; exact hI5, by first | omega | (simp at hs5; omega)⟩, by simp [intOf]⟩
    ·have hmp : Hid ((l ++ [x0, x1, x2, x3].take 2).map fv = (l ++ [x0, x1, x2, x3].take 1).map fv ++ [.int .i64 ((x1.val : Nat) : Int)]) := Lib.hid (by simp [fv])
     have hn2 : n ≤ 65 := by have := HN.out; omega
     go_wp2_with (at_builtin; refine wl_app_at el_int (hI2.alloc _) 0 rfl (.tmp 38) (.tmp 45) rfl (w.heap.size + 1) _ _ _ _ rfl rfl (wr.heap.size + 1) _ 1 1 [.int .i64 ((x1.val : Nat) : Int)] rfl (Rd.lit wr _ _ 1 rfl) (by intro u hu; simp only [List.mem_singleton] at hu; subst hu; rfl) (by omega) (by simp; omega) (by intro g hg _; simp [Apart, Res.apart] <;> omega) ?_; intro A5 c5 w5 hI5 hs5)
     refine ⟨⟨2, n + 1, A5, c5, by omega, rfl, Lib.hid (by have := HN.out; omega), by have := HN.out; omega, rfl, by rw [hmp.out]; exact hI5, by first | omega | (simp at hs5; omega)⟩, by simp [intOf]⟩
    ·have hmp : Hid ((l ++ [x0, x1, x2, x3].take 3).map fv = (l ++ [x0, x1, x2, x3].take 2).map fv ++ [.int .i64 ((x2.val : Nat) : Int)]) := Lib.hid (by simp [fv])
     have hn2 : n ≤ 66 := by have := HN.out; omega
     go_wp2_with (at_builtin; refine wl_app_at el_int (hI2.alloc _) 0 rfl (.tmp 38) (.tmp 45) rfl (w.heap.size + 1) _ _ _ _ rfl rfl (wr.heap.size + 1) _ 1 1 [.int .i64 ((x2.val : Nat) : Int)] rfl (Rd.lit wr _ _ 1 rfl) (by intro u hu; simp only [List.mem_singleton] at hu; subst hu; rfl) (by omega) (by simp; omega) (by intro g hg _; simp [Apart, Res.apart] <;> omega) ?_; intro A5 c5 w5 hI5 hs5)
     refine ⟨⟨3, n + 1, A5, c5, by omega, rfl, Lib.hid (by have := HN.out; omega), by have := HN.out; omega, rfl, by rw [hmp.out]; exact hI5, by first | omega | (simp at hs5; omega)⟩, by simp [intOf]⟩
    ·have hmp : Hid ((l ++ [x0, x1, x2, x3].take 4).map fv = (l ++ [x0, x1, x2, x3].take 3).map fv ++ [.int .i64 ((x3.val : Nat) : Int)]) := Lib.hid (by simp [fv])
     have hn2 : n ≤ 67 := by have := HN.out; omega
     go_wp2_with (at_builtin; refine wl_app_at el_int (hI2.alloc _) 0 rfl (.tmp 38) (.tmp 45) rfl (w.heap.size + 1) _ _ _ _ rfl rfl (wr.heap.size + 1) _ 1 1 [.int .i64 ((x3.val : Nat) : Int)] rfl (Rd.lit wr _ _ 1 rfl) (by intro u hu; simp only [List.mem_singleton] at hu; subst hu; rfl) (by omega) (by simp; omega) (by intro g hg _; simp [Apart, Res.apart] <;> omega) ?_; intro A5 c5 w5 hI5 hs5)
     refine ⟨⟨4, n + 1, A5, c5, by omega, rfl, Lib.hid (by have := HN.out; omega), by have := HN.out; omega, rfl, by rw [hmp.out]; exact hI5, by first | omega | (simp at hs5; omega)⟩, by simp [intOf]⟩
    ·have h2 := (hI2.1 : Go.Adm.Own wr (w.heap.size + 1) 3 1 A2 n c2 _)
     have hn68 : n = 68 := by have := HN.out; omega
     rw [← HFIN.out, hn68] at h2
     have h3 := (hI2.at_ 2 rfl).1
     subst hn68
     clear hI hI2
     go_wp2
     go_ret
     exact ⟨A2, c2, rfl, h2.cap.1, h2.cap.2, h2.rd, h3⟩
end Go.Proofs.Ytfakjamocpamiaa

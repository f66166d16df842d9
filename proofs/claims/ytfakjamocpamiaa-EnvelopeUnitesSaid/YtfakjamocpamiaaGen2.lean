/- Regions that draw their order: steps of my own for the still head. What a walk knows of the memory, as one list of facts: each step keeps all of them but one. Slices of slices. A region that draws its order, whose first operations read or make memory of their own, each by itself, and whose last ones stand in one order: whatever the order, each operation is met once. Slices whose elements take several cells. Rows whose elements point to other rows. Literals whose parts take several cells. Loops over functions: what a walk knows of the memory abides the blocks of the loops' own. Equality of arrays and structs. -/
import Derived.Test.YtfakjamocpamiaaGen1
import Derived.StillTailTactics
import Derived.Great.BuildSlice
import Derived.RangeFuncNested
import Derived.RangeFuncBound
import Derived.RangeFuncCalls
import Derived.RangeFuncLeaves
import Derived.Shelf.Abstract
import Derived.Shelf.RegionOpen
import Derived.OwnWalkIn
import Derived.TacticsInMore
import Derived.LoopNIn
import Derived.LoopIn
import Derived.DeepKeys
import Derived.Laws.StructEq
set_option linter.unusedSimpArgs false
set_option linter.unusedVariables false
namespace Go.Adm
open Go Go.RowKit

theorem still_ok {P : Program} {ops : Array Oper} {rest : List Oper} {op : Oper} {a : Act} {w : World} {Q : Act → Prop} (hgd : op.guard = none) (v : Value)
  (hrun : (execOp a.eval op).run P w = .ok (.value v) w) (h : wpStill P ops w Q rest (a.put op.dst v)) : wpStill P ops w Q (op :: rest) a :=
 wpStill_step fun K hK => by
  rw [if_pos (by simp [Region.wanted, hgd])]
  unfold Oper.still
  rw [hrun, Oper.stillUpon_value]
  exact hK _ h
theorem still_load_all {P : Program} {ops : Array Oper} {rest : List Oper} {op : Oper} {a : Act} {w : World} {Q : Act → Prop} (hgd : op.guard = none) (ty : TypeId) (x : Operand) (ho : op.op = .load ty x)
  (g o : Nat) (hx : a.eval x = .pointer (some ⟨g, o, none⟩)) (cs : List Value) (d : TypeDesc) (hc : w.rangeAt g o cs) (hu : P.underlying ty = some d) (hd : d.isRow = true)
  (hi : (P.info? ty).map (·.size) = some cs.length) (h : wpStill P ops w Q rest (a.put op.dst (.agg cs.toArray))) : wpStill P ops w Q (op :: rest) a :=
 still_ok hgd _ (by
  unfold execOp
  simp only [ho, hx, Instr.loadAt, Instr.sureAddr, Sem.run_bind, Sem.run_pure, Result.andThen_ok, run_loadVar_mid w g o ty cs d hc hu hd hi]) h
end Go.Adm
namespace Go.Adm
open Go Go.RowKit

theorem grown_of_below {w w' : World} (h : Below w.heap.size w w') : w.grownBy w' none := ⟨h.os, h.tape, h.output, h.size, fun k hk _ => h.block k hk⟩
theorem grown_drew (w : World) : w.grownBy w.drew none := ⟨rfl, rfl, rfl, Nat.le_refl _, fun _ _ _ => rfl⟩
theorem grown_drewN (w : World) (n : Nat) : w.grownBy (w.drewN n) none := ⟨rfl, rfl, rfl, Nat.le_refl _, fun _ _ _ => rfl⟩
theorem grown_alloc (w : World) (o : Obj) : w.grownBy (w.alloc o) none := World.grownBy_alloc w o none
theorem grown_setCell (w : World) (p : Addr) (u : Value) : w.grownBy (w.setCell p u) (some p.block) :=
 ⟨rfl, rfl, rfl, by simp [World.setCell], fun k _ hn => Below.heap_setCell w p u k (fun e => hn (by rw [e]))⟩

theorem grown_setRow (w : World) (g : Nat) (cs : Array Value) : w.grownBy (w.setRow g cs) (some g) := ⟨rfl, rfl, rfl, by simp [World.setRow], fun k _ hn => setRow_other w g k _ (fun e => hn (by rw [e]))⟩

/-- A fact that reads below B alone. -/
structure Low where
 B : Nat
 P : World → Prop
 st : ∀ w w', (∀ p : Addr, p.block < B → w'.cell? p = w.cell? p) → P w → P w'
/-- A fact that reads the blocks of F and those below B0 alone. -/
def St (B0 : Nat) (F : Nat → Prop) (In : World → Prop) : Prop :=
 ∀ w w' : World, w.heap.size ≤ w'.heap.size → (∀ b, b < B0 ∨ F b → b < w.heap.size → w'.heap[b]? = w.heap[b]?) → In w → In w'
/-- A row of the call's own whose elements point to other blocks. -/
structure Nest (w : World) (base : Nat) (e : TypeId) (size : Nat) (A : Option Addr) (n c : Nat) (xs : List Value) (B0 : Nat) (F : Nat → Prop) (In : World → Prop) : Prop where
 own : Own w base e size A n c xs
 inn : In w
 st : St B0 F In
 fr : ∀ b, F b → base ≤ b ∧ b < w.heap.size
 ap : ∀ b, (Value.slice A n c).ownBlock = some b → ¬ F b
inductive Res
 | low (l : Low)
 | nest (base : Nat) (e : TypeId) (size : Nat) (A : Option Addr) (n c : Nat) (xs : List Value) (B0 : Nat) (F : Nat → Prop) (In : World → Prop)
 | cells (g : Nat) (t : TypeId) (cs : List Value)
 | own (base : Nat) (e : TypeId) (size : Nat) (A : Option Addr) (n c : Nat) (xs : List Value)
 | kept (w0 : World) (B : Nat)
def Res.ok (w : World) : Res → Prop
 | .low l => l.P w ∧ l.B ≤ w.heap.size
 | .cells g t cs => Cells w g t cs
 | .own base e size A n c xs => Own w base e size A n c xs
 | .nest base e size A n c xs B0 F In => Nest w base e size A n c xs B0 F In
 | .kept w0 B => Below B w0 w ∧ B ≤ w.heap.size
def Res.apart (row : Option Nat) : Res → Prop
 | .low l => ∀ g, row = some g → l.B ≤ g
 | .cells g _ _ => some g ≠ row
 | .own base _ _ A n c _ => ∀ g, row = some g → g < base ∨ (Value.slice A n c).ownBlock ≠ some g
 | .nest base _ _ A n c _ B0 F _ => ∀ g, row = some g → B0 ≤ g ∧ (g < base ∨ ((Value.slice A n c).ownBlock ≠ some g ∧ ¬ F g))
 | .kept _ B => ∀ g, row = some g → B ≤ g
def All (w : World) : List Res → Prop
 | [] => True
 | r :: rs => r.ok w ∧ All w rs
def Apart (row : Option Nat) : List Res → Prop
 | [] => True
 | r :: rs => r.apart row ∧ Apart row rs

theorem Own.step {w w' : World} {row : Option Nat} (hg : w.grownBy w' row) {base size n c : Nat} {e : TypeId} {A : Option Addr} {xs : List Value} (h' : Own w base e size A n c xs)
  (ha : ∀ g, row = some g → g < base ∨ (Value.slice A n c).ownBlock ≠ some g) : Own w' base e size A n c xs := by
 refine ⟨h'.1, ?_⟩
 rcases h'.2 with h2 | ⟨g, cap, cur, hv, hb, hh, r⟩
 ·exact .inl h2
 ·refine .inr ⟨g, cap, cur, hv, hb, ?_, r⟩
  rw [hg.block g (by
   rcases Nat.lt_or_ge g w.heap.size with hlt | hge
   ·exact hlt
   ·rw [Array.getElem?_eq_none hge] at hh; cases hh) (fun e => by
    rcases ha g e.symm with h3 | h3
    ·omega
    ·exact h3 (by rw [hv]; rfl))]
  exact hh
theorem Nest.step {w w' : World} {row : Option Nat} (hg : w.grownBy w' row) {base size n c B0 : Nat} {e : TypeId} {A : Option Addr} {xs : List Value} {F : Nat → Prop} {In : World → Prop} (h : Nest w base e size A n c xs B0 F In)
  (ha : ∀ g, row = some g → B0 ≤ g ∧ (g < base ∨ ((Value.slice A n c).ownBlock ≠ some g ∧ ¬ F g))) : Nest w' base e size A n c xs B0 F In := by
 refine ⟨h.own.step hg fun g hr => (ha g hr).2.imp_right (·.1), h.st w w' hg.size (fun b hb hlt => hg.block b hlt (fun e => ?_)) h.inn, h.st, fun b hb => ⟨(h.fr b hb).1, Nat.lt_of_lt_of_le (h.fr b hb).2 hg.size⟩, h.ap⟩
 obtain ⟨h1, h2⟩ := ha b e.symm
 rcases hb with hb | hb
 ·omega
 ·rcases h2 with h2 | h2
  ·have := (h.fr b hb).1; omega
  ·exact h2.2 hb
theorem Res.step {w w' : World} {row : Option Nat} (hg : w.grownBy w' row) : ∀ {r : Res}, r.ok w → r.apart row → r.ok w'
 | .low l, h, ha => ⟨l.st w w' (fun p hp => World.cell?_of_block (w := w) (hg.block _ (Nat.lt_of_lt_of_le hp h.2) (fun e => by have := ha _ e.symm; omega))) h.1, Nat.le_trans h.2 hg.size⟩
 | .cells g t cs, h, ha => Cells.grown h hg ha
 | .own base e size A n c xs, h, ha => Own.step hg h ha
 | .nest .., h, ha => Nest.step hg h ha
 | .kept w0 B, h, ha => ⟨h.1.grown hg h.2 (fun k hk => ha k hk), Nat.le_trans h.2 hg.size⟩
theorem Res.apart_none : ∀ (r : Res), r.apart none
 | .low _ => fun _ h => by cases h
 | .cells _ _ _ => fun h => by cases h
 | .own .. => fun _ h => by cases h
 | .nest .. => fun _ h => by cases h
 | .kept _ _ => fun _ h => by cases h
theorem Apart.none : ∀ (rs : List Res), Apart none rs
 | [] => trivial
 | r :: rs => ⟨r.apart_none, Apart.none rs⟩

section
variable {w w' : World} {row : Option Nat} {rs : List Res}
theorem All.step (hg : w.grownBy w' row) : ∀ {rs : List Res}, All w rs → Apart row rs → All w' rs
 | [], _, _ => trivial
 | _ :: _, h, ha => ⟨Res.step hg h.1 ha.1, All.step hg h.2 ha.2⟩
theorem All.quiet (h : All w rs) (hg : w.grownBy w' none) : All w' rs := h.step hg (Apart.none rs)
theorem All.call (h : All w rs) (hb : Below w.heap.size w w') : All w' rs := h.quiet (grown_of_below hb)
theorem All.alloc (h : All w rs) (o : Obj) : All (w.alloc o) rs := h.quiet (grown_alloc w o)
theorem All.drew (h : All w rs) : All w.drew rs := h.quiet (grown_drew w)
theorem All.drewN (h : All w rs) (n : Nat) : All (w.drewN n) rs := h.quiet (grown_drewN w n)
theorem All.setCell (h : All w rs) (p : Addr) (u : Value) (ha : Apart (some p.block) rs) : All (w.setCell p u) rs := h.step (grown_setCell w p u) ha
theorem All.cons {r : Res} (hr : r.ok w) (h : All w rs) : All w (r :: rs) := ⟨hr, h⟩
theorem All.new (h : All w rs) (cs : Array Value) (t : TypeId) {g : Nat} {l : List Value} (hg : g = w.heap.size) (hl : cs.toList = l) : All (w.alloc (.cells cs t)) (.cells g t l :: rs) :=
 ⟨Cells.new' w t cs hg hl, h.alloc _⟩
theorem All.at_ : ∀ {rs : List Res} (i : Nat) {r : Res}, All w rs → rs[i]? = some r → r.ok w
 | [], i, r, _, hi => by simp at hi
 | x :: rs, 0, r, h, hi => by
  obtain rfl : x = r := by simpa using hi
  exact h.1
 | x :: rs, i + 1, r, h, hi => All.at_ i h.2 (by simpa using hi)
/-- one of the facts turns, the others are kept -/
theorem All.upd (hg : w.grownBy w' row) : ∀ {rs : List Res} (i : Nat) (r' : Res), All w rs → r'.ok w' → Apart row (rs.eraseIdx i) → All w' (rs.set i r')
 | [], _, _, _, _, _ => trivial
 | x :: rs, 0, r', h, hr, ha => ⟨hr, h.2.step hg ha⟩
 | x :: rs, i + 1, r', h, hr, ha => ⟨Res.step hg h.1 ha.1, All.upd hg i r' h.2 hr ha.2⟩
theorem All.store {g : Nat} {t : TypeId} {cs : List Value} (h : All w rs) (i : Nat) (hi : rs[i]? = some (.cells g t cs)) (j : Nat) (u : Value) (ha : Apart (some g) (rs.eraseIdx i)) :
  All (w.setCell ⟨g, j, none⟩ u) (rs.set i (.cells g t (cs.set j u))) :=
 All.upd (grown_setCell w ⟨g, j, none⟩ u) i _ h (Cells.store (h.at_ i hi : Cells w g t cs) j u) ha
theorem All.erase : ∀ {rs : List Res} (i : Nat), All w rs → All w (rs.eraseIdx i)
 | [], _, _ => trivial
 | _ :: _, 0, h => h.2
 | _ :: _, i + 1, h => ⟨h.1, All.erase i h.2⟩
theorem Own.ne {base n c size : Nat} {e : TypeId} {A : Option Addr} {xs : List Value} (h : Own w base e size A n c xs) : (Value.slice A n c).ownBlock ≠ some w.heap.size := fun hg => by have := (h.lt hg).2; omega
theorem All.app {base n c size : Nat} {e : TypeId} {A : Option Addr} {xs : List Value} (h : All w rs) (hg : w.grownBy w' (Value.slice A n c).ownBlock) (ho : Own w base e size A n c xs) (hap : ∀ g, base ≤ g → Apart (some g) rs) : All w' rs := by
 refine h.step hg ?_
 cases hq : (Value.slice A n c).ownBlock with
 | none => exact Apart.none _
 | some g => exact hap g (ho.lt hq).1
theorem All.size_kept {w0 : World} {B : Nat} (h : All w rs) (i : Nat) (hi : rs[i]? = some (.kept w0 B)) : w0.heap.size ≤ w.heap.size := (h.at_ i hi).1.size
end

def Low.rd (B size : Nat) (A : Option Addr) (n : Nat) (xs : List Value) : Low := ⟨B, fun w => Rd w B size A n xs, fun _ _ hk h => h.keep hk⟩

/-- the world is forgotten but for what is known of it -/
theorem wp_gen {P : Program} {c : Code} {Q : Exit → Act → World → Prop} {a : Act} {w0 : World} {rs : List Res} (h : All w0 rs) (k : ∀ w, All w rs → Code.wp P c Q a w) : Code.wp P c Q a w0 := k w0 h
theorem wp_genP {P : Program} {c : Code} {Q : Exit → Act → World → Prop} {a : Act} {w0 : World} {Pr : World → Prop} (h : Pr w0) (k : ∀ w, Pr w → Code.wp P c Q a w) : Code.wp P c Q a w0 := k w0 h
theorem wl_gen {P : Program} {ops : Array Oper} {Q : Exit → Act → World → Prop} {l : List Oper} {a : Act} {w0 : World} {rs : List Res} (h : All w0 rs) (k : ∀ w, All w rs → wpList P ops Q l a w) : wpList P ops Q l a w0 := k w0 h
section
variable {P : Program} {w : World} {rs : List Res}
/-- append onto a row of the call's own -/
theorem wl_app_at {ops : Array Oper} {rest : List Oper} {o : Oper} {a : Act} {Q : Exit → Act → World → Prop} {t e : TypeId} {z : Value} {size bytes : Nat} (E : ElemOf P t e z size bytes) (hR : All w rs) (i : Nat) (hgd : o.guard = none) (s x : Operand)
  (ho : o.op = .call { callee := .builtin .append, args := #[s, x], argTypes := #[t, t] })
  (base : Nat) (A0 : Option Addr) (n c0 : Nat) (xs : List Value) (hi : rs[i]? = some (.own base e size A0 n c0 xs)) (hs : a.eval s = .slice A0 n c0)
  (B : Nat) (A : Option Addr) (m c : Nat) (news : List Value) (hx : a.eval x = .slice A m c) (hr : Rd w B size A m news) (h1 : ∀ u ∈ news, u.oneCell' = true)
  (hbytes : (n + m) * bytes ≤ 140737488355328) (hbase : base ≤ w.heap.size)
  (hap : ∀ g, base ≤ g → (Value.slice A0 n c0).ownBlock = some g → Apart (some g) (rs.eraseIdx i))
  (h : ∀ A' c' w', All w' (rs.set i (.own base e size A' (n + m) c' (xs ++ news))) → w.heap.size ≤ w'.heap.size → wpList P ops Q rest (a.put o.dst (.slice A' (n + m) c')) w') : wpList P ops Q (o :: rest) a w := by
 have hown : Own w base e size A0 n c0 xs := hR.at_ i hi
 refine wl_app w E hgd s x ho base A0 n c0 xs hs hown B A m c news hx hr h1 hbytes hbase fun A' c' w' h2 h3 h4 => h A' c' w' ?_ h4.size
 refine All.upd h4 i _ hR h2 ?_
 cases hq : (Value.slice A0 n c0).ownBlock with
 | none => exact Apart.none _
 | some g => exact hap g (hown.lt hq).1 hq
/-- a whole array is stored into a block that is known whole -/
theorem wl_store_at {ops : Array Oper} {rest : List Oper} {op : Oper} {a : Act} {Q : Exit → Act → World → Prop} (hR : All w rs) (i : Nat) (hgd : op.guard = none) (ty : TypeId) (x y : Operand) (ho : op.op = .store ty x y)
  (g : Nat) (t : TypeId) (cs : List Value) (vs : List Value) (hC : rs[i]? = some (.cells g t cs)) (hx : a.eval x = .pointer (some ⟨g, 0, none⟩)) (hy : a.eval y = .agg vs.toArray)
  (hl : vs.length = cs.length) (hi : (P.info? ty).map (·.size) = some vs.length) (h1 : ∀ v ∈ vs, v.oneCell' = true) (hap : Apart (some g) (rs.eraseIdx i))
  (h : ∀ w', All w' (rs.set i (.cells g t vs)) → w'.heap.size = w.heap.size → wpList P ops Q rest (a.put op.dst undef) w') : wpList P ops Q (op :: rest) a w :=
 wl_store_all hgd ty x y ho g t cs vs hx hy (hR.at_ i hC) hl hi h1 fun w' h2 h3 h4 => h w' (All.upd h3 i _ hR h2 hap) h4
/-- copy into a block that is known whole -/
theorem wl_copy_at {ops : Array Oper} {rest : List Oper} {op : Oper} {a : Act} {Q : Exit → Act → World → Prop} (hR : All w rs) (i : Nat) (hgd : op.guard = none) (d s : Operand) (dT sT : TypeId)
  (ho : op.op = .call { callee := .builtin .copy, args := #[d, s], argTypes := #[dT, sT] }) (elem : TypeId) (hu : P.underlying dT = some (.slice elem)) (hsz : (P.info? elem).map (·.size) = some 1)
  (g off dLen dCap : Nat) (t : TypeId) (cur xs : List Value) (hC : rs[i]? = some (.cells g t cur)) (hd : a.eval d = .slice (some ⟨g, off, none⟩) dLen dCap)
  (B : Nat) (A : Option Addr) (n c k : Nat) (hs : a.eval s = .slice A n c) (hr : Rd w B 1 A n xs) (hk : k = Nat.min n dLen) (hfit : off + k ≤ cur.length) (h1 : ∀ v ∈ xs, v.oneCell' = true) (hap : Apart (some g) (rs.eraseIdx i))
  (h : ∀ w', All w' (rs.set i (.cells g t (cur.take off ++ (xs.take k ++ cur.drop (off + k))))) → w'.heap.size = w.heap.size → wpList P ops Q rest (a.put op.dst (goInt k)) w') : wpList P ops Q (op :: rest) a w := by
 have hl : xs.length = n := by have := hr.len; omega
 have hkn : k ≤ n := by rw [hk]; exact Nat.min_le_left _ _
 have hcell : Cells w g t cur := hR.at_ i hC
 have hlk : (xs.take k).length = k := by rw [List.length_take]; omega
 rcases Nat.eq_zero_or_pos k with h0 | h0
 ·subst h0
  refine wpList_copy_nothing hgd d s dT sT ho elem hu hsz _ _ dLen dCap n c hd hs hk.symm ?_
  refine h w (All.upd (World.grownBy.refl w _) i _ hR ?_ hap) rfl
  show Cells w g t _
  simpa using hcell
 ·obtain ⟨ad, rfl, _, hc⟩ := hr.at_ (by omega)
  refine wpList_copy_own hgd d s dT sT ho elem hu hsz g off dLen dCap ad n c hd hs cur.toArray t hcell (xs.take k) (by rw [hlk]; exact hk) (fun j v hj => hc j v (by rw [List.getElem?_take] at hj; split at hj <;> simp_all)) (by rw [hlk]; simpa using hfit) (fun v hv => h1 v (List.mem_of_mem_take hv)) ?_
  rw [hlk]
  refine h _ (All.upd (grown_setRow w g _) i _ hR ?_ hap) (by simp [World.setRow])
  show _ = _
  simpa using setRow_heap w g _ _ t _ hcell
theorem wl_load_at {ops : Array Oper} {rest : List Oper} {op : Oper} {a : Act} {Q : Exit → Act → World → Prop} (hgd : op.guard = none) (ty : TypeId) (x : Operand) (ho : op.op = .load ty x)
  (g : Nat) (t : TypeId) (cs : List Value) (hC : Cells w g t cs) (hx : a.eval x = .pointer (some ⟨g, 0, none⟩)) (d : TypeDesc) (hu : P.underlying ty = some d) (hd : d.isRow = true) (hi : (P.info? ty).map (·.size) = some cs.length)
  (h : wpList P ops Q rest (a.put op.dst (.agg cs.toArray)) w) : wpList P ops Q (op :: rest) a w :=
 wpList_load_mid hgd ty x ho g 0 hx cs d hC.range hu hd hi h
end
end Go.Adm
namespace Go.Adm
open Go Go.RowKit

inductive All2 {α β : Type} (R : α → β → Prop) : List α → List β → Prop
 | nil : All2 R [] []
 | cons {a b xs ys} : R a b → All2 R xs ys → All2 R (a :: xs) (b :: ys)
theorem All2.len {α β : Type} {R : α → β → Prop} {xs : List α} {ys : List β} (h : All2 R xs ys) : xs.length = ys.length := by
 induction h with
 | nil => rfl
 | cons _ _ ih => simp [ih]
theorem All2.at_ {α β : Type} {R : α → β → Prop} {xs : List α} {ys : List β} (h : All2 R xs ys) : ∀ {k : Nat} (hk : k < ys.length), ∃ a, xs[k]? = some a ∧ R a ys[k] := by
 induction h with
 | nil => intro k hk; simp at hk
 | cons hr _ ih =>
  intro k hk
  cases k with
  | zero => exact ⟨_, rfl, hr⟩
  | succ k => exact ih (k := k) (by simpa using hk)
theorem All2.imp {α β : Type} {R S : α → β → Prop} {xs : List α} {ys : List β} (h : All2 R xs ys) (hi : ∀ a b, R a b → S a b) : All2 S xs ys := by
 induction h with
 | nil => exact .nil
 | cons hr _ ih => exact .cons (hi _ _ hr) ih
theorem All2.append {α β : Type} {R : α → β → Prop} {xs xs' : List α} {ys ys' : List β} (h : All2 R xs ys) (h' : All2 R xs' ys') : All2 R (xs ++ xs') (ys ++ ys') := by
 induction h with
 | nil => exact h'
 | cons hr _ ih => exact .cons hr ih

/-- a slice of bytes -/
def BytesAt (w : World) (B : Nat) (v : Value) (b : List UInt8) : Prop := ∃ A c, v = .slice A b.length c ∧ b.length ≤ c ∧ c ≤ maxLen ∧ Rd w B 1 A b.length (b.map bv)
theorem BytesAt.keep {w w' : World} {B : Nat} {v : Value} {b : List UInt8} (h : BytesAt w B v b) (hk : ∀ p : Addr, p.block < B → w'.cell? p = w.cell? p) : BytesAt w' B v b := by
 obtain ⟨A, c, h1, h2, h3, h4⟩ := h
 exact ⟨A, c, h1, h2, h3, h4.keep hk⟩
theorem BytesAt.mono {w : World} {B B' : Nat} {v : Value} {b : List UInt8} (h : BytesAt w B v b) (hB : B ≤ B') : BytesAt w B' v b := by
 obtain ⟨A, c, h1, h2, h3, h4⟩ := h
 exact ⟨A, c, h1, h2, h3, h4.mono hB⟩
/-- a slice of slices of bytes -/
structure Parts (w : World) (B : Nat) (A : Option Addr) (n : Nat) (ps : List (List UInt8)) : Prop where
 rows : ∃ vs, Rd w B 1 A n vs ∧ All2 (BytesAt w B) vs ps
theorem Parts.len {w : World} {B n : Nat} {A : Option Addr} {ps : List (List UInt8)} (h : Parts w B A n ps) : ps.length = n := by
 obtain ⟨vs, h1, h2⟩ := h.rows
 have := h1.len
 rw [← h2.len]; omega
theorem Parts.keep {w w' : World} {B n : Nat} {A : Option Addr} {ps : List (List UInt8)} (h : Parts w B A n ps) (hk : ∀ p : Addr, p.block < B → w'.cell? p = w.cell? p) : Parts w' B A n ps := by
 obtain ⟨vs, h1, h2⟩ := h.rows
 exact ⟨vs, h1.keep hk, h2.imp fun _ _ h => h.keep hk⟩
theorem Parts.at_ {w : World} {B n : Nat} {A : Option Addr} {ps : List (List UInt8)} (h : Parts w B A n ps) {k : Nat} (hk : k < ps.length) :
  ∃ ad A' c', A = some ad ∧ ad.block < B ∧ w.cell? (ad.add k) = some (.slice A' ps[k].length c') ∧ ps[k].length ≤ c' ∧ c' ≤ maxLen ∧ Rd w B 1 A' ps[k].length (ps[k].map bv) := by
 have hl := h.len
 obtain ⟨vs, h1, h2⟩ := h.rows
 obtain ⟨v, hv, A', c', rfl, h3, h4, h5⟩ := h2.at_ hk
 obtain ⟨ad, u, rfl, hb, hu, hc⟩ := h1.cell (k := k) (by omega)
 rw [hu] at hv
 obtain rfl := Option.some.inj hv
 exact ⟨ad, A', c', rfl, hb, hc, h3, h4, h5⟩
def Low.parts (B : Nat) (A : Option Addr) (n : Nat) (ps : List (List UInt8)) : Low := ⟨B, fun w => Parts w B A n ps, fun _ _ hk h => h.keep hk⟩
theorem flat_take_succ (ps : List (List UInt8)) (k : Nat) (hk : k < ps.length) : (ps.take (k + 1)).flatten = (ps.take k).flatten ++ ps[k] := by
 rw [List.take_succ_eq_append_getElem hk, List.flatten_append, List.flatten_singleton]
theorem flat_take_le (ps : List (List UInt8)) (k : Nat) : (ps.take k).flatten.length ≤ ps.flatten.length := by
 have : ps.flatten = (ps.take k).flatten ++ (ps.drop k).flatten := by rw [← List.flatten_append, List.take_append_drop]
 rw [this]; simp
end Go.Adm
namespace Go.Adm
open Go Go.RowKit

section
variable (P : Program) (Q : Exit → Act → World → Prop) (D : List Nat) (a0 : Act) (I : World → Prop) (Φ : Nat → Value → World → Prop)

/-- One operation of the head: number k, at whatever frame and world the drawn order has made. -/
def Hop (k : Nat) (o : Oper) : Prop :=
 ∀ (a : Act) (w : World), I w → (∀ t, D.contains t = false → a.tmps[t]?.getD undef = a0.tmps[t]?.getD undef) →
  (∀ e ∈ o.after.toList, Region.binds .any e = true → Φ e.on (a.tmps[D.getD e.on 0]?.getD undef) w) →
  ∀ K : Act → World → Prop, (∀ v w', w.grownBy w' none → Φ k v w' → K (a.put o.dst v) w') → o.wp P a w K Q
/-- The same, where it may hang on the outcome of another: it is met, or passed over. -/
def HopG (k : Nat) (o : Oper) : Prop :=
 match o.guard with
 | none => Hop P Q D a0 I Φ k o
 | some (g, b) => ((∀ v w, Φ g v w → v = .bool b) ∧ Hop P Q D a0 I Φ k o) ∨ ((∀ v w, Φ g v w → v = .bool (!b)) ∧ ∀ w, Φ k undef w)
def Hops : Nat → List Oper → Prop
 | _, [] => True
 | k, o :: os => HopG P Q D a0 I Φ k o ∧ Hops (k + 1) os
theorem Hops.at_ : ∀ {os : List Oper} {k i : Nat} {o : Oper}, Hops P Q D a0 I Φ k os → os[i]? = some o → HopG P Q D a0 I Φ (k + i) o
 | [], _, i, _, _, hi => by simp at hi
 | x :: os, k, 0, o, h, hi => by
  obtain rfl : x = o := by simpa using hi
  exact h.1
 | x :: os, k, i + 1, o, h, hi => by
  have := Hops.at_ (k := k + 1) (i := i) h.2 (by simpa using hi)
  rwa [show k + 1 + i = k + (i + 1) from by omega] at this
/-- the frame when the head is over -/
def putAll (vs : Nat → Value) : List Nat → Nat → Act → Act
 | [], _, a => a
 | d :: ds, k, a => putAll vs ds (k + 1) (a.put (some d) (vs k))
def backB (l : List Oper) (n : Nat) : Bool := (l.take n).zipIdx.all fun (o, k) => (match o.guard with | none => true | some (g, _) => decide (g < k) && o.after.any fun e => Region.binds .any e && e.on == g) && o.after.all fun e => !Region.binds .any e || decide (e.on < k)
def dstB (l : List Oper) (n : Nat) : Bool := decide ((l.take n).map (·.dst) = D.map some)
end

/-- what the frame holds when some operations of the head are over -/
structure Mid (D : List Nat) (a0 a : Act) (vs : Nat → Value) (listed : Array Bool) : Prop where
 defers : a.defers = a0.defers
 size : a.tmps.size = a0.tmps.size
 old : ∀ t, D.contains t = false → a.tmps[t]? = a0.tmps[t]?
 new : ∀ k t, D[k]? = some t → a.tmps[t]? = if listed.getD k false then (if t < a0.tmps.size then some (vs k) else none) else a0.tmps[t]?

theorem Mid.start (D : List Nat) (a0 : Act) (vs : Nat → Value) (n : Nat) : Mid D a0 a0 vs (Array.replicate n false) :=
 ⟨rfl, rfl, fun _ _ => rfl, fun k t _ => by rw [getD_replicate_false]; simp⟩
theorem nodup_at {D : List Nat} (h : D.Nodup) {i j t : Nat} (hi : D[i]? = some t) (hj : D[j]? = some t) : i = j := by
 rw [List.getElem?_eq_some_iff] at hi hj
 obtain ⟨hi1, hi2⟩ := hi
 obtain ⟨hj1, hj2⟩ := hj
 exact (List.getElem_inj h).1 (hi2.trans hj2.symm)
theorem contains_at {D : List Nat} {i t : Nat} (hi : D[i]? = some t) : D.contains t = true := by
 rw [List.contains_iff_mem]
 exact List.mem_of_getElem? hi
theorem Mid.step {D : List Nat} {a0 a : Act} {vs : Nat → Value} {listed : Array Bool} (h : Mid D a0 a vs listed) (hD : D.Nodup) {i t : Nat} (hi : D[i]? = some t) (hl : i < listed.size) (v : Value) :
  Mid D a0 (a.put (some t) v) (fun k => if k = i then v else vs k) (listed.setIfInBounds i true) := by
 refine ⟨h.defers, by simp [Act.put, h.size], fun s hs => ?_, fun k s hk => ?_⟩
 ·have hne : t ≠ s := fun e => by subst e; rw [contains_at hi] at hs; cases hs
  simp only [Act.put]
  rw [Array.getElem?_setIfInBounds_ne hne]
  exact h.old s hs
 ·by_cases hki : k = i
  ·subst hki
   rw [hi] at hk
   obtain rfl := Option.some.inj hk
   have : (listed.setIfInBounds k true).getD k false = true := by simp [hl]
   rw [this, if_pos rfl, if_pos rfl]
   simp only [Act.put]
   by_cases hlt : t < a0.tmps.size
   ·rw [if_pos hlt]; simp [h.size, hlt]
   ·rw [if_neg hlt]; simp [h.size]; omega
  ·have hne : t ≠ s := fun e => by subst e; exact hki (nodup_at hD hk hi)
   rw [getD_set_ne false (fun e => hki e.symm), if_neg hki]
   simp only [Act.put]
   rw [Array.getElem?_setIfInBounds_ne hne]
   exact h.new k s hk
theorem putAll_tmps (vs : Nat → Value) : ∀ (D : List Nat) (k : Nat) (a : Act), D.Nodup → (putAll vs D k a).defers = a.defers ∧ (putAll vs D k a).tmps.size = a.tmps.size ∧
  (∀ t, D.contains t = false → (putAll vs D k a).tmps[t]? = a.tmps[t]?) ∧ (∀ j t, D[j]? = some t → (putAll vs D k a).tmps[t]? = if t < a.tmps.size then some (vs (k + j)) else none)
 | [], k, a, _ => ⟨rfl, rfl, fun _ _ => rfl, fun j t h => by simp at h⟩
 | d :: ds, k, a, hD => by
  obtain ⟨h1, h2, h3, h4⟩ := putAll_tmps vs ds (k + 1) (a.put (some d) (vs k)) (List.nodup_cons.1 hD).2
  refine ⟨h1, by rw [putAll, h2]; simp [Act.put], fun t ht => ?_, fun j t hj => ?_⟩
  ·rw [List.contains_cons, Bool.or_eq_false_iff] at ht
   rw [putAll, h3 t ht.2]
   simp only [Act.put]
   rw [Array.getElem?_setIfInBounds_ne (fun e => by subst e; simp at ht)]
  ·cases j with
   | zero =>
    obtain rfl : d = t := by simpa using hj
    rw [putAll, h3 d (by simpa using (List.nodup_cons.1 hD).1)]
    simp only [Act.put]
    by_cases hlt : d < a.tmps.size
    ·simp [hlt]
    ·simp [hlt]
   | succ j =>
    have hj' : ds[j]? = some t := by simpa using hj
    rw [putAll, h4 j t hj']
    simp [Act.put, show k + 1 + j = k + (j + 1) from by omega]
theorem Mid.done {D : List Nat} {a0 a : Act} {vs : Nat → Value} {listed : Array Bool} (h : Mid D a0 a vs listed) (hD : D.Nodup) (hl : ∀ k, k < D.length → listed.getD k false = true) : a = putAll vs D 0 a0 := by
 obtain ⟨h1, h2, h3, h4⟩ := putAll_tmps vs D 0 a0 hD
 have : a.tmps = (putAll vs D 0 a0).tmps := by
  apply Array.ext_getElem?
  intro t
  cases hc : D.contains t with
  | false => rw [h.old t hc, h3 t hc]
  | true =>
   rw [List.contains_iff_mem, List.mem_iff_getElem?] at hc
   obtain ⟨k, hk⟩ := hc
   have hkl : k < D.length := by rw [List.getElem?_eq_some_iff] at hk; exact hk.1
   rw [h.new k t hk, h4 k t hk, hl k hkl, if_pos rfl, Nat.zero_add]
 cases a
 cases hp : putAll vs D 0 a0
 simp only [hp] at this h1
 subst this
 have := h.defers
 simp only at this
 rw [this, ← h1]

theorem wp_region_free {P : Program} {id : Nat} {Q : Exit → Act → World → Prop} {a0 : Act} {w0 : World} {l : List Oper} (n : Nat) (D : List Nat) (I : World → Prop) (Φ : Nat → Value → World → Prop)
  (hm : P.follows .mixedOrders = true)
  (hB : (Region.noSelect l.toArray && decide (n < l.length) && Region.sinkB .any l.toArray n && Region.chainB .any l.toArray n && backB l n && dstB D l n && decide (D.Nodup) && Region.seqB .any l.toArray (l.length - n) n (Array.replicate n true ++ Array.replicate (l.length - n) false)) = true)
  (hI : ∀ w w' : World, w.grownBy w' none → I w → I w') (hΦ : ∀ (k : Nat) (v : Value) (w w' : World), w.grownBy w' none → Φ k v w → Φ k v w') (hI0 : I w0.drew) (hDs : D.all (fun t => decide (t < a0.tmps.size)) = true)
  (hop : Hops P Q D a0 I Φ 0 (l.take n))
  (hfin : ∀ (vs : Nat → Value) (w : World), I w → (∀ k, k < n → Φ k (vs k) w) → wpList P l.toArray Q (l.drop n) (putAll vs D 0 a0) w) : (Code.region id l.toArray true).wp P Q a0 w0 := by
 simp only [Bool.and_eq_true, decide_eq_true_eq] at hB
 obtain ⟨⟨⟨⟨⟨⟨⟨_, hn⟩, hs⟩, hc⟩, hback⟩, hdst⟩, hD⟩, hseq⟩ := hB
 have hdst' : (l.take n).map (·.dst) = D.map some := by simpa [dstB] using hdst
 have hDl : D.length = n := by have := congrArg List.length hdst'; simp at this; omega
 have hdsti : ∀ i o, i < n → l[i]? = some o → ∃ t, D[i]? = some t ∧ o.dst = some t := fun i o hi ho => by
  have h1 := congrArg (fun x : List (Option Tmp) => x[i]?) hdst'
  simp only [List.getElem?_map, List.getElem?_take, if_pos hi, ho, Option.map_some] at h1
  have hlt : i < D.length := by omega
  rw [List.getElem?_eq_getElem hlt] at h1 ⊢
  exact ⟨_, rfl, by simpa using h1⟩
 have hbacki : ∀ i o, i < n → l[i]? = some o → (∀ g b, o.guard = some (g, b) → g < i ∧ ∃ e ∈ o.after, Region.binds .any e = true ∧ e.on = g) ∧ ∀ e ∈ o.after, Region.binds .any e = true → e.on < i := fun i o hi ho => by
  have h1 := List.all_eq_true.1 hback (o, i) (by
   rw [List.mem_iff_getElem?]
   refine ⟨i, ?_⟩
   rw [List.getElem?_zipIdx, List.getElem?_take, if_pos hi, ho]
   simp)
  simp only [Bool.and_eq_true] at h1
  refine ⟨fun g b hg => ?_, fun e he hb => ?_⟩
  ·have h2 := h1.1
   rw [hg] at h2
   simp only [Bool.and_eq_true, decide_eq_true_eq] at h2
   obtain ⟨e, he, hb⟩ := Array.any_eq_true'.1 h2.2
   simp only [Bool.and_eq_true, beq_iff_eq] at hb
   exact ⟨h2.1, e, he, hb.1, hb.2⟩
  have h2 := Array.all_eq_true_iff_forall_mem.1 h1.2 e he
  simpa [hb] using h2
 have key : ∀ (f : Nat) (S : List Nat) (listed : Array Bool) (a : Act) (w : World) (vs : Nat → Value), S.length = f → S.Nodup → (∀ i, i ∈ S ↔ i < n ∧ listed.getD i true = false) →
   HeadInv .any l.toArray n listed → Mid D a0 a vs listed → I w → (∀ k, k < n → listed.getD k false = true → Φ k (vs k) w) → wpAny P .any l.toArray Q (f + (l.length - n)) listed a w := by
  intro f
  induction f with
  | zero =>
   intro S listed a w vs hS _ hmem inv mid hIw hP
   obtain rfl := List.eq_nil_of_length_eq_zero hS
   have hsz : listed.size = l.length := by rw [inv.size]; simp
   have hall : ∀ k, k < n → listed.getD k false = true := fun k hk => by
    cases h : listed.getD k false with
    | true => rfl
    | false => exact absurd ((hmem k).2 ⟨hk, getD_in (by omega) h⟩) (by simp)
   have hlist : listed = Array.replicate n true ++ Array.replicate (l.length - n) false := by
    apply Array.ext
    ·simp; omega
    ·intro k h1 h2
     by_cases hk : k < n
     ·have := hall k hk
      rw [Array.getElem_append_left (by simpa using hk)]
      simp [h1] at this
      simp [this]
     ·have := inv.tail k (by omega) (by simpa using (by omega : k < l.length))
      rw [Array.getElem_append_right (by simpa using hk)]
      simp [h1] at this
      simp [this]
   rw [Nat.zero_add]
   have hd := mid.done hD (fun k hk => hall k (by omega))
   subst hd
   have hx := hfin vs w hIw (fun k hk => hP k hk (hall k hk))
   have := wpAny_of_seq (md := .any) (Q' := Q) (l.drop n) n listed _ w (fun j => by simp [List.getElem?_drop]) (by rw [List.length_drop, hlist]; exact hseq) hx
   rwa [List.length_drop] at this
  | succ f ih =>
   intro S listed a w vs hS hnd hmem inv mid hIw hP
   have hsz : listed.size = l.length := by rw [inv.size]; simp
   rw [show f + 1 + (l.length - n) = f + (l.length - n) + 1 from by omega]
   have hex : ∃ i, i < n ∧ listed.getD i true = false := by
    cases S with
    | nil => simp at hS
    | cons i S => exact ⟨i, (hmem i).1 (List.mem_cons_self ..)⟩
   refine ⟨fun h0 => ?_, fun i hi => ?_⟩
   ·exfalso
    -- the least one that is not yet over is ready
    have least : ∀ m, (∃ i, i < m ∧ i < n ∧ listed.getD i true = false) → ∃ i, i < n ∧ listed.getD i true = false ∧ ∀ j, j < i → listed.getD j false = true := by
     intro m
     induction m with
     | zero => rintro ⟨i, h, _⟩; omega
     | succ m ihm =>
      rintro ⟨i, h1, h2, h3⟩
      by_cases hq : ∃ i, i < m ∧ i < n ∧ listed.getD i true = false
      ·exact ihm hq
      ·have : i = m := by
        rcases Nat.lt_succ_iff_lt_or_eq.1 h1 with h4 | h4
        ·exact absurd ⟨i, h4, h2, h3⟩ hq
        ·exact h4
       subst this
       refine ⟨i, h2, h3, fun j hj => ?_⟩
       cases h : listed.getD j false with
       | true => rfl
       | false => exact absurd ⟨j, hj, by omega, getD_in (by omega) h⟩ hq
    obtain ⟨i0, h1, h2⟩ := hex
    obtain ⟨i, hin, hun, hlow⟩ := least n ⟨i0, h1, h1, h2⟩
    have hlt : i < l.length := by omega
    have ho : l[i]? = some l[i] := List.getElem?_eq_getElem hlt
    have : i ∈ Region.ready .any l.toArray listed := mem_ready.2 ⟨hun, l[i], by simp, fun e he hb => hlow _ ((hbacki i _ hin ho).2 e he hb)⟩
    rw [h0] at this
    cases this
   ·obtain ⟨i0, h1, h2⟩ := hex
    have hin : i < n := by
     rcases Nat.lt_or_ge i n with h | h
     ·exact h
     ·exact absurd hi (tail_waits hs hc (by simpa using hn) inv _ i0 rfl h1 h2 i h)
    obtain ⟨hun, o, ho, hall⟩ := mem_ready.1 hi
    have ho' : l[i]? = some o := by simpa using ho
    obtain ⟨t, ht, hdt⟩ := hdsti i o hin ho'
    obtain ⟨hg, hbk⟩ := hbacki i o hin ho'
    have cont : ∀ v w', w.grownBy w' none → Φ i v w' → wpAny P .any l.toArray Q (f + (l.length - n)) (listed.setIfInBounds i true) (a.put (some t) v) w' := fun v w' hgr hv => by
     refine ih (S.erase i) _ _ w' (fun k => if k = i then v else vs k) (by rw [List.length_erase_of_mem ((hmem i).2 ⟨hin, hun⟩)]; omega) (hnd.erase i) (fun j => ?_) (inv.set hi hin) (mid.step hD ht (by omega) v) (hI _ _ hgr hIw) (fun k hk hl => ?_)
     ·rw [hnd.mem_erase_iff, hmem j]
      constructor
      ·rintro ⟨h6, h7, h8⟩
       exact ⟨h7, by rw [getD_set_ne true (fun e => h6 e.symm)]; exact h8⟩
      ·rintro ⟨h7, h8⟩
       by_cases hji : j = i
       ·subst hji; simp [show j < listed.size from by omega] at h8
       ·exact ⟨hji, h7, by rw [getD_set_ne true (fun e => hji e.symm)] at h8; exact h8⟩
     ·by_cases hki : k = i
      ·subst hki; rw [if_pos rfl]; exact hv
      ·rw [if_neg hki]
       rw [getD_set_ne false (fun e => hki e.symm)] at hl
       exact hΦ _ _ _ _ hgr (hP k hk hl)
    have slot : ∀ e ∈ o.after, Region.binds .any e = true → ∃ s v, D[e.on]? = some s ∧ a.tmps[s]? = some v ∧ Φ e.on v w := fun e he hb => by
     have h3 := hall e he hb
     have hlt : e.on < n := Nat.lt_trans (hbk e he hb) hin
     obtain ⟨s, hs⟩ : ∃ s, D[e.on]? = some s := ⟨_, List.getElem?_eq_getElem (by omega)⟩
     have h4 := mid.new e.on s hs
     rw [h3, if_pos rfl, if_pos (of_decide_eq_true (List.all_eq_true.1 hDs s (List.mem_of_getElem? hs)))] at h4
     exact ⟨s, _, hs, h4, hP _ hlt h3⟩
    have met : Hop P Q D a0 I Φ i o → o.wp P a w (wpAny P .any l.toArray Q (f + (l.length - n)) (listed.setIfInBounds i true)) Q := fun hh => by
     refine hh a w hIw (fun s hs => ?_) (fun e he hb => ?_) _ (fun v w' hgr hv => ?_)
     ·have := mid.old s hs
      simp only [this]
     ·obtain ⟨s, v, hs, hv, hp⟩ := slot e (by simpa using he) hb
      have h5 : D.getD e.on 0 = s := by simp [List.getD, hs]
      rw [h5, hv]
      exact hp
     ·rw [hdt]; exact cont v w' hgr hv
    have hh := Hops.at_ P Q D a0 I Φ (k := 0) hop (i := i) (o := o) (by rw [List.getElem?_take, if_pos hin, ho'])
    rw [Nat.zero_add] at hh
    unfold wpOp
    simp only [ho]
    cases hgd : o.guard with
    | none =>
     rw [if_pos (by simp [Region.wanted, hgd])]
     unfold HopG at hh
     rw [hgd] at hh
     exact .inl (met hh)
    | some gb =>
     obtain ⟨g, b⟩ := gb
     obtain ⟨hgi, e, he, hb, heg⟩ := hg g b hgd
     obtain ⟨s, v, hs, hv, hp⟩ := slot e he hb
     rw [heg] at hs hp
     have hgl : g < l.length := by omega
     obtain ⟨s', hs', hds'⟩ := hdsti g l[g] (by omega) (List.getElem?_eq_getElem hgl)
     rw [hs] at hs'
     obtain rfl := Option.some.inj hs'
     have hy : ∀ c, v = .bool c → yielded l.toArray a.tmps g = some c := fun c hc => by
      unfold yielded
      have h6 : l.toArray[g]? = some l[g] := by simp [hgl]
      rw [h6]
      simp only [Option.bind_some, hds', hv, hc]
     unfold HopG at hh
     rw [hgd] at hh
     rcases hh with ⟨h7, h8⟩ | ⟨h7, h8⟩
     ·rw [if_pos (by simp [Region.wanted, hgd, hy b (h7 v w hp)])]
      exact .inl (met h8)
     ·rw [if_neg (by simp [Region.wanted, hgd, hy _ (h7 v w hp)])]
      rw [hdt]
      exact cont undef w (World.grownBy.refl w none) (h8 w)
 refine wp_region_any hm ?_
 have hx := key n (List.range n) (Array.replicate l.length false) a0 w0.drew (fun _ => undef) (by simp) List.nodup_range (fun i => by
  rw [List.mem_range]
  constructor
  ·intro h; exact ⟨h, getD_in (by simp; omega) (getD_replicate_false _ _)⟩
  ·exact fun h => h.1) ⟨by simp, fun j oj _ hl => (by rw [getD_replicate_false] at hl; cases hl), fun t _ ht => getD_in (by simp only [Array.size_replicate, List.size_toArray] at ht ⊢; exact ht) (getD_replicate_false _ _)⟩ (Mid.start _ _ _ _) hI0 (fun k _ hl => by rw [getD_replicate_false] at hl; cases hl)
 rw [show n + (l.length - n) = l.length from by omega] at hx
 simpa using hx

/-- What is known of a value that an operation of the head has left. -/
inductive VF
 | eq (v : Value)
 | gen (R : World → Value → Prop) (st : ∀ (w w' : World) (v : Value), w.grownBy w' none → R w v → R w' v)
def VF.ok : VF → Value → World → Prop
 | .eq u, v, _ => v = u
 | .gen R _, v, w => R w v
theorem VF.keep {w w' : World} {v : Value} (hg : w.grownBy w' none) : ∀ (f : VF), f.ok v w → f.ok v w'
 | .eq _, h => h
 | .gen _ st, h => st w w' v hg h
def VF.at (fs : List VF) (k : Nat) : Value → World → Prop := (fs.getD k (.eq undef)).ok
theorem BytesAt.grown {w w' : World} {v : Value} {b : List UInt8} (hg : w.grownBy w' none) (h : BytesAt w w.heap.size v b) : BytesAt w' w'.heap.size v b :=
 (h.keep fun p hp => World.cell?_of_block (w := w) (hg.block _ hp (by simp))).mono hg.size
def VF.bytes (b : List UInt8) : VF := .gen (fun w v => BytesAt w w.heap.size v b) fun _ _ _ hg h => h.grown hg
theorem wp_region_hops {P : Program} {id : Nat} {Q : Exit → Act → World → Prop} {a0 : Act} {w0 : World} {l : List Oper} (n : Nat) (D : List Nat) (rs : List Res) (fs : List VF)
  (hm : P.follows .mixedOrders = true)
  (hB : (Region.noSelect l.toArray && decide (n < l.length) && Region.sinkB .any l.toArray n && Region.chainB .any l.toArray n && backB l n && dstB D l n && decide (D.Nodup) && Region.seqB .any l.toArray (l.length - n) n (Array.replicate n true ++ Array.replicate (l.length - n) false)) = true)
  (hR : All w0 rs) (hDs : D.all (fun t => decide (t < a0.tmps.size)) = true)
  (hop : Hops P Q D a0 (fun W => All W rs) (VF.at fs) 0 (l.take n))
  (hfin : ∀ (vs : Nat → Value) (w : World), All w rs → (∀ k, k < n → VF.at fs k (vs k) w) → wpList P l.toArray Q (l.drop n) (putAll vs D 0 a0) w) : (Code.region id l.toArray true).wp P Q a0 w0 :=
 wp_region_free n D (fun W => All W rs) (VF.at fs) hm hB (fun _ _ hg h => h.quiet hg) (fun _ _ _ _ hg h => VF.keep hg _ h) hR.drew hDs hop hfin
theorem BytesAt.new (w : World) (t : TypeId) (vs : Array Value) (b : List UInt8) (n c : Nat) (h : vs = (b.map bv).toArray) (hn : n = b.length) (hc : b.length ≤ c) (hc2 : c ≤ 1000) :
  BytesAt (w.alloc (.cells vs t)) (w.alloc (.cells vs t)).heap.size (.slice (some ⟨w.heap.size, 0, none⟩) n c) b := by
 subst hn
 refine ⟨_, c, rfl, hc, by unfold maxLen; omega, ?_⟩
 have := Rd.lit (size := 1) w vs t b.length (by rw [h]; simp)
 rw [h] at this ⊢
 refine Rd.mono ?_ (by simp : w.heap.size + 1 ≤ _)
 simpa using this
end Go.Adm
namespace Go.Adm
open Go Go.RowKit

structure Els (w : World) (B size : Nat) (A : Option Addr) (n : Nat) (es : List (List Value)) : Prop where
 rd : Rd w B size A n es.flatten
 each : ∀ e ∈ es, e.length = size
 len : es.length = n
theorem flat_len {α : Type} {size : Nat} : ∀ {es : List (List α)}, (∀ e ∈ es, e.length = size) → es.flatten.length = es.length * size
 | [], _ => by simp
 | e :: es, h => by
  have h1 := h e (by simp)
  have h2 := flat_len (es := es) fun x hx => h x (by simp [hx])
  rw [List.flatten_cons, List.length_append, h1, h2, List.length_cons, Nat.add_mul, Nat.one_mul, Nat.add_comm]
theorem flat_drop {α : Type} {size : Nat} : ∀ {es : List (List α)} (k : Nat), (∀ e ∈ es, e.length = size) → es.flatten.drop (k * size) = (es.drop k).flatten
 | [], k, _ => by simp
 | e :: es, 0, _ => by simp
 | e :: es, k + 1, h => by
  have h1 := h e (by simp)
  have h2 := flat_drop k (es := es) fun x hx => h x (by simp [hx])
  rw [List.flatten_cons, List.drop_succ_cons, ← h2, List.drop_append, h1, show (k + 1) * size - size = k * size from by rw [Nat.add_mul, Nat.one_mul]; omega, List.drop_eq_nil_of_le (by rw [h1, Nat.add_mul, Nat.one_mul]; omega), List.nil_append]
theorem flat_take {α : Type} {size : Nat} : ∀ {es : List (List α)} (k : Nat), (∀ e ∈ es, e.length = size) → es.flatten.take (k * size) = (es.take k).flatten
 | [], k, _ => by simp
 | e :: es, 0, _ => by simp
 | e :: es, k + 1, h => by
  have h1 := h e (by simp)
  have h2 := flat_take k (es := es) fun x hx => h x (by simp [hx])
  rw [List.flatten_cons, List.take_succ_cons, List.flatten_cons, ← h2, List.take_append, h1, show (k + 1) * size - size = k * size from by rw [Nat.add_mul, Nat.one_mul]; omega, List.take_of_length_le (by rw [h1, Nat.add_mul, Nat.one_mul]; omega)]
theorem Els.at_ {w : World} {B size : Nat} {A : Option Addr} {n : Nat} {es : List (List Value)} (h : Els w B size A n es) {k : Nat} (hk : k < es.length) :
  ∃ ad, A = some ad ∧ ad.block < B ∧ ∀ j u, es[k][j]? = some u → w.cell? ((ad.add (k * size)).add j) = some u := by
 obtain ⟨ad, e, hb, hc⟩ := h.rd.at_ (by have := h.len; omega)
 refine ⟨ad, e, hb, fun j u hu => ?_⟩
 rw [add_add]
 apply hc
 have h1 := flat_drop k h.each
 have h2 : es.flatten[k * size + j]? = (es.flatten.drop (k * size))[j]? := by rw [List.getElem?_drop]
 rw [h2, h1, List.drop_eq_getElem_cons hk, List.flatten_cons, List.getElem?_append_left]
 ·exact hu
 ·rw [List.getElem?_eq_some_iff] at hu; exact hu.1
theorem Els.keep {w w' : World} {B size : Nat} {A : Option Addr} {n : Nat} {es : List (List Value)} (h : Els w B size A n es) (hk : ∀ p : Addr, p.block < B → w'.cell? p = w.cell? p) : Els w' B size A n es := ⟨h.rd.keep hk, h.each, h.len⟩
theorem Els.mono {w : World} {B B' size : Nat} {A : Option Addr} {n : Nat} {es : List (List Value)} (h : Els w B size A n es) (hB : B ≤ B') : Els w B' size A n es := ⟨h.rd.mono hB, h.each, h.len⟩
theorem Els.nil {w : World} {B size : Nat} {A : Option Addr} : Els w B size A 0 [] := ⟨Rd.nil, fun _ h => by simp at h, rfl⟩
theorem Els.cut {w : World} {B size : Nat} {A : Option Addr} {n : Nat} {es : List (List Value)} (h : Els w B size A n es) {k cap : Nat} (hk : k ≤ n) (hc : n ≤ cap) : Els w B size (if cap = k then A else A.map (·.add (k * size))) (n - k) (es.drop k) :=
 ⟨by rw [← flat_drop k h.each]; exact h.rd.cut hk hc, fun e he => h.each e (List.mem_of_mem_drop he), by rw [List.length_drop, h.len]⟩
theorem Els.take {w : World} {B size : Nat} {A : Option Addr} {n : Nat} {es : List (List Value)} (h : Els w B size A n es) {k : Nat} (hk : k ≤ n) : Els w B size A k (es.take k) :=
 ⟨by rw [← flat_take k h.each]; exact h.rd.take hk, fun e he => h.each e (List.mem_of_mem_take he), by rw [List.length_take, h.len]; omega⟩
def Low.els (B size : Nat) (A : Option Addr) (n : Nat) (es : List (List Value)) : Low := ⟨B, fun w => Els w B size A n es, fun _ _ hk h => h.keep hk⟩
theorem Els.of {w : World} {base size n c : Nat} {e : TypeId} {A : Option Addr} {es : List (List Value)} (h : Own w base e size A n c es.flatten) (he : ∀ x ∈ es, x.length = size) (hl : es.length = n) : Els w w.heap.size size A n es := ⟨h.rd, he, hl⟩
section
variable {P : Program}
theorem run_loadVar_any (w : World) (ad : Addr) (ty : TypeId) (cs : List Value) (d : TypeDesc) (hc : ∀ j u, cs[j]? = some u → w.cell? (ad.add j) = some u)
  (hu : P.underlying ty = some d) (hd : d.isRow = true) (hi : (P.info? ty).map (·.size) = some cs.length) : (loadVar ty ad).run P w = .ok (.agg cs.toArray) w := by
 have hl : (loadCells ad cs.length).run P w = .ok cs.toArray w := run_loadCells_list (P := P) w ad cs hc
 cases hq : P.info? ty with
 | none => simp [hq] at hi
 | some i =>
  have hs : i.size = cs.length := by simpa [hq] using hi
  have hagg : (isAgg ty).run P w = .ok true w := by
   unfold isAgg
   rw [Sem.run_bind, run_underlying hu w]
   cases d <;> simp_all
  simp [loadVar, Sem.run_bind, hagg, sizeOf, typeInfo, hq, hs, hl]
theorem wl_load_any {ops : Array Oper} {rest : List Oper} {op : Oper} {a : Act} {w : World} {Q : Exit → Act → World → Prop} (hgd : op.guard = none) (ty : TypeId) (x : Operand) (ho : op.op = .load ty x)
  (ad : Addr) (hx : a.eval x = .pointer (some ad)) (cs : List Value) (d : TypeDesc) (hc : ∀ j u, cs[j]? = some u → w.cell? (ad.add j) = some u)
  (hu : P.underlying ty = some d) (hd : d.isRow = true) (hi : (P.info? ty).map (·.size) = some cs.length) (h : wpList P ops Q rest (a.put op.dst (.agg cs.toArray)) w) : wpList P ops Q (op :: rest) a w :=
 wpList_plain hgd fun _ hK => by
  unfold Oper.wp execOp
  simp only [ho, hx, Instr.loadAt, Instr.sureAddr, Sem.run_bind, Sem.run_pure, Result.andThen_ok, run_loadVar_any w ad ty cs d hc hu hd hi]
  exact hK _ _ h
theorem wp_load_any {op : Oper} {a : Act} {w : World} {K : Act → World → Prop} {Q : Exit → Act → World → Prop} (ty : TypeId) (x : Operand) (ho : op.op = .load ty x)
  (ad : Addr) (hx : a.eval x = .pointer (some ad)) (cs : List Value) (d : TypeDesc) (hc : ∀ j u, cs[j]? = some u → w.cell? (ad.add j) = some u)
  (hu : P.underlying ty = some d) (hd : d.isRow = true) (hi : (P.info? ty).map (·.size) = some cs.length) (h : K (a.put op.dst (.agg cs.toArray)) w) : op.wp P a w K Q := by
 unfold Oper.wp execOp
 simp only [ho, hx, Instr.loadAt, Instr.sureAddr, Sem.run_bind, Sem.run_pure, Result.andThen_ok, run_loadVar_any w ad ty cs d hc hu hd hi]
 exact h
theorem still_load_any {ops : Array Oper} {rest : List Oper} {op : Oper} {a : Act} {w : World} {Q : Act → Prop} (hgd : op.guard = none) (ty : TypeId) (x : Operand) (ho : op.op = .load ty x)
  (ad : Addr) (hx : a.eval x = .pointer (some ad)) (cs : List Value) (d : TypeDesc) (hc : ∀ j u, cs[j]? = some u → w.cell? (ad.add j) = some u)
  (hu : P.underlying ty = some d) (hd : d.isRow = true) (hi : (P.info? ty).map (·.size) = some cs.length) (h : wpStill P ops w Q rest (a.put op.dst (.agg cs.toArray))) : wpStill P ops w Q (op :: rest) a :=
 still_ok hgd _ (by
  unfold execOp
  simp only [ho, hx, Instr.loadAt, Instr.sureAddr, Sem.run_bind, Sem.run_pure, Result.andThen_ok, run_loadVar_any w ad ty cs d hc hu hd hi]) h
end
/-- a row of the call's own, as the value of an operation -/
def VF.own (base : Nat) (e : TypeId) (size n : Nat) (xs : List Value) : VF := .gen (fun w v => base ≤ w.heap.size ∧ ∃ A c, v = .slice A n c ∧ Own w base e size A n c xs) fun _ _ _ hg ⟨hb, A, c, hv, h⟩ =>
 ⟨Nat.le_trans hb hg.size, A, c, hv, Res.step (r := .own base e size A n c xs) hg h (Res.apart_none _)⟩
end Go.Adm
namespace Go.Adm
open Go Go.RowKit

theorem St.and {B0 : Nat} {F F' : Nat → Prop} {In In' : World → Prop} (h : St B0 F In) (h' : St B0 F' In') : St B0 (fun b => F b ∨ F' b) (fun w => In w ∧ In' w) :=
 fun w w' hs hb hi => ⟨h w w' hs (fun b hq => hb b (hq.imp_right .inl)) hi.1, h' w w' hs (fun b hq => hb b (hq.imp_right .inr)) hi.2⟩
theorem St.congr {B0 : Nat} {F : Nat → Prop} {In In' : World → Prop} (h : St B0 F In) (hi : ∀ w, In w ↔ In' w) : St B0 F In' := fun w w' hs hb hx => (hi w').1 (h w w' hs hb ((hi w).2 hx))
theorem St.true {B0 : Nat} {F : Nat → Prop} {In : World → Prop} (h : ∀ w, In w) : St B0 F In := fun _ w' _ _ _ => h w'
theorem All2.snoc {α β : Type} {R : α → β → Prop} {xs : List α} {ys : List β} {x : α} {y : β} : All2 R (xs ++ [x]) (ys ++ [y]) ↔ All2 R xs ys ∧ R x y := by
 constructor
 ·intro h
  generalize hx : xs ++ [x] = us at h
  generalize hy : ys ++ [y] = vs at h
  induction h generalizing xs ys with
  | nil => simp at hx
  | cons hr ht ih =>
   cases xs with
   | nil =>
    cases ys with
    | nil =>
     simp only [List.nil_append, List.cons.injEq] at hx hy
     obtain ⟨rfl, rfl⟩ := hx
     obtain ⟨rfl, rfl⟩ := hy
     exact ⟨.nil, hr⟩
    | cons b ys =>
     simp only [List.nil_append, List.cons.injEq, List.cons_append] at hx hy
     obtain ⟨rfl, rfl⟩ := hx
     have h1 := ht.len
     rw [← hy.2] at h1
     simp at h1
   | cons a xs =>
    cases ys with
    | nil =>
     simp only [List.nil_append, List.cons.injEq, List.cons_append] at hx hy
     obtain ⟨rfl, rfl⟩ := hy
     have h1 := ht.len
     rw [← hx.2] at h1
     simp at h1
    | cons b ys =>
     simp only [List.cons.injEq, List.cons_append] at hx hy
     obtain ⟨rfl, h1⟩ := hx
     obtain ⟨rfl, h2⟩ := hy
     have := ih h1 h2
     exact ⟨.cons hr this.1, this.2⟩
 ·rintro ⟨h1, h2⟩
  exact h1.append (.cons h2 .nil)
theorem Nest.start {w : World} {base size : Nat} {e : TypeId} {B0 : Nat} {In : World → Prop} (hi : ∀ w, In w) : Nest w base e size none 0 0 [] B0 (fun _ => False) In :=
 ⟨Own.nil _ _ _ _, hi w, .true hi, fun _ h => h.elim, fun _ _ h => h⟩
theorem Nest.of {w : World} {base size n c : Nat} {e : TypeId} {A : Option Addr} {xs : List Value} {B0 : Nat} {F : Nat → Prop} {In : World → Prop} (h : Own w base e size A n c xs) (hi : In w) (st : St B0 F In) (fr : ∀ b, F b → base ≤ b ∧ b < w.heap.size ∧ (Value.slice A n c).ownBlock ≠ some b) :
  Nest w base e size A n c xs B0 F In := ⟨h, hi, st, fun b hb => ⟨(fr b hb).1, (fr b hb).2.1⟩, fun b hg hb => (fr b hb).2.2 hg⟩
/-- other fact, same reads -/
theorem Nest.as {w : World} {base size n c : Nat} {e : TypeId} {A : Option Addr} {xs : List Value} {B0 : Nat} {F : Nat → Prop} {In In' : World → Prop} (h : Nest w base e size A n c xs B0 F In) (hi : ∀ w, In w ↔ In' w) : Nest w base e size A n c xs B0 F In' :=
 ⟨h.own, (hi w).1 h.inn, h.st.congr hi, h.fr, h.ap⟩

theorem Rd.st {B0 size : Nat} {A : Option Addr} {n : Nat} {xs : List Value} {F : Nat → Prop} (hF : ∀ ad, A = some ad → ad.block < B0 ∨ F ad.block) : St B0 F (fun w => Rd w w.heap.size size A n xs) := fun w w' hs hb h => by
 refine ⟨h.len, fun hn => ?_⟩
 obtain ⟨ad, e, hlt, hc⟩ := h.at_ hn
 refine ⟨ad, e, Nat.lt_of_lt_of_le hlt hs, fun j u hu => ?_⟩
 rw [World.cell?_of_block (w := w) (hb _ (by rw [add_block]; exact hF ad e) (by rw [add_block]; exact hlt))]
 exact hc j u hu
theorem BytesAt.st {B0 : Nat} {A : Option Addr} {n c : Nat} {b : List UInt8} {F : Nat → Prop} (hF : ∀ ad, A = some ad → ad.block < B0 ∨ F ad.block) : St B0 F (fun w => BytesAt w w.heap.size (.slice A n c) b) := fun w w' hs hb h => by
 obtain ⟨A', c', e, h1, h2, h3⟩ := h
 injection e with e1 e2 e3
 subst e1 e2 e3
 exact ⟨_, _, rfl, h1, h2, (Rd.st hF) w w' hs hb h3⟩
section
variable {P : Program} {w : World} {rs : List Res}
/-- append an element that points to blocks of its own onto a row of the call's own -/
theorem wl_app_nest {ops : Array Oper} {rest : List Oper} {o : Oper} {a : Act} {Q : Exit → Act → World → Prop} {t e : TypeId} {z : Value} {size bytes : Nat} (E : ElemOf P t e z size bytes) (hR : All w rs) (i : Nat) (hgd : o.guard = none) (s x : Operand)
  (ho : o.op = .call { callee := .builtin .append, args := #[s, x], argTypes := #[t, t] })
  (base : Nat) (A0 : Option Addr) (n c0 : Nat) (xs : List Value) (B0 : Nat) (F : Nat → Prop) (In : World → Prop) (hi : rs[i]? = some (.nest base e size A0 n c0 xs B0 F In)) (hs : a.eval s = .slice A0 n c0)
  (B : Nat) (A : Option Addr) (m c : Nat) (news : List Value) (hx : a.eval x = .slice A m c) (hr : Rd w B size A m news) (h1 : ∀ u ∈ news, u.oneCell' = true)
  (hbytes : (n + m) * bytes ≤ 140737488355328) (hbase : base ≤ w.heap.size) (hB0 : B0 ≤ base)
  (F' : Nat → Prop) (In' : World → Prop) (hin : In' w) (hst : St B0 F' In') (hF' : ∀ b, F' b → base ≤ b ∧ b < w.heap.size ∧ (Value.slice A0 n c0).ownBlock ≠ some b)
  (hap : ∀ g, base ≤ g → (Value.slice A0 n c0).ownBlock = some g → Apart (some g) (rs.eraseIdx i))
  (h : ∀ A' c' w', All w' (rs.set i (.nest base e size A' (n + m) c' (xs ++ news) B0 (fun b => F b ∨ F' b) (fun w => In w ∧ In' w))) → w.heap.size ≤ w'.heap.size → wpList P ops Q rest (a.put o.dst (.slice A' (n + m) c')) w') : wpList P ops Q (o :: rest) a w := by
 have hn : Nest w base e size A0 n c0 xs B0 F In := hR.at_ i hi
 refine wpList_plain hgd fun _ hK => wp_app6 w E s x ho base A0 n c0 xs hs hn.own B A m c news hx hr h1 hbytes hbase fun A' c' w' h2 h4 h6 => hK _ _ (h A' c' w' ?_ h4.size)
 refine All.upd h4 i _ hR ?_ ?_
 ·refine Nest.of h2 ?_ (hn.st.and hst) ?_
  ·refine (hn.st.and hst) w w' h4.size (fun b hb hlt => h4.block b hlt (fun e => ?_)) ⟨hn.inn, hin⟩
   rcases hb with hb | hb | hb
   ·have := (hn.own.lt e.symm).1; omega
   ·exact hn.ap b e.symm hb
   ·exact (hF' b hb).2.2 e.symm
  ·intro b hb
   have hq : base ≤ b ∧ b < w.heap.size ∧ (Value.slice A0 n c0).ownBlock ≠ some b := by
    rcases hb with hb | hb
    ·exact ⟨(hn.fr b hb).1, (hn.fr b hb).2, fun e => hn.ap b e hb⟩
    ·exact hF' b hb
   refine ⟨hq.1, Nat.lt_of_lt_of_le hq.2.1 h4.size, fun e => ?_⟩
   rcases h6 with h6 | h6
   ·rw [h6] at e; exact hq.2.2 e
   ·rw [h6] at e; injection e with e; omega
 ·cases hq : (Value.slice A0 n c0).ownBlock with
  | none => exact Apart.none _
  | some g => exact hap g (hn.own.lt hq).1 hq
end
end Go.Adm
namespace Go.Adm
open Go Go.RowKit

theorem fold_fill (off : Nat) : ∀ (es old pre post : List Value) (k : Nat), old.length = es.length → pre.length = off + k →
  (es.zipIdx k).foldl (fun (cs : Array Value) (x : Value × Nat) => cs.setIfInBounds (off + x.2) x.1) (pre ++ (old ++ post)).toArray = (pre ++ (es ++ post)).toArray
 | [], old, pre, post, k, h, _ => by
  obtain rfl := List.eq_nil_of_length_eq_zero h
  rfl
 | e :: es, old, pre, post, k, h, hp => by
  cases old with
  | nil => simp at h
  | cons o old =>
   have h' : old.length = es.length := by simpa using h
   rw [List.zipIdx_cons, List.foldl_cons]
   have e1 : (pre ++ (o :: old ++ post)).toArray.setIfInBounds (off + k) e = ((pre ++ [e]) ++ (old ++ post)).toArray := by
    rw [List.setIfInBounds_toArray, List.set_append_right _ _ (by omega), hp, Nat.sub_self]
    simp
   show List.foldl _ ((pre ++ (o :: old ++ post)).toArray.setIfInBounds (off + k) e) _ = _
   rw [e1, fold_fill off es old (pre ++ [e]) post (k + 1) h' (by simp; omega)]
   simp
theorem fill_one {size : Nat} {es old : List Value} (h1 : es.length = size) (h2 : old.length = size) : Instr.fill (fun i => some (i * size, size)) old.toArray [(0, .agg es.toArray)] = some es.toArray := by
 have h3 := fold_fill 0 es old [] [] 0 (by omega) rfl
 simp only [List.nil_append, List.append_nil] at h3
 have hc : (Value.agg es.toArray).cells = es.toArray := rfl
 simp only [Instr.fill, hc, Nat.zero_mul, Nat.zero_add]
 rw [if_neg (by simp [h1, h2])]
 congr 1
 have h4 : es.toArray.zipIdx = (es.zipIdx 0).toArray := by simp
 rw [h4, List.foldl_toArray]
 simpa using h3
/-- a literal of one element that takes several cells -/
theorem wl_lit1 {P : Program} {ops : Array Oper} {rest : List Oper} {o : Oper} {a : Act} {w : World} {Q : Exit → Act → World → Prop} {t e : TypeId} {z : Value} {size bytes : Nat} (E : ElemOf P t e z size bytes) (hg : o.guard = none) (x : Operand) (ho : o.op = .buildSlice t 1 #[(0, x)])
  (es : List Value) (hx : a.eval x = .agg es.toArray) (hl : es.length = size) (hs : size ≤ 1000000)
  (h : wpList P ops Q rest (a.put o.dst (.slice (some ⟨w.heap.size, 0, none⟩) 1 1)) (w.alloc (.cells es.toArray e))) : wpList P ops Q (o :: rest) a w := by
 obtain ⟨i, hi, hz, hsize, _⟩ := E.hi
 have hpos := E.hs
 refine wpList_buildSlice hg t e 1 #[(0, x)] ho es.toArray i z E.ht hi hz (by rw [hsize]; omega) (by rw [hsize]; omega) ?_ h
 have h1 : ((#[(0, x)] : Array (Nat × Operand)).map fun (i, x) => (i, a.eval x)).toList = [(0, .agg es.toArray)] := by simp [hx]
 rw [h1, hsize]
 have h2 : (Array.range (1 * size)).map (z.cells[· % z.cells.size]!) = ((Array.range (1 * size)).map (z.cells[· % z.cells.size]!)).toList.toArray := (Array.toArray_toList ..).symm
 rw [h2]
 exact fill_one hl (by simp)
/-- a literal of one element that takes several cells -/
theorem wp_lit1 {P : Program} {K : Act → World → Prop} {o : Oper} {a : Act} {w : World} {Q : Exit → Act → World → Prop} {t e : TypeId} {z : Value} {size bytes : Nat} (E : ElemOf P t e z size bytes) (x : Operand) (ho : o.op = .buildSlice t 1 #[(0, x)])
  (es : List Value) (hx : a.eval x = .agg es.toArray) (hl : es.length = size) (hs : size ≤ 1000000)
  (h : K (a.put o.dst (.slice (some ⟨w.heap.size, 0, none⟩) 1 1)) (w.alloc (.cells es.toArray e))) : o.wp P a w K Q := by
 obtain ⟨i, hi, hz, hsize, _⟩ := E.hi
 have hpos := E.hs
 refine wp_buildSlice t e 1 #[(0, x)] ho es.toArray i z E.ht hi hz (by rw [hsize]; omega) (by rw [hsize]; omega) ?_ h
 have h1 : ((#[(0, x)] : Array (Nat × Operand)).map fun (i, x) => (i, a.eval x)).toList = [(0, .agg es.toArray)] := by simp [hx]
 rw [h1, hsize]
 have h2 : (Array.range (1 * size)).map (z.cells[· % z.cells.size]!) = ((Array.range (1 * size)).map (z.cells[· % z.cells.size]!)).toList.toArray := (Array.toArray_toList ..).symm
 rw [h2]
 exact fill_one hl (by simp)
theorem Rd.grown {w w' : World} {size n : Nat} {A : Option Addr} {xs : List Value} (hg : w.grownBy w' none) (h : Rd w w.heap.size size A n xs) : Rd w' w'.heap.size size A n xs :=
 (h.keep fun p hp => World.cell?_of_block (w := w) (hg.block _ hp (by simp))).mono hg.size
def VF.rd (size n : Nat) (xs : List Value) : VF := .gen (fun w v => ∃ A c, v = .slice A n c ∧ Rd w w.heap.size size A n xs) fun _ _ _ hg ⟨A, c, hv, h⟩ => ⟨A, c, hv, h.grown hg⟩
/-- one part of a literal -/
theorem fill_step {place : Nat → Option (Nat × Nat)} {cells : Array Value} {i off size : Nat} {v : Value} {rest : List (Nat × Value)} {es pre old post : List Value} (hp : place i = some (off, size)) (hc : cells = (pre ++ (old ++ post)).toArray) (ho : pre.length = off) (hl : old.length = size) (hv : v.cells = es.toArray) (he : es.length = size) :
  Instr.fill place cells ((i, v) :: rest) = Instr.fill place (pre ++ (es ++ post)).toArray rest := by
 subst hc
 have h3 := fold_fill off es old pre post 0 (by omega) (by omega)
 simp only [Instr.fill, hp, hv]
 rw [if_neg (by simp; omega)]
 have h4 : es.toArray.zipIdx = (es.zipIdx 0).toArray := by simp
 rw [h4, List.foldl_toArray]
 congr 1
def placesOf (fields : Array Field) : Sem (Array (Nat × Nat)) := fields.mapM fun (f : Field) => do pure (f.offset, ← sizeOf f.type)
theorem run_build_struct {P : Program} (w : World) (t : TypeId) (fields : Array Field) (z : Value) (places : Array (Nat × Nat)) (parts : Array (Nat × Value)) (cells : Array Value)
  (hz : (zeroValue t).run P w = .ok z w) (hu : P.underlying t = some (.struct fields)) (hp : (placesOf fields).run P w = .ok places w)
  (hf : Instr.fill (places[·]?) z.cells parts.toList = some cells) : (Instr.build t parts).run P w = .ok (.agg cells) w := by
 unfold placesOf at hp
 simp only [Instr.build, Sem.run_bind, hz, Result.andThen_ok, run_underlying hu w, hp, hf, Sem.run_pure]
theorem wl_build {P : Program} {ops : Array Oper} {rest : List Oper} {o : Oper} {a : Act} {w : World} {Q : Exit → Act → World → Prop} (hg : o.guard = none) (t : TypeId) (parts : List (Nat × Operand)) (ho : o.op = .build t parts.toArray)
  (fields : Array Field) (z : Value) (places : Array (Nat × Nat)) (cells : Array Value)
  (hz : ∀ w, (zeroValue t).run P w = .ok z w) (hu : P.underlying t = some (.struct fields)) (hp : ∀ w, (placesOf fields).run P w = .ok places w)
  (hf : Instr.fill (places[·]?) z.cells (parts.map fun x => (x.1, a.eval x.2)) = some cells)
  (h : wpList P ops Q rest (a.put o.dst (.agg cells)) w) : wpList P ops Q (o :: rest) a w :=
 wpList_plain hg fun _ hK => by
  have hf' : Instr.fill (places[·]?) z.cells ((parts.toArray.map fun (i, x) => (i, a.eval x)).toList) = some cells := by
   rw [Array.toList_map]; exact hf
  unfold Oper.wp execOp
  simp only [ho, Sem.run_bind, run_build_struct w t fields z places _ cells (hz w) hu (hp w) hf', Result.andThen_ok]
  exact hK _ _ h
end Go.Adm
namespace Go.Adm
open Go Go.RowKit

def Res.lowLe (B : Nat) : Res → Prop
 | .low l => l.B ≤ B
 | .cells _ _ _ => True
 | .own .. => True
 | .nest .. => False
 | .kept _ B' => B' ≤ B
def LowLe (B : Nat) : List Res → Prop
 | [] => True
 | r :: rs => r.lowLe B ∧ LowLe B rs
theorem Res.dead {w w' : World} {B D : Nat} {o : Obj} (hg : w.grownBy w' (some D)) (hB : B ≤ D) (hD : w.heap[D]? = some o) (ho : o.isCells = false) : ∀ {r : Res}, r.ok w → r.lowLe B → r.ok w'
 | .low l, h, hl => Res.step (r := .low l) hg h (fun g e => by injection e with e; have : l.B ≤ B := hl; omega)
 | .cells g t cs, h, _ => Res.step (r := .cells g t cs) hg h (fun e => by
   injection e with e; subst e
   have h' : w.heap[g]? = some (.cells cs.toArray t (0, 0)) := h
   rw [hD] at h'; injection h' with h'; rw [h'] at ho; cases ho)
 | .own base e size A n c xs, h, _ => Res.step (r := .own base e size A n c xs) hg h (fun g e => by
   injection e with e; subst e
   right
   intro hb
   have h' : Own w base _ size A n c xs := h
   rcases h'.2 with ⟨h2, _⟩ | ⟨g, cap, cur, hv, _, hh, _⟩
   ·rw [h2] at hb; cases hb
   ·rw [hv] at hb
    injection hb with hb
    simp only at hb
    rw [hb, hD] at hh
    injection hh with hh; rw [hh] at ho; cases ho)
 | .kept w0 B', h, hl => Res.step (r := .kept w0 B') hg h (fun g e => by injection e with e; have : B' ≤ B := hl; omega)
theorem All.dead {w w' : World} {B D : Nat} {o : Obj} (hg : w.grownBy w' (some D)) (hB : B ≤ D) (hD : w.heap[D]? = some o) (ho : o.isCells = false) : ∀ {rs : List Res}, All w rs → LowLe B rs → All w' rs
 | [], _, _ => trivial
 | _ :: _, h, hl => ⟨Res.dead hg hB hD ho h.1 hl.1, All.dead hg hB hD ho h.2 hl.2⟩
theorem all_from {β : Type} {B : Nat} {f : β → List Res} (hl : ∀ s, LowLe B (f s)) : OwnFrom B (fun s W => All W (f s)) := fun s W W' row hs hg hr => by
 cases row with
 | none => exact hs.quiet hg
 | some D =>
  obtain ⟨hB, o, ho, hc⟩ := hr D rfl
  exact hs.dead hg hB ho hc (hl s)
def coll (D : Nat) : Deferred := { target := .collected D, args := #[] }
theorem leaves_all {F : Fence} {n : Nat} {P : Program} {fn : Func} {tmps : Array Value} {R : Ending → World → Prop} {B : Nat} : ∀ (Ds : List Nat) (W : World), (∀ D ∈ Ds, B ≤ D ∧ W.heap[D]? = some (.deferred (some []))) → Ds.Nodup →
  (∀ W', (∀ rs, LowLe B rs → All W rs → All W' rs) → W'.heap.size = W.heap.size → LeavesInM F n P fn tmps R [] .returning W') → LeavesInM F n P fn tmps R (Ds.map coll) .returning W
 | [], W, _, _, h => h W (fun _ _ h => h) rfl
 | D :: Ds, W, hD, hn, h => by
  obtain ⟨hB, hK⟩ := hD D (by simp)
  refine ⟨by simp, .inl ⟨D, _, rfl, run_takeDeferred hK, ?_⟩⟩
  refine leaves_all Ds _ (fun D' hD' => ?_) (List.nodup_cons.1 hn).2 (fun W' hW' hs => h W' (fun rs hl ha => hW' rs hl (ha.dead (grownBy_putObj' W D (.deferred none)) hB hK rfl hl)) (by rw [hs]; simp))
  have hne : D ≠ D' := fun e => by subst e; exact (List.nodup_cons.1 hn).1 hD'
  obtain ⟨h1, h2⟩ := hD D' (by simp [hD'])
  exact ⟨h1, (World.putObj_heap_other (fun e => hne e.symm)).trans h2⟩
/-- append onto a row of the call's own, in a round -/
theorem wlIn_app {F : Fence} {nF : Nat} {P : Program} {w : World} {ops : Array Oper} {rest : List Oper} {o : Oper} {a : Act} {Q : Exit → Act → World → Prop} {t e : TypeId} {z : Value} {size bytes : Nat} (E : ElemOf P t e z size bytes) (hgd : o.guard = none) (s x : Operand)
  (ho : o.op = .call { callee := .builtin .append, args := #[s, x], argTypes := #[t, t] })
  (base : Nat) (A0 : Option Addr) (n c0 : Nat) (xs : List Value) (hs : a.eval s = .slice A0 n c0) (hown : Own w base e size A0 n c0 xs)
  (B : Nat) (A : Option Addr) (m c : Nat) (news : List Value) (hx : a.eval x = .slice A m c) (hr : Rd w B size A m news) (h1 : ∀ u ∈ news, u.oneCell' = true)
  (hbytes : (n + m) * bytes ≤ 140737488355328) (hbase : base ≤ w.heap.size)
  (h : ∀ A' c' w', Own w' base e size A' (n + m) c' (xs ++ news) → w.grownBy w' (Value.slice A0 n c0).ownBlock → ((Value.slice A' (n + m) c').ownBlock = (Value.slice A0 n c0).ownBlock ∨ (Value.slice A' (n + m) c').ownBlock = some w.heap.size) → wpListIn F nF P ops Q rest (a.put o.dst (.slice A' (n + m) c')) w') : wpListIn F nF P ops Q (o :: rest) a w := by
 refine wpListIn_plain hgd fun K hK => ?_
 obtain ⟨A', c', w', hrun, h2, _, h4, _, h6⟩ := run_app (P := P) w E base o.type A0 n c0 xs hown B A m c news hr h1 hbytes hbase
 unfold Oper.wpIn
 refine ⟨by simp [Oper.about, ho, resolve, Target.leads, Sem.run_pure], ?_⟩
 rw [Oper.semAt_plain F _ _ (by rw [ho]; intro c hc'; cases hc')]
 simp [execOp, ho, resolve, invoke, builtin, hs, hx, hrun, Result.andThen]
 exact hK _ _ (h A' c' w' h2 h4 h6)
theorem Own.isCells {w : World} {base size n c : Nat} {e : TypeId} {A : Option Addr} {xs : List Value} (h : Own w base e size A n c xs) (j : Nat) (o : Obj) (hj : (Value.slice A n c).ownBlock = some j) (ho : w.heap[j]? = some o) : o.isCells = true := by
 rcases h.2 with ⟨h2, _⟩ | ⟨g, cap, cur, hv, _, hh, _⟩
 ·rw [h2] at hj; cases hj
 ·rw [hv] at hj
  injection hj with hj
  simp only at hj
  rw [hj, ho] at hh
  injection hh with hh
  rw [hh]; rfl
end Go.Adm
namespace Go.Adm
open Go Go.RowKit

theorem mapM_some {α β : Type} {f : α → Option β} {g : α → β} : ∀ {l : List α}, (∀ x ∈ l, f x = some (g x)) → l.mapM f = some (l.map g)
 | [], _ => rfl
 | x :: l, h => by
  rw [List.mapM_cons, h x (by simp), mapM_some fun y hy => h y (by simp [hy])]
  rfl
def bl (x : UInt8) : Lit := .int .u8 x.toNat
theorem bl_inj {x y : UInt8} (h : bl x = bl y) : x = y := by
 unfold bl at h
 injection h with _ h
 exact UInt8.toNat_inj.1 (by omega)
theorem map_bl_inj {x y : List UInt8} (h : x.map bl = y.map bl) : x = y := (List.map_inj_right (fun _ _ h => bl_inj h)).1 h
theorem kl_byte {P : Program} {e : TypeId} (he : P.underlying e = some (.int .u8)) (x : UInt8) : P.keyLits 1 e [bv x] = some [bl x] := by
 have h := x.toNat_lt
 unfold Program.keyLits
 rw [he]
 simp only [bv]
 have hw : (Lit.int .u8 (x.toNat : Int)).wf = true := by
  have h2 : IntKind.u8.min = 0 := rfl
  have h3 : IntKind.u8.max = 255 := rfl
  simp [Lit.wf, h2, h3]; omega
 simp [hw, bl]
theorem kl_bytes {P : Program} {t e : TypeId} {n : Nat} (hu : P.underlying t = some (.array n e)) (he : P.underlying e = some (.int .u8)) (hce : P.cellsOf e = 1) (hct : P.cellsOf t = n) (b : List UInt8) (hb : b.length = n) :
  P.keyLits 2 t (b.map bv) = some (b.map bl) := by
 unfold Program.keyLits
 rw [hu]
 simp only [List.length_map, hct, hb, if_true]
 have h1 : (List.range n).mapM (fun i => P.keyLits 1 e (((b.map bv).drop (i * P.cellsOf e)).take (P.cellsOf e))) = some ((List.range n).map fun i => [bl (b.getD i 0)]) := mapM_some fun i hi => by
  have hi' : i < b.length := by rw [hb]; simpa using hi
  rw [hce, Nat.mul_one, List.drop_eq_getElem_cons (by simpa using hi'), List.take_succ_cons, List.take_zero, List.getElem_map, kl_byte he]
  simp [List.getD, hi']
 rw [h1]
 simp only [Option.map_some]
 congr 1
 have h2 : ∀ (l : List UInt8), ((List.range l.length).map fun i => [bl (l.getD i 0)]).flatten = l.map bl := fun l => by
  have h3 : (List.range l.length).map (fun i => [bl (l.getD i 0)]) = l.map fun x => [bl x] := by
   apply List.ext_getElem
   ·simp
   ·intro i h1 h2
    have : i < l.length := by simpa using h1
    simp [List.getD, this]
  rw [h3]
  clear h3
  induction l with
  | nil => rfl
  | cons x l ih => rw [List.map_cons, List.flatten_cons, ih]; rfl
 rw [← hb]; exact h2 b
theorem run_eq_deep {P : Program} (w : World) (m : Nat) (t : TypeId) (hm : m ≤ 100) (hk : P.keyTypeAt m t = true) {D D' : Nat} {xs ys : Array Value} {la lb : List Lit} (h1 : (Value.agg xs).formed P t = true) (h2 : (Value.agg ys).formed P t = true)
  (ha : P.keyLits D t xs.toList = some la) (hb : P.keyLits D' t ys.toList = some lb) (r : Bool) (hr : r = true ↔ la = lb) : (binOp .eql t (.agg xs) (.agg ys)).run P w = .ok (.bool r) w := by
 obtain ⟨r', h3, h4⟩ := run_equalIn_deep (P := P) (10000 - m) m t hk w D D' (.agg xs) (.agg ys) la lb h1 h2 ha hb
 rw [show 10000 - m + m = 10000 from by omega] at h3
 rw [run_eql_struct, h3]
 have : r' = r := by
  cases r <;> cases r' <;> simp_all
 rw [this]
 rfl
end Go.Adm

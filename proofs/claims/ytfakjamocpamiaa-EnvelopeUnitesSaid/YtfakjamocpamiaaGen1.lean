/- General lemmas over any program: slices that read as lists, slices that the call owns, append, conversions. A block of memory that is known whole. -/
import Derived.Test.YtfakjamocpamiaaRows
import Derived.WalkKit
import Derived.WalkSpells
import Derived.WalkLawsBesides
import Derived.Lib.Hide
import Derived.Maps.AppendAt
import Derived.Deep.AppendLies
import Derived.Deep.RegionLaw
import Derived.Deep.Draws
import Derived.Deep.Slices
import Derived.ProofKit
import Derived.OpenShut
import Derived.JoinedCond
import Derived.Lib.AppendStr
import Derived.Lib.SmallJoins
import Derived.Deep.MidRow
import Derived.Laws.CopyOwn
set_option linter.unusedSimpArgs false
set_option linter.unusedVariables false
namespace Go.Adm
open Go Go.RowKit

/-! ### endings -/
theorem ret_bool {a b : Bool} (h : a = b) : Ending.returned (.bool a) = .returned (.bool b) := by rw [h]
theorem ret_int {k : IntKind} {a b : Int} (h : a = b) : Ending.returned (.int k a) = .returned (.int k b) := by rw [h]
theorem ret_str {a b : List UInt8} (h : a = b) : Ending.returned (.string ⟨a.toArray⟩) = .returned (.string ⟨b.toArray⟩) := by rw [h]

/-! ### addresses -/
theorem add_block (a : Addr) (n : Nat) : (a.add n).block = a.block := by unfold Addr.add; split <;> rfl
theorem add_add (a : Addr) (i j : Nat) : (a.add i).add j = a.add (i + j) := by
 unfold Addr.add
 by_cases hi : i = 0 <;> by_cases hj : j = 0 <;> simp [hi, hj, Nat.add_assoc]
theorem add_zero (a : Addr) : a.add 0 = a := by unfold Addr.add; simp
theorem add_lit (g i j : Nat) : (⟨g, i, none⟩ : Addr).add j = ⟨g, i + j, none⟩ := by unfold Addr.add; split <;> simp_all

/-! ### a slice that reads as a list of cells -/
structure Rd (w : World) (B size : Nat) (A : Option Addr) (n : Nat) (xs : List Value) : Prop where
 len : xs.length = n * size
 at_ : 0 < n → ∃ ad, A = some ad ∧ ad.block < B ∧ ∀ j u, xs[j]? = some u → w.cell? (ad.add j) = some u

section
variable {w w' : World} {B B' size n : Nat} {A : Option Addr} {xs : List Value}
theorem Rd.nil : Rd w B size A 0 [] := ⟨by simp, fun h => absurd h (by omega)⟩
theorem Rd.keep (h : Rd w B size A n xs) (hk : ∀ p : Addr, p.block < B → w'.cell? p = w.cell? p) : Rd w' B size A n xs :=
 ⟨h.len, fun hn => by
  obtain ⟨ad, e, hb, hc⟩ := h.at_ hn
  exact ⟨ad, e, hb, fun j u hu => (hk _ (by rw [add_block]; exact hb)).trans (hc j u hu)⟩⟩
theorem Rd.mono (h : Rd w B size A n xs) (hB : B ≤ B') : Rd w B' size A n xs :=
 ⟨h.len, fun hn => by
  obtain ⟨ad, e, hb, hc⟩ := h.at_ hn
  exact ⟨ad, e, by omega, hc⟩⟩
theorem Rd.below (h : Rd w B size A n xs) (hb : Below B' w w') (hB : B ≤ B') : Rd w' B size A n xs := h.keep fun _ hp => hb.cell (by omega)
theorem Rd.drew (h : Rd w B size A n xs) : Rd w.drew B size A n xs := ⟨h.len, h.at_⟩
theorem Rd.drewN (h : Rd w B size A n xs) (k : Nat) : Rd (w.drewN k) B size A n xs := ⟨h.len, h.at_⟩
theorem Rd.alloc (h : Rd w B size A n xs) (hB : B ≤ w.heap.size) (o : Obj) : Rd (w.alloc o) B size A n xs := h.keep fun p hp => World.cell?_alloc_lt w o p (by omega)
theorem Rd.setCell (h : Rd w B size A n xs) {p : Addr} (hB : B ≤ p.block) (u : Value) : Rd (w.setCell p u) B size A n xs :=
 h.keep fun q hq => World.cell?_setCell_other w p q u (fun e => by subst e; omega)
theorem Rd.cell (h : Rd w B 1 A n xs) {k : Nat} (hk : k < n) : ∃ ad u, A = some ad ∧ ad.block < B ∧ xs[k]? = some u ∧ w.cell? (ad.add k) = some u := by
 obtain ⟨ad, e, hb, hc⟩ := h.at_ (by omega)
 have hl : k < xs.length := by have := h.len; omega
 exact ⟨ad, xs[k], e, hb, List.getElem?_eq_getElem hl, hc k _ (List.getElem?_eq_getElem hl)⟩
theorem Rd.lit (w : World) (cs : Array Value) (e : TypeId) (m : Nat) (hm : cs.size = m * size) : Rd (w.alloc (.cells cs e)) (w.heap.size + 1) size (some ⟨w.heap.size, 0, none⟩) m cs.toList :=
 ⟨by simpa using hm, fun _ => ⟨_, rfl, Nat.lt_succ_self _, fun j u hu => by
  rw [add_lit, cell_of_row _ _ _ cs e (0, 0) (heap_alloc_new w _), Nat.zero_add]
  simpa using hu⟩⟩
theorem Rd.cut (h : Rd w B size A n xs) {k cap : Nat} (hk : k ≤ n) (hc : n ≤ cap) : Rd w B size (if cap = k then A else A.map (·.add (k * size))) (n - k) (xs.drop (k * size)) := by
 refine ⟨by rw [List.length_drop, h.len, Nat.sub_mul], fun hn => ?_⟩
 obtain ⟨ad, rfl, hb, hcell⟩ := h.at_ (by omega)
 rw [if_neg (by omega)]
 refine ⟨ad.add (k * size), rfl, by rw [add_block]; exact hb, fun j u hu => ?_⟩
 rw [add_add]
 exact hcell _ u (by rw [← hu, List.getElem?_drop])
theorem Rd.take (h : Rd w B size A n xs) {k : Nat} (hk : k ≤ n) : Rd w B size A k (xs.take (k * size)) := by
 refine ⟨by rw [List.length_take, h.len]; exact Nat.min_eq_left (Nat.mul_le_mul_right _ hk), fun hn => ?_⟩
 obtain ⟨ad, rfl, hb, hcell⟩ := h.at_ (by omega)
 exact ⟨ad, rfl, hb, fun j u hu => hcell j u (by rw [List.getElem?_take] at hu; split at hu <;> simp_all)⟩
end

/-! ### a slice that the call owns -/
def Own (w : World) (base : Nat) (e : TypeId) (size : Nat) (A : Option Addr) (n c : Nat) (xs : List Value) : Prop := w.ownsRow base e size (.slice A n c) n xs

section
variable {w w' : World} {base base' n c size : Nat} {e : TypeId} {A : Option Addr} {xs : List Value}
theorem Own.nil (w : World) (base : Nat) (e : TypeId) (size : Nat) : Own w base e size none 0 0 [] := World.ownsRow_nil w base e size
theorem Own.rd (h : Own w base e size A n c xs) : Rd w w.heap.size size A n xs := by
 refine ⟨h.1, fun hn => ?_⟩
 obtain ⟨g, cap, hv, _, hlt⟩ := World.ownsRow.form h hn
 have hA : A = some ⟨g, 0, none⟩ := by injection hv
 subst hA
 exact ⟨_, rfl, hlt, World.ownsRow.cells h rfl⟩
theorem Own.cap (h : Own w base e size A n c xs) : n ≤ c ∧ c ≤ maxLen := by
 rcases h.2 with ⟨h1, h2⟩ | ⟨g, cap, cur, hv, _, _, h1, h2, _⟩
 ·injection h1 with _ h3 h4; subst h4; subst h2; simp [maxLen]
 ·injection hv with _ _ h3; subst h3; exact ⟨h1, h2⟩
theorem Own.none (h : Own w base e size Option.none n c xs) : n = 0 ∧ c = 0 ∧ xs = [] := by
 rcases h.2 with ⟨h1, h2⟩ | ⟨g, cap, cur, hv, _⟩
 ·injection h1 with _ h3 h4
  refine ⟨h2, h4, List.eq_nil_of_length_eq_zero ?_⟩
  rw [h.1, h2, Nat.zero_mul]
 ·injection hv with h1; cases h1
theorem Own.lt {g : Nat} (h : Own w base e size A n c xs) (hg : (Value.slice A n c).ownBlock = some g) : base ≤ g ∧ g < w.heap.size := World.ownsRow.lt h g hg
theorem Own.cast {n' : Nat} {xs' : List Value} (h : Own w base e size A n c xs) (hn : n = n') (hx : xs = xs') : Own w base e size A n' c xs' := by subst hn; subst hx; exact h
theorem slice_len {n n' : Nat} (A : Option Addr) (c : Nat) (h : n = n') : Value.slice A n c = Value.slice A n' c := by rw [h]
theorem Own.drew (h : Own w base e size A n c xs) : Own w.drew base e size A n c xs := h
theorem Own.drewN (h : Own w base e size A n c xs) (k : Nat) : Own (w.drewN k) base e size A n c xs := h
theorem Own.alloc (h : Own w base e size A n c xs) (o : Obj) : Own (w.alloc o) base e size A n c xs := World.ownsRow.alloc h o
theorem Own.kept (h : Own w base e size A n c xs) (hb : Below w.heap.size w w') : Own w' base e size A n c xs := by
 refine ⟨h.1, ?_⟩
 rcases h.2 with h2 | ⟨g, cap, cur, hv, hg, hh, r⟩
 ·exact .inl h2
 ·refine .inr ⟨g, cap, cur, hv, hg, ?_, r⟩
  rw [hb.block g (by
   rcases Nat.lt_or_ge g w.heap.size with hlt | hge
   ·exact hlt
   ·rw [Array.getElem?_eq_none hge] at hh; cases hh)]
  exact hh
theorem Own.less (h : Own w base e size A n c xs) (hb : base' ≤ base) : Own w base' e size A n c xs := Go.Joins.ownsRow_le h hb
theorem Own.lit (w : World) (cs : Array Value) (n : Nat) (hb : base ≤ w.heap.size) (hm : n ≤ maxLen) (hs : cs.size = n * size) :
  Own (w.alloc (.cells cs e)) base e size (some ⟨w.heap.size, 0, Option.none⟩) n n cs.toList := World.ownsRow_lit w cs n hb hm hs
theorem Own.below {row : Option Nat} {v : Value} (h : w.ownsRow base e size v n xs) (hg : w.grownBy w' v.ownBlock) (hb : base ≤ w.heap.size) : Below base w w' :=
 (Below.refl base w).grown hg hb fun k hk => (World.ownsRow.lt h k hk).1
theorem own_forms {v : Value} (h : w.ownsRow base e size v n xs) : ∃ A c, v = .slice A n c := by
 rcases h.2 with ⟨rfl, rfl⟩ | ⟨g, cap, _, hv, _⟩
 ·exact ⟨_, _, rfl⟩
 ·exact ⟨_, _, hv⟩
end

/-- What the program's tables say of a slice type and its elements. -/
structure ElemOf (P : Program) (t e : TypeId) (z : Value) (size bytes : Nat) : Prop where
 ht : P.underlying t = some (.slice e)
 hi : ∃ i, P.info? e = some i ∧ i.zero = some z ∧ i.size = size ∧ i.bytes = bytes
 hz : z.cells.size = size
 hs : 0 < size
 hb : 0 < bytes
theorem ElemOf.mk' {P : Program} {t e : TypeId} {z : Value} {size bytes : Nat} (ht : P.underlying t = some (.slice e)) (hi : (P.info? e).map (fun i => (i.zero, i.size, i.bytes)) = some (some z, size, bytes)) (hz : z.cells.size = size) (hs : 0 < size) (hb : 0 < bytes) :
  ElemOf P t e z size bytes := by
 refine ⟨ht, ?_, hz, hs, hb⟩
 cases h : P.info? e with
 | none => rw [h] at hi; cases hi
 | some i =>
  rw [h] at hi
  simp only [Option.map_some, Option.some.injEq, Prod.mk.injEq] at hi
  exact ⟨i, rfl, hi.1, hi.2.1, hi.2.2⟩

/-! ### append -/
section
variable {P : Program} (w : World)

theorem run_app_none (base : Nat) (t ty e : TypeId) (i : TypeInfo) (size : Nat) (ht : P.underlying t = some (.slice e)) (hi : P.info? e = some i)
  (v : Value) (n : Nat) (xs : List Value) (hown : w.ownsRow base e size v n xs) (c : Nat) : (Builtin.append_ #[t, t] ty #[v, .slice none 0 c]).run P w = .ok v w := by
 rcases hown.2 with ⟨rfl, rfl⟩ | ⟨g, cap, cur, rfl, _, _, hnc, _⟩
 ·simp [Builtin.append_, run_underlying ht, sizeOf, typeInfo, hi, Builtin.lenOf, Builtin.firstCells]
 ·simp [Builtin.append_, run_underlying ht, sizeOf, typeInfo, hi, Builtin.lenOf, Builtin.firstCells, hnc, storeCells]

theorem run_app {t e : TypeId} {z : Value} {size bytes : Nat} (E : ElemOf P t e z size bytes) (base : Nat) (ty : TypeId)
  (A0 : Option Addr) (n c0 : Nat) (xs : List Value) (hown : Own w base e size A0 n c0 xs)
  (B : Nat) (A : Option Addr) (m c : Nat) (news : List Value) (hr : Rd w B size A m news) (h1 : ∀ u ∈ news, u.oneCell' = true)
  (hbytes : (n + m) * bytes ≤ 140737488355328) (hbase : base ≤ w.heap.size) :
  ∃ A' c' w', (Builtin.append_ #[t, t] ty #[.slice A0 n c0, .slice A m c]).run P w = .ok (.slice A' (n + m) c') w' ∧ Own w' base e size A' (n + m) c' (xs ++ news) ∧ Below base w w' ∧
   w.grownBy w' (Value.slice A0 n c0).ownBlock ∧ (A' = none → n + m = 0) ∧ ((Value.slice A' (n + m) c').ownBlock = (Value.slice A0 n c0).ownBlock ∨ (Value.slice A' (n + m) c').ownBlock = some w.heap.size) := by
 obtain ⟨i, hi, hz, hsize, hby⟩ := E.hi
 have h63 : n + m ≤ maxLen := by
  have := Nat.le_mul_of_pos_right (n + m) E.hb
  simp only [maxLen]; omega
 have main : ∃ v' w', (Builtin.append_ #[t, t] ty #[.slice A0 n c0, .slice A m c]).run P w = .ok v' w' ∧ w'.ownsRow base e size v' (n + m) (xs ++ news) ∧ w.grownBy w' (Value.slice A0 n c0).ownBlock ∧
   (v'.ownBlock = (Value.slice A0 n c0).ownBlock ∨ v'.ownBlock = some w.heap.size) := by
  rcases A with _ | ad
  ·have hm : m = 0 := by
    rcases Nat.eq_zero_or_pos m with h0 | h0
    ·exact h0
    ·obtain ⟨ad, h, _⟩ := hr.at_ h0
     cases h
   subst hm
   have hn : news = [] := List.eq_nil_of_length_eq_zero (by simpa using hr.len)
   subst hn
   exact ⟨_, w, run_app_none w base t ty e i size E.ht hi _ n xs hown c, by rw [Nat.add_zero, List.append_nil]; exact hown, World.grownBy.refl w _, .inl rfl⟩
  ·have hcells : ∀ j u, news[j]? = some u → w.cell? (ad.add j) = some u := by
    intro j u hu
    rcases Nat.eq_zero_or_pos m with h0 | h0
    ·subst h0
     have hn : news = [] := List.eq_nil_of_length_eq_zero (by simpa using hr.len)
     subst hn
     simp at hu
    ·obtain ⟨ad', h, _, hc⟩ := hr.at_ h0
     injection h with h
     subst h
     exact hc j u hu
   obtain ⟨v', w', hrun, h2, h3, _, h5⟩ := run_append_own_at (P := P) w base t ty e i z size bytes E.ht hi hz hsize hby E.hz E.hs _ n xs hown ad m c news hr.len hcells h1 h63 hbytes hbase
   exact ⟨v', w', hrun, h2, h3, h5⟩
 obtain ⟨v', w', hrun, h2, h3, h5⟩ := main
 obtain ⟨A', c', rfl⟩ := own_forms h2
 exact ⟨A', c', w', hrun, h2, Own.below (row := none) hown h3 hbase, h3, fun hA => by subst hA; exact (Own.none h2).1, h5⟩

theorem wp_app {o : Oper} {a : Act} {K : Act → World → Prop} {Q : Exit → Act → World → Prop} {t e : TypeId} {z : Value} {size bytes : Nat} (E : ElemOf P t e z size bytes) (s x : Operand)
  (ho : o.op = .call { callee := .builtin .append, args := #[s, x], argTypes := #[t, t] })
  (base : Nat) (A0 : Option Addr) (n c0 : Nat) (xs : List Value) (hs : a.eval s = .slice A0 n c0) (hown : Own w base e size A0 n c0 xs)
  (B : Nat) (A : Option Addr) (m c : Nat) (news : List Value) (hx : a.eval x = .slice A m c) (hr : Rd w B size A m news) (h1 : ∀ u ∈ news, u.oneCell' = true)
  (hbytes : (n + m) * bytes ≤ 140737488355328) (hbase : base ≤ w.heap.size)
  (h : ∀ A' c' w', Own w' base e size A' (n + m) c' (xs ++ news) → Below base w w' → w.grownBy w' (Value.slice A0 n c0).ownBlock → K (a.put o.dst (.slice A' (n + m) c')) w') : o.wp P a w K Q := by
 obtain ⟨A', c', w', hrun, h2, h3, h4, _⟩ := run_app (P := P) w E base o.type A0 n c0 xs hown B A m c news hr h1 hbytes hbase
 unfold Oper.wp execOp
 simp only [ho, resolve, invoke, builtin, Sem.run_bind, Sem.run_pure, Result.andThen_ok, List.map_toArray, List.map_cons, List.map_nil, hs, hx, hrun]
 exact h A' c' w' h2 h3 h4

theorem wp_app6 {o : Oper} {a : Act} {K : Act → World → Prop} {Q : Exit → Act → World → Prop} {t e : TypeId} {z : Value} {size bytes : Nat} (E : ElemOf P t e z size bytes) (s x : Operand)
  (ho : o.op = .call { callee := .builtin .append, args := #[s, x], argTypes := #[t, t] })
  (base : Nat) (A0 : Option Addr) (n c0 : Nat) (xs : List Value) (hs : a.eval s = .slice A0 n c0) (hown : Own w base e size A0 n c0 xs)
  (B : Nat) (A : Option Addr) (m c : Nat) (news : List Value) (hx : a.eval x = .slice A m c) (hr : Rd w B size A m news) (h1 : ∀ u ∈ news, u.oneCell' = true)
  (hbytes : (n + m) * bytes ≤ 140737488355328) (hbase : base ≤ w.heap.size)
  (h : ∀ A' c' w', Own w' base e size A' (n + m) c' (xs ++ news) → w.grownBy w' (Value.slice A0 n c0).ownBlock → ((Value.slice A' (n + m) c').ownBlock = (Value.slice A0 n c0).ownBlock ∨ (Value.slice A' (n + m) c').ownBlock = some w.heap.size) → K (a.put o.dst (.slice A' (n + m) c')) w') : o.wp P a w K Q := by
 obtain ⟨A', c', w', hrun, h2, _, h4, _, h6⟩ := run_app (P := P) w E base o.type A0 n c0 xs hown B A m c news hr h1 hbytes hbase
 unfold Oper.wp execOp
 simp only [ho, resolve, invoke, builtin, Sem.run_bind, Sem.run_pure, Result.andThen_ok, List.map_toArray, List.map_cons, List.map_nil, hs, hx, hrun]
 exact h A' c' w' h2 h4 h6

/-- append onto a row of the call's own, at the operation. -/
theorem wl_app {ops : Array Oper} {rest : List Oper} {o : Oper} {a : Act} {Q : Exit → Act → World → Prop} {t e : TypeId} {z : Value} {size bytes : Nat} (E : ElemOf P t e z size bytes) (hgd : o.guard = none) (s x : Operand)
  (ho : o.op = .call { callee := .builtin .append, args := #[s, x], argTypes := #[t, t] })
  (base : Nat) (A0 : Option Addr) (n c0 : Nat) (xs : List Value) (hs : a.eval s = .slice A0 n c0) (hown : Own w base e size A0 n c0 xs)
  (B : Nat) (A : Option Addr) (m c : Nat) (news : List Value) (hx : a.eval x = .slice A m c) (hr : Rd w B size A m news) (h1 : ∀ u ∈ news, u.oneCell' = true)
  (hbytes : (n + m) * bytes ≤ 140737488355328) (hbase : base ≤ w.heap.size)
  (h : ∀ A' c' w', Own w' base e size A' (n + m) c' (xs ++ news) → Below base w w' → w.grownBy w' (Value.slice A0 n c0).ownBlock → wpList P ops Q rest (a.put o.dst (.slice A' (n + m) c')) w') : wpList P ops Q (o :: rest) a w :=
 wpList_plain hgd fun _ hK => wp_app w E s x ho base A0 n c0 xs hs hown B A m c news hx hr h1 hbytes hbase fun A' c' w' h2 h3 h4 => hK _ _ (h A' c' w' h2 h3 h4)

theorem wl_app6 {ops : Array Oper} {rest : List Oper} {o : Oper} {a : Act} {Q : Exit → Act → World → Prop} {t e : TypeId} {z : Value} {size bytes : Nat} (E : ElemOf P t e z size bytes) (hgd : o.guard = none) (s x : Operand)
  (ho : o.op = .call { callee := .builtin .append, args := #[s, x], argTypes := #[t, t] })
  (base : Nat) (A0 : Option Addr) (n c0 : Nat) (xs : List Value) (hs : a.eval s = .slice A0 n c0) (hown : Own w base e size A0 n c0 xs)
  (B : Nat) (A : Option Addr) (m c : Nat) (news : List Value) (hx : a.eval x = .slice A m c) (hr : Rd w B size A m news) (h1 : ∀ u ∈ news, u.oneCell' = true)
  (hbytes : (n + m) * bytes ≤ 140737488355328) (hbase : base ≤ w.heap.size)
  (h : ∀ A' c' w', Own w' base e size A' (n + m) c' (xs ++ news) → w.grownBy w' (Value.slice A0 n c0).ownBlock → ((Value.slice A' (n + m) c').ownBlock = (Value.slice A0 n c0).ownBlock ∨ (Value.slice A' (n + m) c').ownBlock = some w.heap.size) → wpList P ops Q rest (a.put o.dst (.slice A' (n + m) c')) w') : wpList P ops Q (o :: rest) a w :=
 wpList_plain hgd fun _ hK => wp_app6 w E s x ho base A0 n c0 xs hs hown B A m c news hx hr h1 hbytes hbase fun A' c' w' h2 h3 h4 => hK _ _ (h A' c' w' h2 h3 h4)

/-- the same in a region that draws its order ('go_region_law'). -/
theorem st_app {ops : Array Oper} {o : Oper} {a : Act} {K : Act → World → Prop} {Q : Exit → Act → World → Prop} {F : Prop} {t e : TypeId} {z : Value} {size bytes : Nat} (E : ElemOf P t e z size bytes) (hgd : o.guard = none) (s x : Operand)
  (ho : o.op = .call { callee := .builtin .append, args := #[s, x], argTypes := #[t, t] })
  (base : Nat) (A0 : Option Addr) (n c0 : Nat) (xs : List Value) (hs : a.eval s = .slice A0 n c0) (hown : Own w base e size A0 n c0 xs)
  (B : Nat) (A : Option Addr) (m c : Nat) (news : List Value) (hx : a.eval x = .slice A m c) (hr : Rd w B size A m news) (h1 : ∀ u ∈ news, u.oneCell' = true)
  (hbytes : (n + m) * bytes ≤ 140737488355328) (hbase : base ≤ w.heap.size)
  (h : ∀ A' c' w', Own w' base e size A' (n + m) c' (xs ++ news) → Below base w w' → w.grownBy w' (Value.slice A0 n c0).ownBlock → K (a.put o.dst (.slice A' (n + m) c')) w') :
  if Region.wanted o (yielded ops a.tmps) = true then Oper.wp P o a w K Q else F := by
 rw [if_pos (by simp [Region.wanted, hgd])]
 exact wp_app w E s x ho base A0 n c0 xs hs hown B A m c news hx hr h1 hbytes hbase h

/-- 'append(out, s...)', s a string. -/
theorem wl_app_str {ops : Array Oper} {rest : List Oper} {o : Oper} {a : Act} {Q : Exit → Act → World → Prop} {t u e : TypeId} (E : ElemOf P t e (.int .u8 0) 1 1) (hu : P.underlying u = some .string) (hgd : o.guard = none) (s x : Operand)
  (ho : o.op = .call { callee := .builtin .append, args := #[s, x], argTypes := #[t, u] })
  (base : Nat) (A0 : Option Addr) (n c0 : Nat) (xs : List Value) (hs : a.eval s = .slice A0 n c0) (hown : Own w base e 1 A0 n c0 xs)
  (str : ByteArray) (hx : a.eval x = .string str) (hbytes : n + str.size ≤ 140737488355328) (hbase : base ≤ w.heap.size)
  (h : ∀ A' c' w', Own w' base e 1 A' (n + str.size) c' (xs ++ str.data.toList.map fun b => Value.int .u8 b.toNat) → Below base w w' → w.grownBy w' (Value.slice A0 n c0).ownBlock → wpList P ops Q rest (a.put o.dst (.slice A' (n + str.size) c')) w') : wpList P ops Q (o :: rest) a w :=
 wpList_plain hgd fun K hK => by
  obtain ⟨i, hi, hz, hsize, hby⟩ := E.hi
  obtain ⟨v', w', hrun, h2, h3, _⟩ := Lib.run_append_own_string (P := P) w base t u o.type e i E.ht hu hi hz hsize hby _ n xs hown str (by simp only [maxLen]; omega) hbytes hbase
  obtain ⟨A', c', rfl⟩ := own_forms h2
  unfold Oper.wp execOp
  simp only [ho, resolve, invoke, builtin, Sem.run_bind, Sem.run_pure, Result.andThen_ok, List.map_toArray, List.map_cons, List.map_nil, hs, hx, hrun]
  exact hK _ _ (h A' c' w' h2 (Own.below (row := none) hown h3 hbase) h3)
end

/-! ### bytes -/
theorem bsize (l : List UInt8) : (⟨l.toArray⟩ : ByteArray).size = l.length := by simp [ByteArray.size]
def bv (b : UInt8) : Value := .int .u8 b.toNat
theorem bv_one (l : List UInt8) : ∀ u ∈ l.map bv, u.oneCell' = true := by
 intro u hu
 obtain ⟨b, _, rfl⟩ := List.mem_map.1 hu
 rfl
theorem run_conv {P : Program} (w : World) (src dst e : TypeId) (hs : P.underlying src = some (.slice e)) (he : P.underlying e = some (.int .u8)) (hd : P.underlying dst = some .string)
  {B : Nat} {A : Option Addr} {n c : Nat} {l : List UInt8} (h : Rd w B 1 A n (l.map bv)) : (convert src dst (.slice A n c)).run P w = .ok (.string ⟨l.toArray⟩) w := by
 have hl : l.length = n := by simpa using h.len
 subst hl
 rcases Nat.eq_zero_or_pos l.length with h0 | h0
 ·have hnil : l = [] := List.eq_nil_of_length_eq_zero h0
  subst hnil
  cases A with
  | none => exact (run_convert_bytes_nil (P := P) w src e hs he 0 c dst hd)
  | some ad => exact run_convert_bytes_back w src dst e ad c [] hs he hd (fun j hj => absurd hj (by simp))
 ·obtain ⟨ad, rfl, _, hc⟩ := h.at_ h0
  exact run_convert_bytes_back w src dst e ad c l hs he hd (fun j hj => hc j _ (by simp [bv, List.getElem?_eq_getElem hj]))

/-! ### strings, lists of strings, documents -/
def sv (s : ByteArray) : Value := .string s
structure Strs (w : World) (B : Nat) (A : Option Addr) (n : Nat) (ss : List ByteArray) : Prop where
 rd : Rd w B 1 A n (ss.map sv)
 small : ∀ s ∈ ss, s.size ≤ 140737488355328
structure Lines (w : World) (B : Nat) (A : Option Addr) (n : Nat) (ls : List (List ByteArray)) : Prop where
 len : ls.length = n
 le : n ≤ 140737488355328
 rows : ∃ vs, Rd w B 1 A n vs ∧ ∀ k (h : k < ls.length), ∃ A' c', vs[k]? = some (.slice A' ls[k].length c') ∧ ls[k].length ≤ c' ∧ c' ≤ maxLen ∧ Strs w B A' ls[k].length ls[k]

section
variable {w w' : World} {B B' n : Nat} {A : Option Addr} {ss : List ByteArray} {ls : List (List ByteArray)}
theorem Strs.len (h : Strs w B A n ss) : ss.length = n := by simpa using h.rd.len
theorem Strs.at_ (h : Strs w B A n ss) {k : Nat} (hk : k < ss.length) : ∃ ad, A = some ad ∧ ad.block < B ∧ w.cell? (ad.add k) = some (.string ss[k]) ∧ ss[k].size ≤ 140737488355328 := by
 obtain ⟨ad, u, rfl, hb, hx, hc⟩ := h.rd.cell (k := k) (by rw [← h.len]; exact hk)
 rw [List.getElem?_map, List.getElem?_eq_getElem hk] at hx
 obtain rfl := Option.some.inj hx
 exact ⟨ad, rfl, hb, hc, h.small _ (List.getElem_mem hk)⟩
theorem Strs.keep (h : Strs w B A n ss) (hk : ∀ p : Addr, p.block < B → w'.cell? p = w.cell? p) : Strs w' B A n ss := ⟨h.rd.keep hk, h.small⟩
theorem Strs.mono (h : Strs w B A n ss) (hB : B ≤ B') : Strs w B' A n ss := ⟨h.rd.mono hB, h.small⟩
theorem Strs.below (h : Strs w B A n ss) (hb : Below B' w w') (hB : B ≤ B') : Strs w' B A n ss := ⟨h.rd.below hb hB, h.small⟩
theorem Lines.at_ (h : Lines w B A n ls) {k : Nat} (hk : k < ls.length) : ∃ ad A' c', A = some ad ∧ ad.block < B ∧ w.cell? (ad.add k) = some (.slice A' ls[k].length c') ∧ ls[k].length ≤ c' ∧ c' ≤ maxLen ∧ Strs w B A' ls[k].length ls[k] := by
 obtain ⟨vs, hr, hv⟩ := h.rows
 obtain ⟨A', c', hx, h1, h2, h3⟩ := hv k hk
 obtain ⟨ad, u, rfl, hb, hx', hc⟩ := hr.cell (k := k) (by rw [← h.len]; exact hk)
 rw [hx'] at hx
 obtain rfl := Option.some.inj hx
 exact ⟨ad, A', c', rfl, hb, hc, h1, h2, h3⟩
theorem Strs.at_in (h : Strs w B A n ss) (hb : Below B' w w') (hB : B ≤ B') {k : Nat} (hk : k < ss.length) : ∃ ad, A = some ad ∧ w'.cell? (ad.add k) = some (.string ss[k]) ∧ ss[k].size ≤ 140737488355328 := by
 obtain ⟨ad, h1, h2, h3, h4⟩ := h.at_ hk
 exact ⟨ad, h1, (hb.cell (p := ad.add k) (by rw [add_block]; omega)).trans h3, h4⟩
theorem Lines.at_in (h : Lines w B A n ls) (hb : Below B' w w') (hB : B ≤ B') {k : Nat} (hk : k < ls.length) : ∃ ad A' c', A = some ad ∧ w'.cell? (ad.add k) = some (.slice A' ls[k].length c') ∧ ls[k].length ≤ c' ∧ c' ≤ maxLen ∧ Strs w B A' ls[k].length ls[k] := by
 obtain ⟨ad, A', c', h1, h2, h3, h4, h5, h6⟩ := h.at_ hk
 exact ⟨ad, A', c', h1, (hb.cell (p := ad.add k) (by rw [add_block]; omega)).trans h3, h4, h5, h6⟩
theorem Lines.keep (h : Lines w B A n ls) (hk : ∀ p : Addr, p.block < B → w'.cell? p = w.cell? p) : Lines w' B A n ls := by
 obtain ⟨vs, hr, hv⟩ := h.rows
 exact ⟨h.len, h.le, vs, hr.keep hk, fun k hk' => by
  obtain ⟨A', c', h1, h2, h3, h4⟩ := hv k hk'
  exact ⟨A', c', h1, h2, h3, h4.keep hk⟩⟩
theorem Lines.mono (h : Lines w B A n ls) (hB : B ≤ B') : Lines w B' A n ls := by
 obtain ⟨vs, hr, hv⟩ := h.rows
 exact ⟨h.len, h.le, vs, hr.mono hB, fun k hk' => by
  obtain ⟨A', c', h1, h2, h3, h4⟩ := hv k hk'
  exact ⟨A', c', h1, h2, h3, h4.mono hB⟩⟩
theorem Lines.below (h : Lines w B A n ls) (hb : Below B' w w') (hB : B ≤ B') : Lines w' B A n ls := h.keep fun _ hp => hb.cell (by omega)
end

end Go.Adm
namespace Go.Adm
open Go Go.RowKit

def Cells (w : World) (g : Nat) (t : TypeId) (cs : List Value) : Prop := w.heap[g]? = some (.cells cs.toArray t (0, 0))
section
variable {w w' : World} {g : Nat} {t : TypeId} {cs : List Value}
theorem Cells.lt (h : Cells w g t cs) : g < w.heap.size := by
 rcases Nat.lt_or_ge g w.heap.size with hlt | hge
 ·exact hlt
 ·unfold Cells at h; rw [Array.getElem?_eq_none hge] at h; cases h
theorem Cells.cell (h : Cells w g t cs) {i : Nat} (hi : i < cs.length) : w.cell? ⟨g, i, none⟩ = some cs[i] := by
 rw [cell_of_row w g i cs.toArray t (0, 0) h]; simp [hi]
theorem Cells.cellD (h : Cells w g t cs) {i : Nat} {d : Value} (hi : i < cs.length) : w.cell? ⟨g, i, none⟩ = some (cs.getD i d) := by
 rw [h.cell hi]; simp [List.getD, hi]
theorem Cells.frozen (h : Cells w g t cs) (i : Nat) : w.frozen? ⟨g, i, none⟩ = false := by
 unfold Cells at h
 simp [World.frozen?, h]
theorem Cells.new (w : World) (t : TypeId) (cs : Array Value) : Cells (w.alloc (.cells cs t)) w.heap.size t cs.toList := heap_alloc_new w _
theorem Cells.new' (w : World) (t : TypeId) (cs : Array Value) {l : List Value} (hg : g = w.heap.size) (hl : cs.toList = l) : Cells (w.alloc (.cells cs t)) g t l := by subst hg; subst hl; exact Cells.new w t cs
theorem Cells.drew (h : Cells w g t cs) : Cells w.drew g t cs := h
theorem Cells.drewN (h : Cells w g t cs) (n : Nat) : Cells (w.drewN n) g t cs := h
theorem Cells.alloc (h : Cells w g t cs) (o : Obj) : Cells (w.alloc o) g t cs := (Below.heap_alloc w o g h.lt).trans h
theorem Cells.store (h : Cells w g t cs) (i : Nat) (u : Value) : Cells (w.setCell ⟨g, i, none⟩ u) g t (cs.set i u) := by
 unfold Cells at h ⊢
 simp [World.setCell, Array.getElem?_modify, h]
theorem Cells.far (h : Cells w g t cs) {p : Addr} (hp : g ≠ p.block) (u : Value) : Cells (w.setCell p u) g t cs := (Below.heap_setCell w p u g hp).trans h
theorem Cells.below {B : Nat} (h : Cells w g t cs) (hb : Below B w w') (hg : g < B) : Cells w' g t cs := (hb.block g hg).trans h
theorem Cells.grown {row : Option Nat} (h : Cells w g t cs) (hb : w.grownBy w' row) (hg : some g ≠ row) : Cells w' g t cs := (hb.block g h.lt hg).trans h
theorem Cells.cast {cs' : List Value} (h : Cells w g t cs) (e : cs = cs') : Cells w g t cs' := e ▸ h
end
theorem Cells.storeN {w : World} {g : Nat} {t : TypeId} : ∀ {vs cs : List Value} {o : Nat}, Cells w g t cs → o + vs.length ≤ cs.length → Cells (w.setCells g o vs) g t (cs.take o ++ vs ++ cs.drop (o + vs.length))
 | [], cs, o, h, _ => by simpa [World.setCells] using h
 | v :: r, cs, o, h, hl => by
  simp only [List.length_cons] at hl
  rw [World.setCells]
  have h1 := Cells.storeN (vs := r) (o := o + 1) (h.store o v) (by rw [List.length_set]; omega)
  refine h1.cast ?_
  have e1 : (cs.set o v).take (o + 1) = cs.take o ++ [v] := by
   rw [List.take_succ_eq_append_getElem (by rw [List.length_set]; omega), List.take_set_of_le (Nat.le_refl _)]
   simp
  rw [e1, List.drop_set_of_lt (by omega)]
  simp [Nat.add_assoc, Nat.add_comm 1]
theorem Cells.storeAll {w : World} {g : Nat} {t : TypeId} {vs cs : List Value} (h : Cells w g t cs) (hl : vs.length = cs.length) : Cells (w.setCells g 0 vs) g t vs :=
 (h.storeN (o := 0) (by omega)).cast (by simp [hl])
theorem below_setCells {B : Nat} {a : World} {b : Nat} (hb : B ≤ b) : ∀ {vs : List Value} {o : Nat} {w : World}, Below B a w → Below B a (w.setCells b o vs)
 | [], _, _, h => h
 | v :: r, o, w, h => by rw [World.setCells]; exact below_setCells hb (h.setCell (p := ⟨b, o, none⟩) hb v)
theorem size_setCells (b : Nat) : ∀ (vs : List Value) (o : Nat) (w : World), (w.setCells b o vs).heap.size = w.heap.size
 | [], _, _ => rfl
 | v :: r, o, w => by rw [World.setCells, size_setCells b r]; simp [World.setCell]
theorem Cells.range {w : World} {g : Nat} {t : TypeId} {cs : List Value} (h : Cells w g t cs) : w.rangeAt g 0 cs := fun j v hv => by
 rw [Nat.zero_add, cell_of_row w g j cs.toArray t (0, 0) h]
 simpa using hv
theorem Cells.there {w : World} {g : Nat} {t : TypeId} {cs : List Value} (h : Cells w g t cs) : w.there g 0 cs.length := fun j hj => by
 rw [Nat.zero_add]
 exact ⟨by rw [h.cell hj]; rfl, h.frozen j⟩
theorem only_setCells {w : World} {g : Nat} {vs : List Value} {o : Nat} : w.grownBy (w.setCells g o vs) (some g) := by
 have h : ∀ (vs : List Value) (o : Nat) (w : World), w.grownBy (w.setCells g o vs) (some g) := by
  intro vs
  induction vs with
  | nil => intro o w; exact World.grownBy.refl w _
  | cons v r ih =>
   intro o w
   rw [World.setCells]
   have h1 : w.grownBy (w.setCell ⟨g, o, none⟩ v) (some g) := ⟨rfl, rfl, rfl, by simp [World.setCell], fun k hk hn => Below.heap_setCell w ⟨g, o, none⟩ v k (fun e => hn (by rw [e]))⟩
   exact h1.trans (ih (o + 1) _)
 exact h vs o w
/-- a whole array is stored into a block that is known whole -/
theorem wl_store_all {P : Program} {ops : Array Oper} {rest : List Oper} {op : Oper} {a : Act} {w : World} {Q : Exit → Act → World → Prop} (hgd : op.guard = none) (ty : TypeId) (x y : Operand) (ho : op.op = .store ty x y)
  (g : Nat) (t : TypeId) (cs : List Value) (vs : List Value) (hx : a.eval x = .pointer (some ⟨g, 0, none⟩)) (hy : a.eval y = .agg vs.toArray) (hC : Cells w g t cs)
  (hl : vs.length = cs.length) (hi : (P.info? ty).map (·.size) = some vs.length) (h1 : ∀ v ∈ vs, v.oneCell' = true)
  (h : ∀ w', Cells w' g t vs → w.grownBy w' (some g) → w'.heap.size = w.heap.size → wpList P ops Q rest (a.put op.dst undef) w') : wpList P ops Q (op :: rest) a w :=
 wpList_store_mid hgd ty x y ho g 0 vs.toArray hx hy (by rw [List.size_toArray, hl]; exact hC.there) (by rw [List.size_toArray]; exact hi) (all_oneCell_toArray h1)
  (h _ (hC.storeAll hl) only_setCells (size_setCells _ _ _ _))
/-- copy into a block that is known whole -/
theorem wl_copy {P : Program} {ops : Array Oper} {rest : List Oper} {op : Oper} {a : Act} {w : World} {Q : Exit → Act → World → Prop} (hgd : op.guard = none) (d s : Operand) (dT sT : TypeId)
  (ho : op.op = .call { callee := .builtin .copy, args := #[d, s], argTypes := #[dT, sT] }) (elem : TypeId) (hu : P.underlying dT = some (.slice elem)) (hsz : (P.info? elem).map (·.size) = some 1)
  (g off dLen dCap : Nat) (t : TypeId) (cur xs : List Value) (B : Nat) (A : Option Addr) (n c : Nat) (hd : a.eval d = .slice (some ⟨g, off, none⟩) dLen dCap) (hs : a.eval s = .slice A n c)
  (hC : Cells w g t cur) (hr : Rd w B 1 A n xs) (hnd : n ≤ dLen) (hfit : off + n ≤ cur.length) (h1 : ∀ v ∈ xs, v.oneCell' = true)
  (h : ∀ w', Cells w' g t (cur.take off ++ (xs ++ cur.drop (off + n))) → Below g w w' → wpList P ops Q rest (a.put op.dst (goInt n)) w') : wpList P ops Q (op :: rest) a w := by
 have hl : xs.length = n := by have := hr.len; omega
 refine wpList_copy_splice hgd d s dT sT ho elem hu hsz _ _ dLen dCap n c hd hs g off cur t hC xs (by rw [hl]; exact (Nat.min_eq_left hnd).symm) (fun hp => ⟨rfl, ?_⟩) (by rw [hl]; exact hfit) h1 g w (Below.refl _ _) (Nat.le_refl _) ?_
 ·obtain ⟨ad, e, _, hc⟩ := hr.at_ (by omega)
  exact ⟨ad, e, hc⟩
 ·intro w' hh hb
  have := hh.out
  rw [splice, hl] at this
  rw [hl]
  exact h w' this hb
theorem cell_apart {w : World} {p q : Addr} {u v : Value} (h : w.cell? q = some v) (hne : q.block ≠ p.block) : (w.setCell p u).drew.cell? q = some v :=
 (World.cell?_setCell_other w p q u (fun e => hne (by rw [e]))).trans h
theorem cell_off {w : World} {g i j n : Nat} {u v : Value} (h : w.cell? ⟨g, j, none⟩ = some v) (hne : j ≠ i) : ((w.drewN n).setCell ⟨g, i, none⟩ u).cell? ⟨g, j, none⟩ = some v :=
 (World.cell?_setCell_other (w.drewN n) ⟨g, i, none⟩ ⟨g, j, none⟩ u (fun e => hne (by cases e; rfl))).trans h
theorem below_drewN' {B : Nat} {a w : World} (h : Below B a w) (n : Nat) : Below B a (w.drewN n) := ⟨h.os, h.tape, h.output, h.size, h.block⟩
theorem size_setCell (w : World) (p : Addr) (u : Value) : (w.setCell p u).heap.size = w.heap.size := by simp [World.setCell]
theorem Cells.rd {w : World} {g : Nat} {t : TypeId} {cs : List Value} (h : Cells w g t cs) {o n : Nat} (hl : o + n ≤ cs.length) : Rd w (g + 1) 1 (some ⟨g, o, none⟩) n ((cs.drop o).take n) :=
 ⟨by rw [List.length_take, List.length_drop]; omega, fun _ => ⟨_, rfl, Nat.lt_succ_self _, fun j u hu => by
  rw [add_lit, cell_of_row w g _ cs.toArray t (0, 0) h]
  rw [List.getElem?_take] at hu
  split at hu
  ·rw [List.getElem?_drop] at hu; simpa using hu
  ·cases hu⟩⟩
end Go.Adm

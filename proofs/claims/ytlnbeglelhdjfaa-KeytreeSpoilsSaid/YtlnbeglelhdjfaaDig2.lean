/- onetime.Digits. -/
import Derived.Test.YtlnbeglelhdjfaaDig1
set_option linter.unusedSimpArgs false
set_option linter.unusedVariables false
namespace Go.Adm
open Go Go.RowKit
def fv (x : Fin 4) : Value := .int .i64 ((x.val : Nat) : Int)
def digsum (l : List (Fin 4)) : Nat := (l.map fun x => 3 - x.val).sum
def digits16 (d : List UInt8) : List (Fin 4) := (d.take 16).flatMap dig4
def digitsS (d : List UInt8) : List (Fin 4) := digits16 d ++ dig4 (UInt8.ofNat (digsum (digits16 d)))
def DigPost (d : List UInt8) (w : World) (e : Ending) (w' : World) : Prop := ∃ A c, e = .returned (.slice A 68 c) ∧ 68 ≤ c ∧ c ≤ maxLen ∧ Rd w' w'.heap.size 1 A 68 ((digitsS d).map fv) ∧ Below w.heap.size w w'
theorem fv_one (l : List (Fin 4)) : ∀ u ∈ l.map fv, u.oneCell' = true := by
  intro u hu
  obtain ⟨x, _, rfl⟩ := List.mem_map.1 hu
  rfl
theorem digsum_snoc (l : List (Fin 4)) (x : Fin 4) : digsum (l ++ [x]) = digsum l + (3 - x.val) := by simp [digsum]
theorem digsum_le (l : List (Fin 4)) : digsum l ≤ 3 * l.length := by
  induction l with
  | nil => simp [digsum]
  | cons x l ih => simp only [digsum, List.map_cons, List.sum_cons, List.length_cons] at ih ⊢; omega
theorem digits_succ (d : List UInt8) (k : Nat) (hk : k < d.length) : (d.take (k + 1)).flatMap dig4 = (d.take k).flatMap dig4 ++ dig4 d[k] := by
  rw [List.take_succ_eq_append_getElem hk, List.flatMap_append]; simp
theorem digits_len (d : List UInt8) : (d.flatMap dig4).length = 4 * d.length := by
  induction d with
  | nil => rfl
  | cons x d ih => rw [List.flatMap_cons, List.length_append, ih, dig4_len]; simp; omega
end Go.Adm
namespace Go.Proofs.Ytlnbeglelhdjfaa
open Go Go.RowKit Go.Adm Go.Shelf
attribute [local go_sem] Oper.semAt_some

theorem el_int : ElemOf Try.prog 67 3 (.int .i64 0) 1 8 := ElemOf.mk' Try.underlying67 (by kernel_rfl) rfl (by decide) (by decide)
abbrev rsD (w : World) (d : List UInt8) (A : Option Addr) (c : Nat) (l : List (Fin 4)) (s : Nat) : List Res :=
  [.own (w.heap.size + 1) 3 1 A l.length c (l.map fv), .cells (w.heap.size + 1 + 1) 67 [.slice A l.length c], .cells (w.heap.size + 1 + 1 + 1) 3 [.int .i64 (s : Nat)], .cells w.heap.size 27 (d.map bv), .kept w w.heap.size]
structure DI (w : World) (d : List UInt8) (gb : Nat) (W : World) (l : List (Fin 4)) (s : Nat) (A : Option Addr) (c : Nat) : Prop where
  all : All W (rsD w d A c l s)
  ne1 : (Value.slice A l.length c).ownBlock ≠ some (w.heap.size + 1 + 1)
  ne2 : (Value.slice A l.length c).ownBlock ≠ some (w.heap.size + 1 + 1 + 1)
  ne3 : (Value.slice A l.length c).ownBlock ≠ some gb
  lt : w.heap.size + 1 + 1 + 1 < W.heap.size
  ltg : gb < W.heap.size
theorem DI.from {w : World} {d : List UInt8} {gb B : Nat} {f : List (Fin 4) → List (Fin 4)} {g : List (Fin 4) → Nat} (hB : w.heap.size ≤ B) : OwnFrom B (fun pre W => ∃ A c, DI w d gb W (f pre) (g pre) A c) := fun s W W' row ⟨A, c, h⟩ hg hr =>
  ⟨A, c, (all_from (B := B) (f := fun _ : Unit => rsD w d A c (f s) (g s)) (fun _ => ⟨trivial, trivial, trivial, trivial, hB, trivial⟩)) () W W' row h.all hg hr, h.ne1, h.ne2, h.ne3, Nat.lt_of_lt_of_le h.lt hg.size, Nat.lt_of_lt_of_le h.ltg hg.size⟩
/-- one digit more: the row has grown, the two boxes are written -/
theorem DI.more {w : World} {d : List UInt8} {gb : Nat} {W w3 : World} {l : List (Fin 4)} {s : Nat} {A A3 : Option Addr} {c c3 : Nat} {o : Obj} (h : DI w d gb W l s A c) (x : Fin 4) (hgb : w.heap.size + 1 + 1 + 1 < gb)
    (hown3 : Go.Adm.Own w3 (w.heap.size + 1) 3 1 A3 (l.length + 1) c3 (l.map fv ++ [.int .i64 ((x.val : Nat) : Int)])) (hg3 : (W.alloc o).grownBy w3 (Value.slice A l.length c).ownBlock)
    (hob3 : (Value.slice A3 (l.length + 1) c3).ownBlock = (Value.slice A l.length c).ownBlock ∨ (Value.slice A3 (l.length + 1) c3).ownBlock = some (W.alloc o).heap.size) :
    let w4 := w3.setCell ⟨w.heap.size + 1 + 1, 0, none⟩ (.slice A3 (l.length + 1) c3)
    KeepsOthers W w4 ∧ w4.cell? ⟨gb, 0, none⟩ = W.cell? ⟨gb, 0, none⟩ ∧ DI w d gb w4 (l ++ [x]) s A3 c3 := by
  intro w4
  have hown := (h.all.1 : Go.Adm.Own W (w.heap.size + 1) 3 1 A l.length c (l.map fv))
  have hsz : (W.alloc o).heap.size = W.heap.size + 1 := by simp
  have h1 := h.lt
  have h2 := h.ltg
  have hb3 : All w3 [.cells (w.heap.size + 1 + 1) 67 [.slice A l.length c], .cells (w.heap.size + 1 + 1 + 1) 3 [.int .i64 (s : Nat)], .cells w.heap.size 27 (d.map bv), .kept w w.heap.size] :=
    All.step hg3 ((h.all.erase 0).alloc o) ⟨fun e => h.ne1 e.symm, fun e => h.ne2 e.symm, fun e => by have := (hown.lt e.symm).1; omega, fun g e => by have := (hown.lt e).1; omega, trivial⟩
  have n1 : (Value.slice A3 (l.length + 1) c3).ownBlock ≠ some (w.heap.size + 1 + 1) := fun e => by
    rcases hob3 with h3 | h3
    · exact h.ne1 (h3.symm.trans e)
    · rw [h3] at e; injection e with e; omega
  have n2 : (Value.slice A3 (l.length + 1) c3).ownBlock ≠ some (w.heap.size + 1 + 1 + 1) := fun e => by
    rcases hob3 with h3 | h3
    · exact h.ne2 (h3.symm.trans e)
    · rw [h3] at e; injection e with e; omega
  have n3 : (Value.slice A3 (l.length + 1) c3).ownBlock ≠ some gb := fun e => by
    rcases hob3 with h3 | h3
    · exact h.ne3 (h3.symm.trans e)
    · rw [h3] at e; injection e with e; omega
  have hall3 : All w3 [.own (w.heap.size + 1) 3 1 A3 (l ++ [x]).length c3 ((l ++ [x]).map fv), .cells (w.heap.size + 1 + 1) 67 [.slice A l.length c], .cells (w.heap.size + 1 + 1 + 1) 3 [.int .i64 (s : Nat)], .cells w.heap.size 27 (d.map bv), .kept w w.heap.size] :=
    ⟨by rw [List.length_append, List.map_append]; exact hown3, hb3⟩
  have hs3 := hg3.size
  have hlx : (l ++ [x]).length = l.length + 1 := by simp
  refine ⟨((KeepsOthers.alloc W o).trans (.of_grownBy hg3 fun j o' e ho => Go.Adm.Own.isCells (Go.Adm.Own.alloc hown o) j o' e ho)).trans (.setCell _ _ _), ?_, ⟨?_, ?_, ?_, ?_, ?_, ?_⟩⟩
  · rw [World.cell?_setCell_other w3 _ _ _ (fun e => by injection e with e; omega), World.cell?_of_block (w := W.alloc o) (hg3.block gb (by omega) (fun e => h.ne3 e.symm)), World.cell?_alloc_lt W o _ h2]
  · have h4 := hall3.store 1 rfl 0 (.slice A3 (l ++ [x]).length c3) ⟨fun g e => by injection e with e; subst e; right; rw [hlx]; exact n1, fun e => by injection e with e; omega, fun e => by injection e with e; omega, fun g e => by injection e with e; omega, trivial⟩
    rw [hlx] at h4
    rw [show rsD w d A3 c3 (l ++ [x]) s = [.own (w.heap.size + 1) 3 1 A3 (l.length + 1) c3 ((l ++ [x]).map fv), .cells (w.heap.size + 1 + 1) 67 [.slice A3 (l.length + 1) c3], .cells (w.heap.size + 1 + 1 + 1) 3 [.int .i64 (s : Nat)], .cells w.heap.size 27 (d.map bv), .kept w w.heap.size] from by rw [← hlx]]
    exact h4
  · rw [hlx]; exact n1
  · rw [hlx]; exact n2
  · rw [hlx]; exact n3
  · show w.heap.size + 1 + 1 + 1 < (w3.setCell _ _).heap.size; rw [size_setCell]; omega
  · show gb < (w3.setCell _ _).heap.size; rw [size_setCell]; omega
/-- the sum is written -/
theorem DI.sum {w : World} {d : List UInt8} {gb : Nat} {W : World} {l : List (Fin 4)} {s s' : Nat} {A : Option Addr} {c : Nat} (h : DI w d gb W l s A c) (v : Int) (hv : v = (s' : Nat)) (hgb : w.heap.size + 1 + 1 + 1 < gb) :
    let w4 := W.setCell ⟨w.heap.size + 1 + 1 + 1, 0, none⟩ (.int .i64 v)
    KeepsOthers W w4 ∧ w4.cell? ⟨gb, 0, none⟩ = W.cell? ⟨gb, 0, none⟩ ∧ DI w d gb w4 l s' A c := by
  subst hv
  intro w4
  refine ⟨.setCell _ _ _, World.cell?_setCell_other W _ _ _ (fun e => by injection e with e; omega), h.all.store 2 rfl 0 (.int .i64 (s' : Nat)) ⟨fun g e => by injection e with e; subst e; right; exact h.ne2, fun e => by injection e with e; omega, fun e => by injection e with e; omega, fun g e => by injection e with e; omega, trivial⟩, h.ne1, h.ne2, h.ne3, ?_, ?_⟩
  · show _ < (W.setCell _ _).heap.size; rw [size_setCell]; exact h.lt
  · show _ < (W.setCell _ _).heap.size; rw [size_setCell]; exact h.ltg

set_option maxRecDepth 100000 in
set_option maxHeartbeats 1600000 in
theorem Digits_any (w : World) (d : List UInt8) (hd : d.length = 32) :
    Calls Try.prog 38 #[.agg (d.map bv).toArray] w (DigPost d w) := by
  have hdl := Lib.hid hd
  clear hd
  have hR : All w [.kept w w.heap.size] := ⟨⟨Below.refl _ _, Nat.le_refl _⟩, trivial⟩
  obtain ⟨i0, hi, hz0, hz1, hz2⟩ := el_int.hi
  have hmk := fun (W : World) => run_make (P := Try.prog) W 67 3 i0 _ el_int.ht hi hz0 .i64 .i64 0 68 (by omega) (by omega) (by rw [hz2]; omega) (by omega)
  simp only [Int.toNat_natCast, hz1] at hmk
  clear hi hz0 hz1 hz2
  refine (callsIn_wide (n := 3)).1 ?_
  refine callsIn_of_wp_marks Try.func38 rfl trivial ?_
  refine wpIn_wide.2 ?_
  simp only [Try.ntmps38, List.size_toArray, List.length_cons, List.length_nil, Nat.reduceAdd, Nat.reduceSub, Array.replicate_succ, Array.replicate_zero, List.push_toArray, List.append_toArray, List.nil_append, List.cons_append]
  go_upto_region 3 with (fail)
  have hA := (((hR.new (d.map bv).toArray 27 rfl rfl).alloc (.cells (madeCells (Value.int .i64 0).cells (Int.toNat 68 * 1)) 3)).new #[.slice (some ⟨w.heap.size + 1, 0, none⟩) 0 68] 67 (g := w.heap.size + 1 + 1) (by simp) rfl).new #[.int .i64 0] 3 (g := w.heap.size + 1 + 1 + 1) (by simp) rfl
  refine wp_genP (Pr := fun W => DI w d w.heap.size W [] 0 (some ⟨w.heap.size + 1, 0, none⟩) 68) ⟨⟨?_, hA.2.1, hA.1, hA.2.2.1, hA.2.2.2.1, trivial⟩, by simp [Value.ownBlock], by simp [Value.ownBlock], by simp [Value.ownBlock], Cells.lt hA.1, Cells.lt hA.2.2.1⟩ ?_
  · have h1 := World.ownsRow_made (base := w.heap.size + 1) (e := 3) (size := 1) (w.alloc (.cells (d.map bv).toArray 27)) (madeCells (Value.int .i64 0).cells (Int.toNat 68 * 1)) 68 (by simp) (by decide) (by simp [madeCells])
    have h2 : (w.alloc (.cells (d.map bv).toArray 27)).heap.size = w.heap.size + 1 := by simp
    rw [h2] at h1
    exact World.ownsRow.alloc (World.ownsRow.alloc h1 _) _
  intro W hW
  clear hA hmk
  go_wp2
  refine wp_loop (fun a W' => ∃ (k : Nat) (Ds : List Nat) (A : Option Addr) (c : Nat) (u6 u13 u14 u15 u16 u17 u27 : Value), k ≤ 16 ∧ a = ⟨#[(.agg (d.map bv).toArray), (.pointer (some ⟨w.heap.size, 0, none⟩)), (.slice none 0 0), (.pointer (some ⟨w.heap.size + 1 + 1, 0, none⟩)), (.pointer (some ⟨w.heap.size + 1 + 1 + 1, 0, none⟩)), undef, u6, undef, undef, (.slice (some ⟨w.heap.size + 1, 0, none⟩) 0 68), (.slice (some ⟨w.heap.size, 0, none⟩) 16 32), (.int .i64 16), (.int .i64 k), u13, u14, u15, u16, u17, undef, undef, undef, undef, undef, undef, undef, undef, undef, u27, undef, undef, undef, undef, undef, undef, undef, undef, undef], Ds.map coll⟩ ∧ DI w d w.heap.size W' ((d.take k).flatMap dig4) (digsum ((d.take k).flatMap dig4)) A c ∧ (∀ D ∈ Ds, w.heap.size ≤ D ∧ W'.heap[D]? = some (.deferred (some []))) ∧ Ds.Nodup) (fun a _ => 16 - (intOf (a.tmps.getD 12 undef)).toNat) ⟨0, [], _, _, undef, undef, undef, undef, undef, undef, undef, by omega, rfl, hW, by simp, List.nodup_nil⟩ ?_
  rintro a wr ⟨k, Ds, A, c, u6, u13, u14, u15, u16, u17, u27, hk, rfl, hD, hDs, hnd⟩
  have hlen := digits_len (d.take k)
  rw [List.length_take, hdl.out] at hlen
  by_cases hlt : k < 16
  · have hkd : k < d.length := by rw [hdl.out]; omega
    have hM := Lib.hid (digits_succ d k hkd)
    have cb : wr.cell? ⟨w.heap.size, k, none⟩ = some (.int .u8 d[k].toNat) := by
      have := Cells.cell (hD.all.2.2.2.1 : Cells wr w.heap.size _ _) (i := k) (by rw [List.length_map, hdl.out]; omega)
      rw [this]; simp [bv]
    have hb := d[k].toNat_lt
    generalize d[k] = b at *
    go_wp2_with (go_at_call 52; refine (base4_any _ b).mono ?_; rintro e w' ⟨rfl, rfl⟩)
    have hgs : w.heap.size + 1 + 1 + 1 < wr.heap.size := hD.lt
    have hDW : DI w d wr.heap.size (wr.alloc (.cells #[.int .u8 b.toNat] 5)) ((d.take k).flatMap dig4 ++ []) (digsum ((d.take k).flatMap dig4 ++ [])) A c := by
      rw [List.append_nil]
      exact ⟨hD.all.alloc _, hD.ne1, hD.ne2, Go.Adm.Own.ne hD.all.1, by have := hD.lt; simp; omega, by simp⟩
    have hDs2 : ∀ D ∈ Ds, D < wr.heap.size + 1 ∧ (wr.alloc (.cells #[.int .u8 b.toNat] 5)).heap[D]? = some (.deferred (some [])) := fun D h => by
      have h1 := (Array.getElem?_eq_some_iff.1 (hDs D h).2).1
      exact ⟨by omega, (Below.heap_alloc wr _ D h1).trans (hDs D h).2⟩
    have hDg : ∀ D ∈ Ds, w.heap.size ≤ D := fun D h => (hDs D h).1
    have hcb : (wr.alloc (.cells #[.int .u8 b.toNat] 5)).cell? ⟨wr.heap.size, 0, none⟩ = some (.int .u8 b.toNat) := Cells.cell (Cells.new wr 5 #[.int .u8 b.toNat]) (i := 0) (by simp)
    generalize hl0 : (d.take k).flatMap dig4 = l0 at *
    have HL0 := Lib.hid hl0
    clear hl0 hDs hD cb
    refine (wpIn_wide (n := 3)).1 ?_
    refine wpIn_rangeFunc_ownF rfl (by decide) (gf := 60) (lb := #[.pointer (some ⟨wr.heap.size, 0, none⟩)]) rfl trivial (enters_of Try.func60 (by kernel_rfl) rfl)
      (base4_stops Fence.wide 2 trivial rfl (by decide) wr.heap.size b _ (by simp) hcb) (fun h k => k.trans h)
      (fun W' D o o' hB hD ho _ => World.cell?_of_block (w := W') (a := ⟨wr.heap.size, 0, none⟩) (World.putObj_heap_other (by simp at hB ⊢; omega))) (Below.refl _ _) (fun _ => rfl)
      (fun pre W' => (∃ A c, DI w d wr.heap.size W' (l0 ++ pre) (digsum (l0 ++ pre)) A c) ∧ ∀ D ∈ Ds, D < wr.heap.size + 1 ∧ W'.heap[D]? = some (.deferred (some [])))
      (fun _ _ _ => False) ?own (fun _ _ _ _ _ hs _ _ => hs) ⟨⟨A, c, hDW⟩, hDs2⟩
      (fun x => { tmps := #[(.agg (d.map bv).toArray), (.pointer (some ⟨w.heap.size, 0, none⟩)), (.slice none 0 0), (.pointer (some ⟨w.heap.size + 1 + 1, 0, none⟩)), (.pointer (some ⟨w.heap.size + 1 + 1 + 1, 0, none⟩)), undef, (.int .u8 b.toNat), (.int .i64 ((x.val : Nat) : Int)), undef, (.slice (some ⟨w.heap.size + 1, 0, none⟩) 0 68), (.slice (some ⟨w.heap.size, 0, none⟩) 16 32), (.int .i64 16), (.int .i64 k), (.bool true), (.pointer (some ⟨w.heap.size, k, none⟩)), (.int .u8 b.toNat), (.int .u8 b.toNat), (.func (.func 60) #[] #[.pointer (some ⟨wr.heap.size, 0, none⟩)]), (.int .i64 ((x.val : Nat) : Int)), undef, undef, undef, undef, undef, undef, undef, undef, u27, undef, undef, undef, undef, undef, undef, undef, undef, undef], defers := [] }) ?assign ?body ?done ?stop
    case own =>
      refine OwnFrom.and (DI.from (f := fun pre => l0 ++ pre) (g := fun pre => digsum (l0 ++ pre)) (by simp; omega)) (fun s W W' row hs hg hr D hD => ⟨(hs D hD).1, (hg.block D (Array.getElem?_eq_some_iff.1 (hs D hD).2).1 (fun e => ?_)).trans (hs D hD).2⟩)
      have h1 := (hr D e.symm).1
      have h2 := (hs D hD).1
      simp at h1
      omega
    case assign =>
      intro l x W K hK
      gi_wp2
      exact hK
    case stop =>
      intro D c' pre W _ _ h _
      exact h.elim
    case body =>
      rintro l pre x W ⟨⟨A', c', hI⟩, hDs3⟩ hpl
      have hx := x.isLt
      have hLL : (l0 ++ pre).length ≤ 64 := by rw [List.length_append, hlen]; omega
      have hsum := digsum_le (l0 ++ pre)
      have hsn := Lib.hid (digsum_snoc (l0 ++ pre) x)
      have hown := (hI.all.1 : Go.Adm.Own W (w.heap.size + 1) 3 1 A' (l0 ++ pre).length c' ((l0 ++ pre).map fv))
      have hne1 := hI.ne1
      have hne2 := hI.ne2
      have hne3 := hI.ne3
      have hlt3 := hI.lt
      have hall := hI.all
      have hgb : wr.heap.size < W.heap.size ∨ W.heap.size ≤ wr.heap.size := by omega
      generalize hl1 : l0 ++ pre = l1 at *
      have HL1 := Lib.hid hl1
      have hII := Lib.hid hI
      clear hl1 hI
      generalize digsum l1 = s1 at *
      have c1 : W.cell? ⟨w.heap.size + 1 + 1, 0, none⟩ = some (.slice A' l1.length c') := Cells.cell (hall.2.1 : Cells W (w.heap.size + 1 + 1) _ _) (i := 0) (by simp)
      gi_wp2_with (gi_at_builtin; refine wlIn_app el_int rfl (.tmp 19) (.tmp 21) rfl (w.heap.size + 1) A' l1.length c' (l1.map fv) rfl (Go.Adm.Own.alloc hown _) (W.heap.size + 1) _ 1 1 [.int .i64 ((x.val : Nat) : Int)] rfl (Rd.lit W _ _ 1 rfl) (by intro u hu; simp only [List.mem_singleton] at hu; subst hu; rfl) (by omega) (by simp; omega) ?_; intro A3 c3 w3 hown3 hg3 hob3; have hb3 : All w3 [.cells (w.heap.size + 1 + 1) 67 [.slice A' l1.length c'], .cells (w.heap.size + 1 + 1 + 1) 3 [.int .i64 (s1 : Nat)], .cells w.heap.size 27 (d.map bv), .kept w w.heap.size] := (by have h1 := (hall.erase 0).alloc (.cells #[.int .i64 ((x.val : Nat) : Int)] 3); exact All.step hg3 h1 ⟨fun e => hne1 e.symm, fun e => hne2 e.symm, fun e => by have := (hown.lt e.symm).1; omega, fun g e => by have := (hown.lt e).1; omega, trivial⟩); have c2 : w3.cell? ⟨w.heap.size + 1 + 1, 0, none⟩ = some (.slice A' l1.length c') := Cells.cell hb3.1 (i := 0) (by simp); have f2 := Cells.frozen hb3.1 0; have c4 : ∀ v, (w3.setCell ⟨w.heap.size + 1 + 1, 0, none⟩ v).cell? ⟨w.heap.size + 1 + 1 + 1, 0, none⟩ = some (.int .i64 (s1 : Nat)) := (fun v => Cells.cell ((hb3.2.1 : Cells w3 (w.heap.size + 1 + 1 + 1) _ _).far (p := ⟨w.heap.size + 1 + 1, 0, none⟩) (by simp) v) (i := 0) (by simp)); have f4 : ∀ v, (w3.setCell ⟨w.heap.size + 1 + 1, 0, none⟩ v).frozen? ⟨w.heap.size + 1 + 1 + 1, 0, none⟩ = false := (fun v => Cells.frozen ((hb3.2.1 : Cells w3 (w.heap.size + 1 + 1 + 1) _ _).far (p := ⟨w.heap.size + 1 + 1, 0, none⟩) (by simp) v) 0))
      have hm := hII.out.more x hgs hown3 hg3 hob3
      have hm2 := hm.2.2.sum (s' := digsum (l1 ++ [x])) ((s1 : Int) + (3 - ((x.val : Nat) : Int))) (by rw [hsn.out]; omega) hgs
      refine ⟨hm.1.trans hm2.1, hm2.2.1.trans hm.2.1, ⟨A3, c3, ?_⟩, fun D h => ⟨(hDs3 D h).1, (hm.1.trans hm2.1).same D _ (hDs3 D h).2 rfl⟩⟩
      rw [← List.append_assoc, HL1.out]
      exact hm2.2.2
    case done =>
      intro D xs W' hDl hxs hI hK
      obtain ⟨⟨A', c', hI⟩, hDs3⟩ := hI
      subst hxs
      have hM2 : Hid ((d.take (k + 1)).flatMap dig4 = l0 ++ dig4 b) := Lib.hid (by rw [hM.out])
      have hnD : D ∉ Ds := fun h => by have := (hDs2 D h).1; simp at hDl; omega
      go_wp2
      refine ⟨⟨k + 1, D :: Ds, A', c', _, _, _, _, _, _, _, by omega, rfl, ?_, ?_, List.nodup_cons.2 ⟨hnD, hnd⟩⟩, by simp [intOf]; omega⟩
      · rw [hM2.out]
        exact ⟨hI.all, hI.ne1, hI.ne2, fun e => by have := ((hI.all.1 : Go.Adm.Own _ _ _ _ _ _ _ _).lt e).1; omega, hI.lt, Nat.lt_trans (by omega) hI.lt⟩
      · intro D' hD'
        rcases List.mem_cons.1 hD' with rfl | h
        · exact ⟨by simp at hDl; omega, hK⟩
        · exact ⟨hDg D' h, (hDs3 D' h).2⟩
  · have hk16 : k = 16 := by omega
    have hkb : decide ((k : Int) < 16) = false := by simp; omega
    have hL16 : (d.take k).flatMap dig4 = digits16 d := by rw [hk16]; rfl
    have hl64 : (digits16 d).length = 64 := by rw [← hL16, hlen]; omega
    rw [hL16] at hD
    have hs1 := digsum_le (digits16 d)
    have hbs : digsum (digits16 d) = (UInt8.ofNat (digsum (digits16 d))).toNat := by rw [UInt8.toNat_ofNat']; omega
    rw [hbs] at hD
    have hfin : Hid (digitsS d = digits16 d ++ dig4 (UInt8.ofNat (digsum (digits16 d)))) := Lib.hid rfl
    generalize UInt8.ofNat (digsum (digits16 d)) = b at *
    have hb := b.toNat_lt
    have HK := Lib.hid hk16
    have c4 : wr.cell? ⟨w.heap.size + 1 + 1 + 1, 0, none⟩ = some (.int .i64 b.toNat) := Cells.cell hD.all.2.2.1 (i := 0) (by simp)
    clear hk16 hL16 hbs hs1
    generalize digits16 d = l0 at *
    have HL := Lib.hid hl64
    go_wp2_with (go_at_call 52; refine (base4_any _ b).mono ?_; rintro e w' ⟨rfl, rfl⟩)
    have hgs : w.heap.size + 1 + 1 + 1 < wr.heap.size := hD.lt
    have hDW : DI w d wr.heap.size (wr.alloc (.cells #[.int .u8 b.toNat] 5)) (l0 ++ []) b.toNat A c := by
      rw [List.append_nil]
      exact ⟨hD.all.alloc _, hD.ne1, hD.ne2, Go.Adm.Own.ne hD.all.1, by have := hD.lt; simp; omega, by simp⟩
    have hDs2 : ∀ D ∈ Ds, D < wr.heap.size + 1 ∧ (wr.alloc (.cells #[.int .u8 b.toNat] 5)).heap[D]? = some (.deferred (some [])) := fun D h => by
      have h1 := (Array.getElem?_eq_some_iff.1 (hDs D h).2).1
      exact ⟨by omega, (Below.heap_alloc wr _ D h1).trans (hDs D h).2⟩
    have hDg : ∀ D ∈ Ds, w.heap.size ≤ D := fun D h => (hDs D h).1
    have hcb : (wr.alloc (.cells #[.int .u8 b.toNat] 5)).cell? ⟨wr.heap.size, 0, none⟩ = some (.int .u8 b.toNat) := Cells.cell (Cells.new wr 5 #[.int .u8 b.toNat]) (i := 0) (by simp)
    clear hDs hD c4
    refine (wpIn_wide (n := 3)).1 ?_
    refine wpIn_rangeFunc_ownF rfl (by decide) (gf := 60) (lb := #[.pointer (some ⟨wr.heap.size, 0, none⟩)]) rfl trivial (enters_of Try.func60 (by kernel_rfl) rfl)
      (base4_stops Fence.wide 2 trivial rfl (by decide) wr.heap.size b _ (by simp) hcb) (fun h k => k.trans h)
      (fun W' D o o' hB hD ho _ => World.cell?_of_block (w := W') (a := ⟨wr.heap.size, 0, none⟩) (World.putObj_heap_other (by simp at hB ⊢; omega))) (Below.refl _ _) (fun _ => rfl)
      (fun pre W' => (∃ A c, DI w d wr.heap.size W' (l0 ++ pre) b.toNat A c) ∧ ∀ D ∈ Ds, D < wr.heap.size + 1 ∧ W'.heap[D]? = some (.deferred (some [])))
      (fun _ _ _ => False) ?own (fun _ _ _ _ _ hs _ _ => hs) ⟨⟨A, c, hDW⟩, hDs2⟩
      (fun x => { tmps := #[(.agg (d.map bv).toArray), (.pointer (some ⟨w.heap.size, 0, none⟩)), (.slice none 0 0), (.pointer (some ⟨w.heap.size + 1 + 1, 0, none⟩)), (.pointer (some ⟨w.heap.size + 1 + 1 + 1, 0, none⟩)), undef, u6, undef, (.int .i64 ((x.val : Nat) : Int)), (.slice (some ⟨w.heap.size + 1, 0, none⟩) 0 68), (.slice (some ⟨w.heap.size, 0, none⟩) 16 32), (.int .i64 16), (.int .i64 k), (.bool false), u14, u15, u16, u17, undef, undef, undef, undef, undef, undef, undef, undef, undef, u27, (.int .i64 b.toNat), (.int .u8 b.toNat), (.func (.func 60) #[] #[.pointer (some ⟨wr.heap.size, 0, none⟩)]), (.int .i64 ((x.val : Nat) : Int)), undef, undef, undef, undef, undef], defers := [] }) ?assign ?body ?done ?stop
    case own =>
      refine OwnFrom.and (DI.from (f := fun pre => l0 ++ pre) (g := fun _ => b.toNat) (by simp; omega)) (fun s W W' row hs hg hr D hD => ⟨(hs D hD).1, (hg.block D (Array.getElem?_eq_some_iff.1 (hs D hD).2).1 (fun e => ?_)).trans (hs D hD).2⟩)
      have h1 := (hr D e.symm).1
      have h2 := (hs D hD).1
      simp at h1
      omega
    case assign =>
      intro l x W K hK
      gi_wp2
      exact hK
    case stop =>
      intro D c' pre W _ _ h _
      exact h.elim
    case body =>
      rintro l pre x W ⟨⟨A', c', hI⟩, hDs3⟩ hpl
      have hx := x.isLt
      have hLL : (l0 ++ pre).length ≤ 67 := by rw [List.length_append, HL.out]; omega
      have hown := (hI.all.1 : Go.Adm.Own W (w.heap.size + 1) 3 1 A' (l0 ++ pre).length c' ((l0 ++ pre).map fv))
      have hne1 := hI.ne1
      have hne2 := hI.ne2
      have hlt3 := hI.lt
      have hall := hI.all
      generalize hl1 : l0 ++ pre = l1 at *
      have HL1 := Lib.hid hl1
      have hII := Lib.hid hI
      clear hl1 hI
      have c1 : W.cell? ⟨w.heap.size + 1 + 1, 0, none⟩ = some (.slice A' l1.length c') := Cells.cell (hall.2.1 : Cells W (w.heap.size + 1 + 1) _ _) (i := 0) (by simp)
      gi_wp2_with (gi_at_builtin; refine wlIn_app el_int rfl (.tmp 32) (.tmp 34) rfl (w.heap.size + 1) A' l1.length c' (l1.map fv) rfl (Go.Adm.Own.alloc hown _) (W.heap.size + 1) _ 1 1 [.int .i64 ((x.val : Nat) : Int)] rfl (Rd.lit W _ _ 1 rfl) (by intro u hu; simp only [List.mem_singleton] at hu; subst hu; rfl) (by omega) (by simp; omega) ?_; intro A3 c3 w3 hown3 hg3 hob3; have hb3 : All w3 [.cells (w.heap.size + 1 + 1) 67 [.slice A' l1.length c'], .cells (w.heap.size + 1 + 1 + 1) 3 [.int .i64 (b.toNat : Nat)], .cells w.heap.size 27 (d.map bv), .kept w w.heap.size] := (by have h1 := (hall.erase 0).alloc (.cells #[.int .i64 ((x.val : Nat) : Int)] 3); exact All.step hg3 h1 ⟨fun e => hne1 e.symm, fun e => hne2 e.symm, fun e => by have := (hown.lt e.symm).1; omega, fun g e => by have := (hown.lt e).1; omega, trivial⟩); have c2 : w3.cell? ⟨w.heap.size + 1 + 1, 0, none⟩ = some (.slice A' l1.length c') := Cells.cell hb3.1 (i := 0) (by simp); have f2 := Cells.frozen hb3.1 0)
      have hm := hII.out.more x hgs hown3 hg3 hob3
      refine ⟨hm.1, hm.2.1, ⟨A3, c3, ?_⟩, fun D h => ⟨(hDs3 D h).1, hm.1.same D _ (hDs3 D h).2 rfl⟩⟩
      rw [← List.append_assoc, HL1.out]
      exact hm.2.2
    case done =>
      intro D xs W' hDl hxs hI hK
      obtain ⟨⟨A', c', hI⟩, hDs3⟩ := hI
      subst hxs
      have hnD : D ∉ Ds := fun h => by have := (hDs2 D h).1; simp at hDl; omega
      have hlf : (l0 ++ dig4 b).length = 68 := by rw [List.length_append, HL.out]; rfl
      have c1 : W'.cell? ⟨w.heap.size + 1 + 1, 0, none⟩ = some (.slice A' 68 c') := by rw [← hlf]; exact Cells.cell (hI.all.2.1 : Cells W' (w.heap.size + 1 + 1) _ _) (i := 0) (by simp)
      have HLF := Lib.hid hlf
      have HI := Lib.hid hI
      clear hlf hI
      go_wp2
      refine leaves_all (B := w.heap.size) (D :: Ds) W' ?_ (List.nodup_cons.2 ⟨hnD, hnd⟩) ?_
      · intro D' hD'
        rcases List.mem_cons.1 hD' with rfl | h
        · exact ⟨by simp at hDl; omega, hK⟩
        · exact ⟨hDg D' h, (hDs3 D' h).2⟩
      · intro W'' hW'' _
        have h1 := hW'' (rsD w d A' c' (l0 ++ dig4 b) b.toNat) ⟨trivial, trivial, trivial, trivial, Nat.le_refl _, trivial⟩ HI.out.all
        have h2 := (h1.1 : Go.Adm.Own W'' (w.heap.size + 1) 3 1 A' (l0 ++ dig4 b).length c' _)
        rw [HLF.out, ← hfin.out] at h2
        exact ⟨_, results_tmp rfl _ _ _, A', c', rfl, h2.cap.1, h2.cap.2, h2.rd, (h1.at_ 4 rfl).1⟩
end Go.Proofs.Ytlnbeglelhdjfaa

/- Fields of a release or an approval, filled by functions of words: the functions and what they leave. -/
import Derived.Test.YthlfafkakijjfaaDoorParP
import Derived.Test.YthlfafkakijjfaaDoorNum2
set_option linter.unusedSimpArgs false
set_option linter.unusedVariables false
set_option maxRecDepth 100000
namespace Go.Adm
open Go Go.RowKit
/-- a whole array is stored into a part of a block -/
theorem wl_store_mid {P : Program} {ops : Array Oper} {rest : List Oper} {o : Oper} {a : Act} {w : World} {Q : Exit → Act → World → Prop} (hgd : o.guard = none) (ty : TypeId) (x y : Operand) (ho : o.op = .store ty x y)
    (G off : Nat) (t : TypeId) (cs vs : List Value) (hC : Cells w G t cs) (hl : off + vs.length ≤ cs.length) (hx : a.eval x = .pointer (some ⟨G, off, none⟩)) (hy : a.eval y = .agg vs.toArray) (hi : (P.info? ty).map (·.size) = some vs.length) (h1 : ∀ u ∈ vs, u.oneCell' = true)
    (h : ∀ w', Cells w' G t (cs.take off ++ vs ++ cs.drop (off + vs.length)) → w.grownBy w' (some G) → w'.heap.size = w.heap.size → wpList P ops Q rest (a.put o.dst undef) w') : wpList P ops Q (o :: rest) a w :=
  wpList_plain hgd fun _ hK => by
    have ht : w.there G off vs.length := fun i hi => by
      have := hC.there (off + i) (by omega)
      rwa [Nat.zero_add] at this
    have hS := hC.storeN (vs := vs) (o := off) hl
    have hrun := run_storeVar_mid (P := P) w G off ty vs.toArray (by rw [List.size_toArray]; exact ht) (by rw [List.size_toArray]; exact hi) (all_oneCell_toArray h1)
    have h2 := h _ hS only_setCells (size_setCells _ _ _ _)
    have hex : (execOp a.eval o).run P w = .ok .skip (w.setCells G off vs) := by
      unfold execOp
      simp only [ho, hx, hy, Instr.storeAt, Instr.sureAddr, Sem.run_bind, Sem.run_pure, Result.andThen_ok, hrun, List.toList_toArray]
    unfold Oper.wp
    rw [hex]
    exact hK _ _ h2
theorem grown_trans {w1 w2 w3 : World} {G : Nat} (h : w1.grownBy w2 none) (k : w2.grownBy w3 (some G)) : w1.grownBy w3 (some G) :=
  ⟨k.os.trans h.os, k.tape.trans h.tape, k.output.trans h.output, Nat.le_trans h.size k.size, fun b hb hn => (k.block b (Nat.lt_of_lt_of_le hb h.size) hn).trans (h.block b hb (by simp))⟩
end Go.Adm
namespace Go.Proofs.YthlfafkakijjfaaDoor
open Go Go.RowKit Go.Adm Go.AdP Go.Shelf
attribute [local go_sem] Oper.semAt_some
/-- the value of the function that fills a field -/
def fldV (f g : Nat) : Value := .func (.func f) #[] #[.pointer (some ⟨g + 1, 0, none⟩), .pointer (some ⟨g, 0, none⟩)]
def fnV (f : Nat) : Value := .func (.func f) #[] #[]
theorem intoD_any (w : World) (p : Addr) (f : Nat) :
    Calls Tryd.prog 15 #[.pointer (some p), fnV f] w fun e w' => e = .returned (fldV 33 w.heap.size) ∧
      w' = (w.alloc (.cells #[.pointer (some p)] 46)).alloc (.cells #[fnV f] 47) := by
  unfold fnV
  go_enter Tryd.func15, Tryd.ntmps15
  go_wp2_with fail
  go_ret
  exact ⟨by simp [fldV], rfl⟩
theorem intoI_any (w : World) (p : Addr) (f : Nat) :
    Calls Tryd.prog 19 #[.pointer (some p), fnV f] w fun e w' => e = .returned (fldV 37 w.heap.size) ∧
      w' = (w.alloc (.cells #[.pointer (some p)] 52)).alloc (.cells #[fnV f] 53) := by
  unfold fnV
  go_enter Tryd.func19, Tryd.ntmps19
  go_wp2_with fail
  go_ret
  exact ⟨by simp [fldV], rfl⟩
set_option maxHeartbeats 3200000 in
theorem fldD_any (w : World) (gp gt G off : Nat) (t : TypeId) (cs : List Value) (s : ByteArray) (hp : Cells w gp 47 [fnV 16]) (ht : Cells w gt 46 [.pointer (some ⟨G, off, none⟩)])
    (hG : Cells w G t cs) (hl : off + 32 ≤ cs.length) :
    Calls Tryd.prog 33 #[.string s, .pointer (some ⟨gp, 0, none⟩), .pointer (some ⟨gt, 0, none⟩)] w fun e w' => e = .returned (.bool (parseD s.data.toList).isSome) ∧
      Cells w' G t (cs.take off ++ (parsed s.data.toList).map bv ++ cs.drop (off + 32)) ∧ w.grownBy w' (some G) := by
  have hR : All w [.cells gp 47 [fnV 16], .cells gt 46 [.pointer (some ⟨G, off, none⟩)], .cells G t cs, .kept w w.heap.size] := ⟨hp, ht, hG, ⟨Below.refl _ _, Nat.le_refl _⟩, trivial⟩
  have c1 : w.cell? ⟨gp, 0, none⟩ = some (.func (.func 16) #[] #[]) := Cells.cell hp (i := 0) (by simp)
  have HL := Lib.hid hl
  have HPL : Hid ((parsed s.data.toList).length = 32) := Lib.hid (parsed_len _)
  have hP := Parse_any s w
  obtain ⟨q, hq⟩ : ∃ q, q = parsed s.data.toList := ⟨_, rfl⟩
  obtain ⟨k, hk⟩ : ∃ k, k = (parseD s.data.toList).isSome := ⟨_, rfl⟩
  rw [← hq, ← hk] at hP
  rw [← hq] at HPL
  rw [← hq, ← hk]
  clear hq hk hl hp ht hG
  have hzr : ∀ w, (zeroValue 24).run Tryd.prog w = .ok (.agg (z32.map bv).toArray) w := fun w => by kernel_rfl
  go_enter Tryd.func33, Tryd.ntmps33
  go_upto_region 2 with (first
    | (go_at_call 16; refine hP.mono ?_; clear hP; rintro e w1 ⟨rfl, hb1⟩; have hW1 := (hR.call hb1).new (l := z32.map bv) _ 24 (g := w1.heap.size) rfl rfl; have hap : Apart (some w1.heap.size) [.cells gp 47 [fnV 16], .cells gt 46 [.pointer (some ⟨G, off, none⟩)], .cells G t cs, .kept w w.heap.size] := (by have h1 := Cells.lt (hR.call hb1).1; have h2 := Cells.lt (hR.call hb1).2.1; have h3 := Cells.lt (hR.call hb1).2.2.1; have h4 := hb1.size; simp [Apart, Res.apart]; omega))
    | (refine wl_store_at hW1 0 rfl 24 (.tmp 5) _ rfl w1.heap.size _ _ (q.map bv) rfl rfl rfl (by rw [List.length_map, HPL.out]; rfl) (by rw [List.length_map, HPL.out]; kernel_rfl) (bv_one _) hap ?_; intro w2 hW2 hs2))
  simp only [List.set_cons_zero] at hW2
  clear hW1 hR c1 hb1 hap hs2 hzr
  obtain ⟨g9, hg9⟩ : ∃ g, g = w1.heap.size := ⟨_, rfl⟩
  rw [← hg9] at hW2 ⊢
  clear hg9
  have c2 : w2.cell? ⟨gt, 0, none⟩ = some (.pointer (some ⟨G, off, none⟩)) := Cells.cell (hW2.at_ 2 rfl) (i := 0) (by simp)
  have hgr : w.grownBy w2 none := grown_of_below (hW2.at_ 4 rfl : _ ∧ _).1
  go_wp2_with (first
    | (refine wl_load_at rfl 24 (.tmp 5) rfl g9 _ _ (hW2.at_ 0 rfl) rfl _ Tryd.underlying24 rfl (by rw [List.length_map, HPL.out]; kernel_rfl) ?_)
    | (refine wl_store_mid rfl 24 (.tmp 15) (.tmp 14) rfl G off t cs (q.map bv) (hW2.at_ 3 rfl) (by rw [List.length_map, HPL.out]; exact HL.out) rfl rfl (by rw [List.length_map, HPL.out]; kernel_rfl) (bv_one _) ?_; intro w3 hC3 hg3 hs3))
  go_ret
  refine ⟨rfl, ?_, grown_trans hgr hg3⟩
  rw [List.length_map, HPL.out] at hC3
  exact hC3
set_option maxHeartbeats 3200000 in
theorem fldI_any (w : World) (gp gt G off : Nat) (t : TypeId) (cs : List Value) (s : ByteArray) (hp : Cells w gp 53 [fnV 20]) (ht : Cells w gt 52 [.pointer (some ⟨G, off, none⟩)])
    (hG : Cells w G t cs) (hl : off < cs.length) :
    Calls Tryd.prog 37 #[.string s, .pointer (some ⟨gp, 0, none⟩), .pointer (some ⟨gt, 0, none⟩)] w fun e w' => e = .returned (.bool (parseS s.data.toList).isSome) ∧
      Cells w' G t (cs.set off (.int .i64 (((parseS s.data.toList).getD 0 : Nat) : Int))) ∧ w.grownBy w' (some G) := by
  have c1 : w.cell? ⟨gp, 0, none⟩ = some (.func (.func 20) #[] #[]) := Cells.cell hp (i := 0) (by simp)
  have c2 : w.cell? ⟨gt, 0, none⟩ = some (.pointer (some ⟨G, off, none⟩)) := Cells.cell ht (i := 0) (by simp)
  obtain ⟨v0, c3⟩ : ∃ v0, w.cell? ⟨G, off, none⟩ = some v0 := ⟨_, Cells.cell hG hl⟩
  have HST : Hid (Cells (w.setCell ⟨G, off, none⟩ (.int .i64 (((parseS s.data.toList).getD 0 : Nat) : Int))) G t (cs.set off (.int .i64 (((parseS s.data.toList).getD 0 : Nat) : Int)))) := Lib.hid ((All.store (rs := [.cells G t cs]) ⟨hG, trivial⟩ 0 rfl off _ trivial).1)
  have hfz : w.frozen? ⟨G, off, none⟩ = false := Cells.frozen hG off
  have hP := fun W => ParseN_any s W
  obtain ⟨q, hq⟩ : ∃ q, q = (((parseS s.data.toList).getD 0 : Nat) : Int) := ⟨_, rfl⟩
  obtain ⟨k, hk⟩ : ∃ k, k = (parseS s.data.toList).isSome := ⟨_, rfl⟩
  rw [← hq] at HST
  rw [← hq, ← hk]
  have hP2 : ∀ W, Calls Tryd.prog 20 #[.string s] W fun e w' => e = .returned (.tuple #[.int .i64 q, .bool k]) ∧ w' = W := fun W => by rw [hq, hk]; exact hP W
  clear hq hk hl hp ht hG hP
  go_enter Tryd.func37, Tryd.ntmps37
  go_wp2_with (go_at_call 20; refine (hP2 _).mono ?_; rintro e w1 ⟨rfl, rfl⟩)
  go_ret
  exact ⟨rfl, HST.out, grown_setCell _ _ _⟩
end Go.Proofs.YthlfafkakijjfaaDoor

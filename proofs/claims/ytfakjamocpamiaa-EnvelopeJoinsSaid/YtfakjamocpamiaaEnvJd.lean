/- Rows of pairs of envelopes, as the law on joined envelopes has them. -/
import Derived.Test.YtfakjamocpamiaaEnvJb
import Derived.Test.YtfakjamocpamiaaEnvJc
import Derived.Test.YtfakjamocpamiaaEnvY
set_option linter.unusedSimpArgs false
set_option linter.unusedVariables false
set_option maxRecDepth 100000
namespace Go.Adm
open Go Go.RowKit Go.Proofs.Ytfakjamocpamiaa
/-- two envelopes in memory -/
structure PrE where
 R1 : EnvR
 c1 : List Value
 R2 : EnvR
 c2 : List Value
def PrE.cells (x : PrE) : List Value := x.c1 ++ x.c2
structure PrOk (w : World) (B : Nat) (x : PrE) : Prop where
 e1 : EnvAt w B x.R1 x.c1
 e2 : EnvAt w B x.R2 x.c2
 s1 : SmR x.R1
 s2 : SmR x.R2
theorem PrOk.keep {w w' : World} {B : Nat} {x : PrE} (h : PrOk w B x) (hk : ∀ p : Addr, p.block < B → w'.cell? p = w.cell? p) : PrOk w' B x := ⟨h.e1.keep hk, h.e2.keep hk, h.s1, h.s2⟩
theorem PrOk.mono {w : World} {B B' : Nat} {x : PrE} (h : PrOk w B x) (hB : B ≤ B') : PrOk w B' x := ⟨h.e1.mono hB, h.e2.mono hB, h.s1, h.s2⟩
theorem PrOk.grown {w w' : World} {x : PrE} (hg : w.grownBy w' none) (h : PrOk w w.heap.size x) : PrOk w' w'.heap.size x := ⟨h.e1.grown hg, h.e2.grown hg, h.s1, h.s2⟩
theorem PrOk.len {w : World} {B : Nat} {x : PrE} (h : PrOk w B x) : x.cells.length = 6 := by
 unfold PrE.cells
 rw [List.length_append, h.e1.len, h.e2.len]
theorem PrOk.one {w : World} {B : Nat} {x : PrE} (h : PrOk w B x) : ∀ v ∈ x.cells, v.oneCell' = true := fun v hv => by
 rcases List.mem_append.1 hv with h1 | h1
 ·exact h.e1.one v h1
 ·exact h.e2.one v h1
def VF.pr2 : VF := .gen (fun w v => ∃ x : PrE, v = .agg x.cells.toArray ∧ PrOk w w.heap.size x) fun w w' v hg h => by
 obtain ⟨x, h1, h2⟩ := h
 exact ⟨x, h1, h2.grown hg⟩
def VF.pr3 : VF := .gen (fun w v => ∃ (ad : Addr) (L : List PrE), v = .slice (some ad) 3 3 ∧ Els w w.heap.size 6 (some ad) 3 (L.map PrE.cells) ∧ ∀ x ∈ L, PrOk w w.heap.size x) fun w w' v hg h => by
 obtain ⟨ad, L, h1, h2, h3⟩ := h
 exact ⟨ad, L, h1, h2.grown hg, fun x hx => (h3 x hx).grown hg⟩
def Low.prs (B : Nat) (A : Option Addr) (n : Nat) (L : List PrE) : Low := ⟨B, fun w => Els w B 6 A n (L.map PrE.cells) ∧ ∀ x ∈ L, PrOk w B x, fun _ _ hk h => ⟨h.1.keep hk, fun x hx => (h.2 x hx).keep hk⟩⟩
/-- an array literal of two elements that take several cells, in a drawn region -/
theorem wp_arr2 {P : Program} {K : Act → World → Prop} {o : Oper} {a : Act} {w : World} {Q : Exit → Act → World → Prop} (t e : TypeId) (n : Nat) (x y : Operand) (ho : o.op = .build t #[(0, x), (1, y)]) {size : Nat}
  (e1 e2 : List Value) (hx : a.eval x = .agg e1.toArray) (hy : a.eval y = .agg e2.toArray) (hl1 : e1.length = size) (hl2 : e2.length = size)
  (hu : P.underlying t = some (.array n e)) (hsz : (P.info? e).map (·.size) = some size) (hz : ((P.info? t).bind (·.zero)).map (·.cells.size) = some (2 * size))
  (h : K (a.put o.dst (.agg (e1 ++ e2).toArray)) w) : o.wp P a w K Q := by
 cases hie : P.info? e with
 | none => simp [hie] at hsz
 | some ie =>
  cases hit : P.info? t with
  | none => simp [hit] at hz
  | some it =>
   cases hzz : it.zero with
   | none => simp [hit, hzz] at hz
   | some z =>
    simp only [hie, hit, hzz, Option.map_some, Option.some.injEq, Option.bind_some] at hsz hz
    have hb : P.built t ((#[(0, x), (1, y)] : Array (Nat × Operand)).map fun (i, x) => (i, a.eval x)).toList = some (e1 ++ e2).toArray := by
     unfold Program.built
     simp only [hit, hu, hzz, hie]
     have h1 : ((#[(0, x), (1, y)] : Array (Nat × Operand)).map fun (i, x) => (i, a.eval x)).toList = [(0, .agg e1.toArray), (1, .agg e2.toArray)] := by simp [hx, hy]
     rw [h1, hsz]
     have h2 : z.cells = z.cells.toList.toArray := (Array.toArray_toList ..).symm
     rw [h2]
     exact fill_two hl1 hl2 (by simpa using hz)
    unfold Oper.wp execOp
    simp only [ho, Sem.run_bind, run_build w t _ _ hb, Result.andThen_ok]
    exact h
theorem fill_three {size : Nat} {e1 e2 e3 old : List Value} (h1 : e1.length = size) (h2 : e2.length = size) (h3 : e3.length = size) (ho : old.length = 3 * size) : Instr.fill (fun i => some (i * size, size)) old.toArray [(0, .agg e1.toArray), (1, .agg e2.toArray), (2, .agg e3.toArray)] = some (e1 ++ e2 ++ e3).toArray := by
 refine (fill_step (off := 0 * size) (size := size) (es := e1) (pre := []) (old := old.take size) (post := old.drop size) rfl (by rw [List.nil_append, List.take_append_drop]) (by simp) (by rw [List.length_take]; omega) rfl h1).trans ?_
 refine (fill_step (off := 1 * size) (size := size) (es := e2) (pre := e1) (old := (old.drop size).take size) (post := old.drop (2 * size)) rfl (by have h6 : old.drop size = (old.drop size).take size ++ old.drop (2 * size) := (by rw [show old.drop (2 * size) = (old.drop size).drop size from by rw [List.drop_drop, Nat.two_mul], List.take_append_drop]); rw [List.nil_append, ← h6]) (by omega) (by rw [List.length_take, List.length_drop]; omega) rfl h2).trans ?_
 refine (fill_step (off := 2 * size) (size := size) (es := e3) (pre := e1 ++ e2) (old := old.drop (2 * size)) (post := []) rfl (by simp) (by rw [List.length_append]; omega) (by rw [List.length_drop]; omega) rfl h3).trans ?_
 simp [Instr.fill]
theorem wp_lit3 {P : Program} {K : Act → World → Prop} {o : Oper} {a : Act} {w : World} {Q : Exit → Act → World → Prop} {t e : TypeId} {z : Value} {size bytes : Nat} (E : ElemOf P t e z size bytes) (x y u : Operand) (ho : o.op = .buildSlice t 3 #[(0, x), (1, y), (2, u)])
  (e1 e2 e3 : List Value) (hx : a.eval x = .agg e1.toArray) (hy : a.eval y = .agg e2.toArray) (hu : a.eval u = .agg e3.toArray) (hl1 : e1.length = size) (hl2 : e2.length = size) (hl3 : e3.length = size) (hs : size ≤ 1000000)
  (h : K (a.put o.dst (.slice (some ⟨w.heap.size, 0, none⟩) 3 3)) (w.alloc (.cells (e1 ++ e2 ++ e3).toArray e))) : o.wp P a w K Q := by
 obtain ⟨i, hi, hz, hsize, _⟩ := E.hi
 have hpos := E.hs
 refine wp_buildSlice t e 3 #[(0, x), (1, y), (2, u)] ho (e1 ++ e2 ++ e3).toArray i z E.ht hi hz (by rw [hsize]; omega) (by rw [hsize]; omega) ?_ h
 have h1 : ((#[(0, x), (1, y), (2, u)] : Array (Nat × Operand)).map fun (i, x) => (i, a.eval x)).toList = [(0, .agg e1.toArray), (1, .agg e2.toArray), (2, .agg e3.toArray)] := by simp [hx, hy, hu]
 rw [h1, hsize]
 have h2 : (Array.range (3 * size)).map (z.cells[· % z.cells.size]!) = ((Array.range (3 * size)).map (z.cells[· % z.cells.size]!)).toList.toArray := (Array.toArray_toList ..).symm
 rw [h2]
 exact fill_three hl1 hl2 hl3 (by simp)
theorem els3_new {w : World} {t : TypeId} {size : Nat} {a b c : List Value} (ha : a.length = size) (hb : b.length = size) (hc : c.length = size) : Els (w.alloc (.cells (a ++ b ++ c).toArray t)) (w.alloc (.cells (a ++ b ++ c).toArray t)).heap.size size (some ⟨w.heap.size, 0, none⟩) 3 [a, b, c] := by
 refine ⟨⟨by simp [ha, hb, hc]; omega, fun _ => ⟨⟨w.heap.size, 0, none⟩, rfl, by simp, fun j u hu => ?_⟩⟩, fun e he => ?_, rfl⟩
 ·rw [add_litG, Nat.zero_add]
  rw [World.cell?_alloc_mark]
  have h1 : [a, b, c].flatten = a ++ b ++ c := by simp
  rw [h1] at hu
  simpa using hu
 ·simp only [List.mem_cons, List.mem_nil_iff, or_false] at he
  rcases he with rfl | rfl | rfl
  ·exact ha
  ·exact hb
  ·exact hc
/-- what joining gives is shaped and small -/
theorem joinE_all (R S : EnvR) (h1 : SmR R) : ∃ RA er, joinE R S = (RA, er) ∧ (∀ s ∈ RA.sigs, shG s = true) ∧ RA.kind.size ≤ 300 ∧ RA.pay.length ≤ 100000 ∧ RA.sigs.length ≤ 8 := by
 have hz : ∀ er : Int, ∃ RA er', (envR0, er) = (RA, er') ∧ (∀ s ∈ RA.sigs, shG s = true) ∧ RA.kind.size ≤ 300 ∧ RA.pay.length ≤ 100000 ∧ RA.sigs.length ≤ 8 := fun er => ⟨envR0, er, rfl, (fun s hs => by cases hs), by decide, Nat.zero_le _, Nat.zero_le _⟩
 unfold joinE
 split
 ·exact hz _
 ·rename_i h2
  split
  ·exact hz _
  ·split
   ·exact hz _
   ·rename_i h3
    simp only [not_or, Bool.not_eq_false] at h2
    exact ⟨_, _, rfl, foldG_shaped _ _ _ (validR_iff.1 h2.1).2.2.2.1 (validR_iff.1 h2.2).2.2.2.1, h1.1, h1.2.1, Nat.le_of_not_lt h3⟩
end Go.Adm
namespace Go.Proofs.Ytfakjamocpamiaa
open Go Go.RowKit Go.Adm
theorem el_prs : ElemOf Try.prog 51 50 (.agg (envZ ++ envZ).toArray) 6 (Try.prog.bytesOf 50) := ElemOf.mk' Try.underlying51 (by kernel_rfl) rfl (by decide) (by decide +kernel)
theorem zero_env2 (w : World) : (zeroValue 50).run Try.prog w = .ok (.agg (envZ ++ envZ).toArray) w := by kernel_rfl
end Go.Proofs.Ytfakjamocpamiaa

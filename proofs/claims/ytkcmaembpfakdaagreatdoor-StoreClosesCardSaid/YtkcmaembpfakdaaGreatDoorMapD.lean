/- A set of digests in a map that the call made. -/
import Derived.Test.YtkcmaembpfakdaaGreatDoorGen2
import Derived.Maps.Own
import Derived.Maps.Views
import Derived.DeepKeys5
import Derived.Carry
set_option linter.unusedSimpArgs false
set_option linter.unusedVariables false
set_option maxRecDepth 100000
namespace Go.Adm
open Go Go.RowKit
theorem kl_byteD {P : Program} {e : TypeId} (he : P.underlying e = some (.int .u8)) (x : UInt8) (d : Nat) : P.keyLits (d + 1) e [bv x] = some [bl x] := by
  have h := kl_byte (P := P) he x
  unfold Program.keyLits at h ⊢
  rw [he] at h ⊢
  exact h
theorem kl_bytesD {P : Program} {t e : TypeId} {n : Nat} (hu : P.underlying t = some (.array n e)) (he : P.underlying e = some (.int .u8)) (hce : P.cellsOf e = 1) (hct : P.cellsOf t = n) (b : List UInt8) (hb : b.length = n) (d : Nat) :
    P.keyLits (d + 2) t (b.map bv) = some (b.map bl) := by
  have h := kl_bytes (P := P) hu he hce hct b hb
  unfold Program.keyLits at h ⊢
  rw [hu] at h ⊢
  simp only [List.length_map, hct, hb, if_true] at h ⊢
  rw [show (fun i => P.keyLits (d + 1) e (((b.map bv).drop (i * P.cellsOf e)).take (P.cellsOf e))) = (fun i => P.keyLits (d + 1) e (((b.map bv).drop (i * P.cellsOf e)).take (P.cellsOf e))) from rfl]
  have e1 : (List.range n).mapM (fun i => P.keyLits (d + 1) e (((b.map bv).drop (i * P.cellsOf e)).take (P.cellsOf e))) = (List.range n).mapM (fun i => P.keyLits 1 e (((b.map bv).drop (i * P.cellsOf e)).take (P.cellsOf e))) := by
    have h1 : ∀ i ∈ List.range n, P.keyLits (d + 1) e (((b.map bv).drop (i * P.cellsOf e)).take (P.cellsOf e)) = some [bl (b.getD i 0)] := fun i hi => by
      have hi' : i < b.length := by rw [hb]; simpa using hi
      rw [hce, Nat.mul_one, List.drop_eq_getElem_cons (by simpa using hi'), List.take_succ_cons, List.take_zero, List.getElem_map, kl_byteD he]
      simp [List.getD, hi']
    have h2 : ∀ i ∈ List.range n, P.keyLits 1 e (((b.map bv).drop (i * P.cellsOf e)).take (P.cellsOf e)) = some [bl (b.getD i 0)] := fun i hi => by
      have hi' : i < b.length := by rw [hb]; simpa using hi
      rw [hce, Nat.mul_one, List.drop_eq_getElem_cons (by simpa using hi'), List.take_succ_cons, List.take_zero, List.getElem_map, kl_byte he]
      simp [List.getD, hi']
    rw [mapM_some h1, mapM_some h2]
  rw [e1]
  exact h
section
variable {P : Program}
/-- a wide load whose guard is met -/
theorem wl_load_met {ops : Array Oper} {rest : List Oper} {op : Oper} {a : Act} {w : World} {Q : Exit → Act → World → Prop} (hw : Region.wanted op (yielded ops a.tmps) = true) (ty : TypeId) (x : Operand) (ho : op.op = .load ty x)
    (ad : Addr) (hx : a.eval x = .pointer (some ad)) (cs : List Value) (d : TypeDesc) (hc : ∀ j u, cs[j]? = some u → w.cell? (ad.add j) = some u)
    (hu : P.underlying ty = some d) (hd : d.isRow = true) (hi : (P.info? ty).map (·.size) = some cs.length) (h : wpList P ops Q rest (a.put op.dst (.agg cs.toArray)) w) : wpList P ops Q (op :: rest) a w :=
  wpList_step fun _ hK => by
    rw [if_pos hw]
    unfold Oper.wp execOp
    simp only [ho, hx, Instr.loadAt, Instr.sureAddr, Sem.run_bind, Sem.run_pure, Result.andThen_ok, run_loadVar_any w ad ty cs d hc hu hd hi]
    exact hK _ _ h
end
def dkey (d : List UInt8) : Lit := .string (keyBytes (d.map bl))
end Go.Adm
namespace Go.Proofs.YtkcmaembpfakdaaGreatDoor
open Go Go.RowKit Go.Adm
theorem dg_law : Go.Maps.Keyed Tryz.prog 32 := Go.Maps.Keyed.of_law (deep_law_laid (by kernel_rfl) (m := 2) (by decide) (of_decide_eq_true (by kernel_rfl)) (by kernel_rfl) (by rw [Tryz.underlying32]))
theorem dg_key (d : List UInt8) (h : d.length = 32) : keyOf Tryz.prog 32 (.agg (d.map bv).toArray) = some (dkey d) := by
  unfold keyOf
  rw [Tryz.underlying32]
  have h1 : Tryz.prog.keyType 32 = true := by kernel_rfl
  have h2 : (Value.agg (d.map bv).toArray).formed Tryz.prog 32 = true := by simp only [Value.formed, Tryz.underlying32, List.size_toArray, List.length_map, h]; kernel_rfl
  have h3 : ∃ k, Tryz.prog.types.size = k + 1 := ⟨Tryz.prog.types.size - 1, (Nat.succ_pred_eq_of_pos (of_decide_eq_true (by kernel_rfl))).symm⟩
  obtain ⟨k, hk⟩ := h3
  have h4 := kl_bytesD (P := Tryz.prog) Tryz.underlying32 Tryz.underlying5 (by kernel_rfl) (by kernel_rfl) d h k
  simp only [h1, h2, Bool.and_self, if_true]
  rw [hk]
  show Option.map _ (Tryz.prog.keyLits (k + 1 + 1) 32 (d.map bv)) = _
  rw [h4]
  rfl
theorem dkey_inj {x y : List UInt8} (hx : x.length = 32) (hy : y.length = 32) (h : dkey x = dkey y) : x = y := by
  have h1 := dg_law.inj (dg_key x hx) (by rw [h]; exact dg_key y hy)
  have h2 : x.map bv = y.map bv := by
    injection h1 with h1
    exact Array.toList_inj.2 h1 |> fun h => by simpa using h
  exact (List.map_inj_right (fun a b hab => by
    unfold bv at hab
    injection hab with _ hab
    exact UInt8.toNat_inj.1 (by omega))).1 h2
/-- a map that holds true at just these digests -/
def SetIs (w : World) (b n : Nat) (S : List (List UInt8)) : Prop :=
  ∃ D : DataW Unit, w.ownsMap Tryz.prog 32 (plainElem Tryz.prog 4) b n D ∧ Go.Maps.IsMap D ∧ ∀ d, d.length = 32 → D.atKey (dkey d) (.lit (.bool false)) = .lit (.bool (decide (d ∈ S)))
theorem SetIs.made (w : World) : SetIs (w.alloc (.map #[] 0)) w.heap.size 0 [] :=
  ⟨.map [], World.ownsMap_made w _ _ _, ⟨[], rfl⟩, fun d _ => by simp [DataW.atKey]⟩
theorem SetIs.lt {w : World} {b n : Nat} {S : List (List UInt8)} (h : SetIs w b n S) : b < w.heap.size := by
  obtain ⟨D, h, -⟩ := h; exact h.lt
theorem SetIs.kept {w w' : World} {b n : Nat} {S : List (List UInt8)} {row : Option Nat} (h : SetIs w b n S) (hg : w.grownBy w' row) (hne : some b ≠ row) : SetIs w' b n S := by
  obtain ⟨D, h1, h2, h3⟩ := h; exact ⟨D, h1.kept hg hne, h2, h3⟩
theorem SetIs.block {w w' : World} {b n : Nat} {S : List (List UInt8)} (h : SetIs w b n S) (hb : w'.heap[b]? = w.heap[b]?) : SetIs w' b n S := by
  obtain ⟨D, ⟨es, clock, h1, h4, h5, h6⟩, h2, h3⟩ := h; exact ⟨D, ⟨es, clock, hb.trans h1, h4, h5, h6⟩, h2, h3⟩
theorem SetIs.look {w : World} {b n : Nat} {S : List (List UInt8)} (h : SetIs w b n S) {d : List UInt8} (hd : d.length = 32) :
    (Instr.lookup 60 (.map (some b)) (.agg (d.map bv).toArray) false).run Tryz.prog w = .ok (.bool (decide (d ∈ S))) w := by
  obtain ⟨D, h1, -, h3⟩ := h
  obtain ⟨v, ps, hrun, hv⟩ := h1.lookup dg_law Tryz.underlying60 (z := .bool false) (by kernel_rfl) (plainElem_bool Tryz.underlying4 false) (dg_key d hd)
  rw [h3 d hd] at hv
  have e : v = .bool (decide (d ∈ S)) := by
    unfold plainElem at hv
    rw [Tryz.underlying4] at hv
    cases v <;> simp at hv
    rw [hv.1]
  rw [e] at hrun
  exact hrun
theorem SetIs.put {w : World} {b n : Nat} {S : List (List UInt8)} (h : SetIs w b n S) (hn : n < maxLen) {d : List UInt8} (hd : d.length = 32) :
    ∃ w', (Instr.mapUpdate 60 (.map (some b)) (.agg (d.map bv).toArray) (.bool true)).run Tryz.prog w = .ok () w' ∧ SetIs w' b (n + 1) (d :: S) ∧ w.grownBy w' (some b) := by
  obtain ⟨D, h1, h2, h3⟩ := h
  obtain ⟨w', hrun, ho, hg⟩ := h1.update dg_law Tryz.underlying60 hn (dg_key d hd) (plainElem_bool Tryz.underlying4 true)
  refine ⟨w', hrun, ⟨_, ho, h2.put _ _, fun x hx => ?_⟩, hg⟩
  by_cases e : x = d
  · subst e
    rw [Go.Maps.atKey_put_same h2 (dg_law.key (dg_key x hx))]
    simp
  · rw [Go.Maps.atKey_put_other (fun h => e (dkey_inj hx hd h)), h3 x hx]
    simp [e]
end Go.Proofs.YtkcmaembpfakdaaGreatDoor
namespace Go.Adm
/-- a map's block among the facts -/
def setR (P : World → Nat → Nat → List (List UInt8) → Prop) (b n : Nat) (S : List (List UInt8)) : Res := .nest b 0 1 none 0 0 [] 0 (fun g => g = b) (fun w => P w b n S)
end Go.Adm
namespace Go.Proofs.YtkcmaembpfakdaaGreatDoor
open Go Go.RowKit Go.Adm
def setM (b n : Nat) (S : List (List UInt8)) : Res := setR SetIs b n S
theorem setM_ok {w : World} {b n : Nat} {S : List (List UInt8)} (h : SetIs w b n S) : (setM b n S).ok w :=
  ⟨Go.Adm.Own.nil _ _ _ _, h, fun w w' hs hb hi => SetIs.block hi (hb b (.inr rfl) (SetIs.lt hi)), fun g hg => by subst hg; exact ⟨Nat.le_refl _, SetIs.lt h⟩, fun g hg => by cases hg⟩
theorem setM_get {w : World} {b n : Nat} {S : List (List UInt8)} (h : (setM b n S).ok w) : SetIs w b n S := (h : Nest _ _ _ _ _ _ _ _ _ _ _).inn
theorem setM_apart {b n g : Nat} {S : List (List UInt8)} (h : g ≠ b) : (setM b n S).apart (some g) := fun q hq => by
  injection hq with hq; subst hq
  exact ⟨Nat.zero_le _, .inr ⟨by simp [Value.ownBlock], h⟩⟩
theorem own_ne_set {w : World} {base size n c b nS : Nat} {e : TypeId} {A : Option Addr} {xs : List Value} {S : List (List UInt8)} (h : Go.Adm.Own w base e size A n c xs) (hs : SetIs w b nS S) : (Value.slice A n c).ownBlock ≠ some b := fun hq => by
  rcases h.2 with ⟨h0, _⟩ | ⟨g, cap, cur, hv, hb, hh, r⟩
  · rw [h0] at hq; cases hq
  · rw [hv] at hq
    injection hq with hq
    obtain ⟨D, ⟨es, clock, h1, _⟩, _⟩ := hs
    rw [← hq, hh] at h1
    cases h1
section
variable {ops : Array Oper} {rest : List Oper} {o : Oper} {a : Act} {w : World} {Q : Exit → Act → World → Prop} {rs : List Res}
/-- a digest is put into the set -/
theorem wl_put (hR : All w rs) (j : Nat) (hw : Region.wanted o (yielded ops a.tmps) = true) (m x v : Operand) (ho : o.op = .mapUpdate 60 m x v ∨ o.op = .insert 60 m x v)
    (b n : Nat) (S : List (List UInt8)) (hj : rs[j]? = some (setM b n S)) (d : List UInt8) (hm : a.eval m = .map (some b)) (hx : a.eval x = .agg (d.map bv).toArray) (hv : a.eval v = .bool true) (hd : d.length = 32) (hn : n < maxLen) (hap : Apart (some b) (rs.eraseIdx j))
    (hk : ∀ w', All w' (rs.set j (setM b (n + 1) (d :: S))) → w.heap.size ≤ w'.heap.size → wpList Tryz.prog ops Q rest (a.put o.dst undef) w') : wpList Tryz.prog ops Q (o :: rest) a w := by
  obtain ⟨w', hrun, hs, hg⟩ := SetIs.put (setM_get (hR.at_ j hj)) hn hd
  refine wpList_step fun K' hK' => ?_
  rw [if_pos hw]
  unfold Oper.wp
  have h2 : wpList Tryz.prog ops Q rest (a.put o.dst undef) w' := hk w' (All.upd hg j _ hR (setM_ok hs) hap) hg.size
  rcases ho with ho | ho
  · simp [execOp, ho, hm, hx, hv, hrun, Result.andThen]
    exact hK' _ _ h2
  · simp [execOp, ho, hm, hx, hv, hrun, Result.andThen]
    exact hK' _ _ h2
/-- the set is asked -/
theorem wl_look (hR : All w rs) (j : Nat) (hw : Region.wanted o (yielded ops a.tmps) = true) (m x : Operand) (ho : o.op = .lookup 60 m x false)
    (b n : Nat) (S : List (List UInt8)) (hj : rs[j]? = some (setM b n S)) (d : List UInt8) (hm : a.eval m = .map (some b)) (hx : a.eval x = .agg (d.map bv).toArray) (hd : d.length = 32)
    (hk : wpList Tryz.prog ops Q rest (a.put o.dst (.bool (decide (d ∈ S)))) w) : wpList Tryz.prog ops Q (o :: rest) a w := by
  have hrun := SetIs.look (setM_get (hR.at_ j hj)) hd
  refine wpList_step fun K' hK' => ?_
  rw [if_pos hw]
  unfold Oper.wp
  simp [execOp, ho, hm, hx, hrun, Result.andThen]
  exact hK' _ _ hk
/-- an empty set is made -/
theorem wl_newset (hR : All w rs) (hw : Region.wanted o (yielded ops a.tmps) = true) (ho : o.op = .makeMap 60 none)
    (hk : ∀ w', All w' (setM w.heap.size 0 [] :: rs) → wpList Tryz.prog ops Q rest (a.put o.dst (.map (some w.heap.size))) w') : wpList Tryz.prog ops Q (o :: rest) a w := by
  refine wpList_step fun K' hK' => ?_
  rw [if_pos hw]
  unfold Oper.wp
  have h2 := hk (w.alloc (.map #[] 0)) ⟨setM_ok (SetIs.made w), hR.alloc _⟩
  simp [execOp, ho, run_makeMap, Tryz.underlying60, Result.andThen]
  exact hK' _ _ h2
end
end Go.Proofs.YtkcmaembpfakdaaGreatDoor

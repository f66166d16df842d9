/- Envelopes that do not lie in the boxes of the law's variables. -/
import Derived.Test.YtfakjamocpamiaaEnvUa
import Derived.Test.YtfakjamocpamiaaEnvY
set_option linter.unusedSimpArgs false
set_option linter.unusedVariables false
set_option maxRecDepth 100000
namespace Go.Adm
open Go Go.RowKit
theorem Rd.off {w w' : World} {B size n : Nat} {A : Option Addr} {xs : List Value} {G : Nat → Prop} (h : Rd w B size A n xs) (hx : 0 < n → ∃ k z, xs[0]? = some (.int k z)) (hG : ∀ p : Addr, G p.block → ∀ k z, w.cell? p ≠ some (.int k z))
  (hk : ∀ p : Addr, p.block < B → ¬ G p.block → w'.cell? p = w.cell? p) : Rd w' B size A n xs :=
 ⟨h.len, fun hn => by
  obtain ⟨ad, e, hb, hc⟩ := h.at_ hn
  obtain ⟨k, z, h0⟩ := hx hn
  have hng : ¬ G ad.block := fun hg => hG (ad.add 0) (by rw [add_block]; exact hg) k z (hc 0 _ h0)
  exact ⟨ad, e, hb, fun j u hu => (hk (ad.add j) (by rw [add_block]; exact hb) (by rw [add_block]; exact hng)).trans (hc j u hu)⟩⟩
theorem hvs_first {ch : List (List UInt8)} (h16 : ∀ y ∈ ch, y.length = 16) (hn : 0 < ch.length) : ∃ k z, (hvs ch).flatten[0]? = some (.int k z) := by
 cases ch with
 | nil => simp at hn
 | cons y ys =>
  have hy := h16 y List.mem_cons_self
  cases y with
  | nil => simp at hy
  | cons b bs => exact ⟨.u8, b.toNat, by simp [hvs]; rfl⟩
theorem KsOk.off {w w' : World} {B : Nat} {x : Ks} {G : Nat → Prop} (h : KsOk w B x) (hG : ∀ p : Addr, G p.block → ∀ k z, w.cell? p ≠ some (.int k z)) (hk : ∀ p : Addr, p.block < B → ¬ G p.block → w'.cell? p = w.cell? p) : KsOk w' B x :=
 ⟨h.r16, ⟨h.rc.rd.off (hvs_first h.c16) hG hk, h.rc.each, h.rc.len⟩, h.c16, h.cc, ⟨h.rp.rd.off (hvs_first h.p16) hG hk, h.rp.each, h.rp.len⟩, h.p16, h.cp⟩
theorem EnvAt.off {w w' : World} {B : Nat} {R : EnvR} {cs : List Value} {G : Nat → Prop} (h : EnvAt w B R cs) (hG : ∀ p : Addr, G p.block → ∀ k z, w.cell? p ≠ some (.int k z)) (hk : ∀ p : Addr, p.block < B → ¬ G p.block → w'.cell? p = w.cell? p) : EnvAt w' B R cs := by
 obtain ⟨Ap, np, cp, As, ns, cc, l, h1, h2, h3, h4, h5, h6⟩ := h
 refine ⟨Ap, np, cp, As, ns, cc, l, h1, h2, h3.off (fun hn => ?_) hG hk, h4, ⟨⟨h5.els.rd.off (fun hn => ?_) hG hk, h5.els.each, h5.els.len⟩, fun x hx => (h5.each x hx).off hG hk, h5.len⟩, h6⟩
 ·rw [← h2] at hn
  cases hp : R.pay with
  | nil => rw [hp] at hn; simp at hn
  | cons b bs => exact ⟨.u8, b.toNat, rfl⟩
 ·rw [← h5.len] at hn
  cases hl : l with
  | nil => rw [hl] at hn; simp at hn
  | cons x xs => exact ⟨.i64, x.h, by simp [ksC, pkCells]⟩
/-- an envelope that does not lie in two given blocks -/
def EnvO (g5 g6 B : Nat) (R : EnvR) (cs : List Value) (w : World) : Prop := B ≤ w.heap.size ∧ ∀ w' : World, (∀ p : Addr, p.block < B → ¬ (p.block = g5 ∨ p.block = g6) → w'.cell? p = w.cell? p) → EnvAt w' B R cs
theorem EnvO.at_ {g5 g6 B : Nat} {R : EnvR} {cs : List Value} {w : World} (h : EnvO g5 g6 B R cs w) : EnvAt w B R cs := h.2 w (fun _ _ _ => rfl)
abbrev Res.envo (g5 g6 B : Nat) (R : EnvR) (cs : List Value) : Res := .nest 0 0 1 none 0 0 [] 0 (fun b => b < B ∧ ¬ (b = g5 ∨ b = g6)) (EnvO g5 g6 B R cs)
theorem box_noint {w : World} {g : Nat} {t : TypeId} (h : Cells w g t envZ) (p : Addr) (hp : p.block = g) : ∀ k z, w.cell? p ≠ some (.int k z) := fun k z e => by
 have h' : w.heap[g]? = some (.cells envZ.toArray t (0, 0)) := h
 have e2 : w.cell? p = if p.spot.isSome then none else envZ.toArray[p.off]? := by unfold World.cell?; rw [hp, h']
 rw [e2] at e
 split at e
 ·cases e
 ·have hm : Value.int k z ∈ envZ.toArray := Array.mem_of_getElem? e
  simp [envZ, envC] at hm
theorem envo_of {w : World} {g5 g6 : Nat} {t : TypeId} {R : EnvR} {cs : List Value} (h : EnvAt w w.heap.size R cs) (h5 : Cells w g5 t envZ) (h6 : Cells w g6 t envZ) : (Res.envo g5 g6 w.heap.size R cs).ok w := by
 refine Nest.of (Own.nil _ _ _ _) ⟨Nat.le_refl _, fun w' hk => h.off (G := fun b => b = g5 ∨ b = g6) (fun p hp => ?_) hk⟩ ?_ (fun b hb => ⟨Nat.zero_le _, hb.1, fun e => by cases e⟩)
 ·rcases hp with hp | hp
  ·exact box_noint h5 p hp
  ·exact box_noint h6 p hp
 ·intro w1 w2 hs hb hin
  refine ⟨Nat.le_trans hin.1 hs, fun w' hk => hin.2 w' (fun p h1 h2 => (hk p h1 h2).trans ?_)⟩
  exact World.cell?_of_block (w := w1) (hb p.block (.inr ⟨h1, h2⟩) (Nat.lt_of_lt_of_le h1 hin.1))
theorem envo_apart {g5 g6 B g : Nat} {R : EnvR} {cs : List Value} (h : g = g5 ∨ g = g6) : (Res.envo g5 g6 B R cs).apart (some g) := fun q hq => by
 injection hq with hq
 subst hq
 exact ⟨Nat.zero_le _, .inr ⟨fun e => (by cases e), fun hF => hF.2 h⟩⟩
/-- a row of two lists of digests, as the value of an operation -/
def VF.dg2 (d1 d2 : List (List UInt8)) : VF := .gen (fun w v => ∃ ad A1 c1 A2 c2, v = .slice (some ad) 2 2 ∧ Rd w w.heap.size 1 (some ad) 2 [.slice A1 d1.length c1, .slice A2 d2.length c2] ∧ Digs w w.heap.size A1 d1.length d1 ∧ Digs w w.heap.size A2 d2.length d2) fun w w' v hg h => by
 obtain ⟨ad, A1, c1, A2, c2, h0, h1, h2, h3⟩ := h
 exact ⟨ad, A1, c1, A2, c2, h0, h1.grown hg, (h2.keep fun p hp => World.cell?_of_block (w := w) (hg.block _ hp (by simp))).mono hg.size, (h3.keep fun p hp => World.cell?_of_block (w := w) (hg.block _ hp (by simp))).mono hg.size⟩
theorem wp_lit2s {P : Program} {K : Act → World → Prop} {o : Oper} {a : Act} {w : World} {Q : Exit → Act → World → Prop} {t e : TypeId} {z : Value} {bytes : Nat} (E : ElemOf P t e z 1 bytes) (x y : Operand) (ho : o.op = .buildSlice t 2 #[(0, x), (1, y)])
  (v1 v2 : Value) (hx : a.eval x = v1) (hy : a.eval y = v2) (h1 : v1.cells = [v1].toArray) (h2 : v2.cells = [v2].toArray)
  (h : K (a.put o.dst (.slice (some ⟨w.heap.size, 0, none⟩) 2 2)) (w.alloc (.cells [v1, v2].toArray e))) : o.wp P a w K Q := by
 obtain ⟨i, hi, hz, hsize, _⟩ := E.hi
 refine wp_buildSlice t e 2 #[(0, x), (1, y)] ho [v1, v2].toArray i z E.ht hi hz (by rw [hsize]; omega) (by rw [hsize]; omega) ?_ h
 have h3 : ((#[(0, x), (1, y)] : Array (Nat × Operand)).map fun (i, x) => (i, a.eval x)).toList = [(0, v1), (1, v2)] := by simp [hx, hy]
 rw [h3, hsize]
 have h4 : (Array.range (2 * 1)).map (z.cells[· % z.cells.size]!) = ((Array.range (2 * 1)).map (z.cells[· % z.cells.size]!)).toList.toArray := (Array.toArray_toList ..).symm
 rw [h4]
 have hl : ((Array.range (2 * 1)).map (z.cells[· % z.cells.size]!)).toList.length = 2 := by simp
 generalize ((Array.range (2 * 1)).map (z.cells[· % z.cells.size]!)).toList = old at hl
 match old, hl with
 | [o1, o2], _ =>
  refine (fill_step (off := 0 * 1) (size := 1) (es := [v1]) (pre := []) (old := [o1]) (post := [o2]) rfl rfl rfl rfl h1 rfl).trans ?_
  refine (fill_step (off := 1 * 1) (size := 1) (es := [v2]) (pre := [v1]) (old := [o2]) (post := []) rfl rfl rfl rfl h2 rfl).trans ?_
  simp [Instr.fill]
theorem rd2_new {w : World} {t : TypeId} {v1 v2 : Value} : Rd (w.alloc (.cells [v1, v2].toArray t)) (w.alloc (.cells [v1, v2].toArray t)).heap.size 1 (some ⟨w.heap.size, 0, none⟩) 2 [v1, v2] :=
 (Rd.lit (size := 1) w [v1, v2].toArray t 2 rfl).mono (by simp)
end Go.Adm
namespace Go.Proofs.Ytfakjamocpamiaa
open Go Go.RowKit Go.Adm
theorem el_dds : ElemOf Try.prog 55 32 (.slice none 0 0) 1 (Try.prog.bytesOf 32) := ElemOf.mk' Try.underlying55 (by kernel_rfl) rfl (by decide) (by decide +kernel)
end Go.Proofs.Ytfakjamocpamiaa

/- Rows of two envelopes, as the laws on envelopes have them. -/
import Derived.Test.YtfakjamocpamiaaEnvV
import Derived.Test.YtfakjamocpamiaaEnvK
import Derived.Test.YtfakjamocpamiaaFreQ
set_option linter.unusedSimpArgs false
set_option linter.unusedVariables false
set_option maxRecDepth 100000
namespace Go.Adm
open Go Go.RowKit
theorem EnvAt.grown {w w' : World} {R : EnvR} {cs : List Value} (hg : w.grownBy w' none) (h : EnvAt w w.heap.size R cs) : EnvAt w' w'.heap.size R cs :=
 (h.keep fun p hp => World.cell?_of_block (w := w) (hg.block _ hp (by simp))).mono hg.size
theorem Els.grown {w w' : World} {size n : Nat} {A : Option Addr} {es : List (List Value)} (hg : w.grownBy w' none) (h : Els w w.heap.size size A n es) : Els w' w'.heap.size size A n es :=
 ⟨h.rd.grown hg, h.each, h.len⟩
/-- a made envelope, as the value of an operation -/
def VF.made (p q : List UInt8) (sp : Int) : VF := .gen (fun w v => ∃ R cs, v = .agg cs.toArray ∧ EnvAt w w.heap.size R cs ∧ MadeR p q sp R) fun w w' v hg h => by
 obtain ⟨R, cs, h1, h2, h3⟩ := h
 exact ⟨R, cs, h1, h2.grown hg, h3⟩
/-- a row of a given envelope and a made one, as the value of an operation -/
def VF.pair (p q : List UInt8) (sp : Int) (cs0 : List Value) : VF := .gen (fun w v => ∃ ad R cs, v = .slice (some ad) 2 2 ∧ Els w w.heap.size 3 (some ad) 2 [cs0, cs] ∧ EnvAt w w.heap.size R cs ∧ MadeR p q sp R) fun w w' v hg h => by
 obtain ⟨ad, R, cs, h0, h1, h2, h3⟩ := h
 exact ⟨ad, R, cs, h0, h1.grown hg, h2.grown hg, h3⟩
/-- a list of digests, as the value of an operation -/
def VF.digs (ds : List (List UInt8)) : VF := .gen (fun w v => ∃ A c, v = .slice A ds.length c ∧ Digs w w.heap.size A ds.length ds) fun w w' v hg h => by
 obtain ⟨A, c, h1, h2⟩ := h
 exact ⟨A, c, h1, (h2.keep fun p hp => World.cell?_of_block (w := w) (hg.block _ hp (by simp))).mono hg.size⟩
theorem SgsPost.v {R : EnvR} {w : World} {e : Ending} {w' : World} (h : SgsPost R w e w') : ∃ A c, e = .returned (.slice A (signersE R).length c) ∧ Digs w' w'.heap.size A (signersE R).length (signersE R) ∧ Below w.heap.size w w' := by
 obtain ⟨A, n, c, rfl, h1, -, -, h2⟩ := h
 obtain rfl : (signersE R).length = n := h1.len
 exact ⟨A, c, rfl, h1, h2⟩
theorem LitPost.v {R : EnvR} {w : World} {e : Ending} {w' : World} (h : LitPost R w e w') : ∃ v, e = .returned (.bool v) ∧ (v = true → LightR R) ∧ Below w.heap.size w w' := by
 obtain ⟨h1 | ⟨h1, h2⟩, hb⟩ := h
 ·exact ⟨false, h1, fun h => (by cases h), hb⟩
 ·exact ⟨true, h1, fun _ => h2, hb⟩
/-- small enough for what the laws call -/
def SmR (R : EnvR) : Prop := R.kind.size ≤ 300 ∧ R.pay.length ≤ 100000 ∧ R.sigs.length ≤ 12
theorem LightR.sm {R : EnvR} (h : LightR R) : SmR R := ⟨h.2.1, h.1, h.2.2.1⟩
theorem MadeR.sm {p q : List UInt8} {sp : Int} {R : EnvR} (h : MadeR p q sp R) : SmR R := ⟨Nat.le_trans h.kind (by decide), Nat.le_trans h.pay (by decide), Nat.le_trans h.len (by decide)⟩
/-- the three cells of an envelope -/
theorem EnvAt.form {w : World} {B : Nat} {R : EnvR} {cs : List Value} (h : EnvAt w B R cs) : ∃ Ap np cp As cc, cs = envC R.kind Ap np cp As R.sigs.length cc ∧ R.pay.length = np ∧ Rd w B 1 Ap np (R.pay.map bv) := by
 obtain ⟨Ap, np, cp, As, ns, cc, l, rfl, hpn, hp, hlm, hl, -⟩ := h
 exact ⟨Ap, np, cp, As, cc, by rw [hlm, List.length_map, hl.len], hpn, hp⟩
theorem EnvAt.pay {w : World} {B : Nat} {R : EnvR} {k : ByteArray} {Ap : Option Addr} {np cp : Nat} {As : Option Addr} {ns cc : Nat} (h : EnvAt w B R (envC k Ap np cp As ns cc)) : Rd w B 1 Ap np (R.pay.map bv) := by
 obtain ⟨Ap', np', cp', As', ns', cc', l, e, hpn, hp, -⟩ := h
 simp only [envC, List.cons.injEq, Value.slice.injEq] at e
 obtain ⟨-, ⟨rfl, rfl, rfl⟩, -⟩ := e
 exact hp
end Go.Adm
namespace Go.Proofs.Ytfakjamocpamiaa
open Go Go.RowKit Go.Adm
end Go.Proofs.Ytfakjamocpamiaa

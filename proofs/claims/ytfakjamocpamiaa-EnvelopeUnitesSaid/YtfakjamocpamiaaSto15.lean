/- Lists of digests: Has and Add of the reference; Audit where nothing is wrong. -/
import Derived.Test.YtfakjamocpamiaaStA
import Derived.Test.YtfakjamocpamiaaFreB
set_option linter.unusedSimpArgs false
set_option linter.unusedVariables false
set_option maxRecDepth 100000
namespace Go.Adm
open Go Go.RowKit
def dvs (xs : List (List UInt8)) : List (List Value) := xs.map fun x => x.map bv
theorem dvs_len (xs : List (List UInt8)) : (dvs xs).length = xs.length := List.length_map _
/-- a slice of digests -/
structure Digs (w : World) (B : Nat) (A : Option Addr) (n : Nat) (xs : List (List UInt8)) : Prop where
 els : Els w B 32 A n (dvs xs)
 each : ∀ x ∈ xs, x.length = 32
 len : xs.length = n
theorem Digs.keep {w w' : World} {B n : Nat} {A : Option Addr} {xs : List (List UInt8)} (h : Digs w B A n xs) (hk : ∀ p : Addr, p.block < B → w'.cell? p = w.cell? p) : Digs w' B A n xs := ⟨h.els.keep hk, h.each, h.len⟩
theorem Digs.mono {w : World} {B B' n : Nat} {A : Option Addr} {xs : List (List UInt8)} (h : Digs w B A n xs) (hB : B ≤ B') : Digs w B' A n xs := ⟨h.els.mono hB, h.each, h.len⟩
theorem Digs.nil {w : World} {B : Nat} : Digs w B none 0 [] := ⟨Els.nil, (fun x hx => by cases hx), rfl⟩
def Low.digs (B : Nat) (A : Option Addr) (n : Nat) (xs : List (List UInt8)) : Low := ⟨B, fun w => Digs w B A n xs, fun _ _ hk h => h.keep hk⟩
theorem Digs.elem {w : World} {B n : Nat} {A : Option Addr} {xs : List (List UInt8)} (h : Digs w B A n xs) {k : Nat} (hk : k < xs.length) :
  ∃ ad, A = some ad ∧ ad.block < B ∧ ∀ j u, (xs[k].map bv)[j]? = some u → w.cell? ((ad.add (k * 32)).add j) = some u := by
 obtain ⟨ad, e, hb, hc⟩ := h.els.at_ (k := k) (by rw [dvs_len]; exact hk)
 unfold dvs at hc
 rw [List.getElem_map] at hc
 exact ⟨ad, e, hb, hc⟩
end Go.Adm
namespace Go.Proofs.Ytfakjamocpamiaa
open Go Go.RowKit Go.Adm
theorem zero_dg (w : World) : (zeroValue 37).run Try.prog w = .ok (.agg (z32.map bv).toArray) w := by kernel_rfl
theorem el_dg : ElemOf Try.prog 32 37 (.agg (z32.map bv).toArray) 32 32 := ElemOf.mk' Try.underlying32 (by kernel_rfl) rfl (by decide) (by decide)
end Go.Proofs.Ytfakjamocpamiaa

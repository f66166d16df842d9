/- Which records are valid: the program. -/
import Derived.Test.YtmiohkfhmaklgaaDoorRec5
import Derived.Test.YtmiohkfhmaklgaaDoorSnap3
set_option linter.unusedSimpArgs false
set_option linter.unusedVariables false
set_option maxRecDepth 100000
namespace Go.AdR
open Go Go.RowKit Go.Adm
theorem cell_of {w : World} {g : Nat} {t : TypeId} {cs : List Value} (h : Cells w g t cs) {i : Nat} {v : Value} (hi : cs[i]? = some v) : w.cell? ⟨g, i, none⟩ = some v := by
  obtain ⟨hl, e⟩ := List.getElem?_eq_some_iff.1 hi
  rw [Cells.cell h hl, e]
/-- a slice in memory -/
structure Sl where
  A : Option Addr
  n : Nat
  c : Nat
def Sl.v (s : Sl) : Value := .slice s.A s.n s.c
/-- a record: what it says, and where its lists lie -/
structure Rec where
  run : ByteArray
  scope : ByteArray
  step : ByteArray
  t : Int
  cmd : List ByteArray
  env : List Var
  mat : List E
  prod : List E
def recC (x : Rec) (sc se sm sp : Sl) : List Value := [.string x.run, .string x.scope, .string x.step, .int .i64 x.t, sc.v, se.v, sm.v, sp.v]
structure RecIn (w : World) (B : Nat) (x : Rec) (sc se sm sp : Sl) : Prop where
  cmd : Strs w B sc.A sc.n x.cmd
  env : Els w B 2 se.A se.n (x.env.map varC)
  mat : Els w B 33 sm.A sm.n (x.mat.map entC)
  prod : Els w B 33 sp.A sp.n (x.prod.map entC)
theorem RecIn.keep {w w' : World} {B : Nat} {x : Rec} {sc se sm sp : Sl} (h : RecIn w B x sc se sm sp) (hk : ∀ p : Addr, p.block < B → w'.cell? p = w.cell? p) : RecIn w' B x sc se sm sp := ⟨h.cmd.keep hk, h.env.keep hk, h.mat.keep hk, h.prod.keep hk⟩
def Low.recd (B : Nat) (x : Rec) (sc se sm sp : Sl) : Low := ⟨B, fun w => RecIn w B x sc se sm sp, fun _ _ hk h => h.keep hk⟩
/-- what is known of a record ahead -/
structure RecOk (x : Rec) : Prop where
  run : x.run.size ≤ 140737488355328
  step : x.step.size ≤ 140737488355328
  scope : x.scope.size ≤ 1000000
  env : ∀ e ∈ x.env, VarOk e
  mat : ∀ e ∈ x.mat, E32 e
  prod : ∀ e ∈ x.prod, E32 e
  ncmd : x.cmd.length ≤ 1000000
  nenv : x.env.length ≤ 1000000
  nmat : x.mat.length ≤ 400000
  nprod : x.prod.length ≤ 400000
end Go.AdR
namespace Go.Proofs.YtmiohkfhmaklgaaDoor
open Go Go.RowKit Go.Adm Go.AdR
end Go.Proofs.YtmiohkfhmaklgaaDoor

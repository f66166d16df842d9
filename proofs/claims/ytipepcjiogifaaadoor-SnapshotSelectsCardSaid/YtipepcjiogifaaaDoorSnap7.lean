/- Diff. -/
import Derived.Test.YtipepcjiogifaaaDoorSnap6
import Derived.Test.YtipepcjiogifaaaDoorFreA
set_option linter.unusedSimpArgs false
set_option linter.unusedVariables false
namespace Go.Adm
open Go Go.RowKit
theorem runS_len {α β : Type} (f : α → Option (Option β)) : ∀ (l : List α) {r : List β}, runS f l = some r → r.length ≤ l.length
  | [], r, h => by simp only [runS, Option.some.injEq] at h; subst h; simp
  | q :: l, r, h => by
    simp only [runS] at h
    cases hq : f q with
    | none => rw [hq] at h; cases h
    | some e =>
      rw [hq] at h
      cases hl : runS f l with
      | none => simp [hl] at h
      | some m =>
        simp only [hl, Option.map_some, Option.some.injEq] at h
        subst h
        have := runS_len f l hl
        cases e <;> simp <;> omega
def itX (A1 : Option Addr) {a b : List C} : It a b → Value
  | .l i => ptrA A1 i.val
  | .r _ => .pointer none
  | .e i _ => ptrA A1 i.val
def itY (A2 : Option Addr) {a b : List C} : It a b → Value
  | .l _ => .pointer none
  | .r j => ptrA A2 j.val
  | .e _ j => ptrA A2 j.val
/-- one element more in the row that a box holds -/
theorem out_more {W w3 : World} {bO size g6 n : Nat} {tid tsl : TypeId} {A A3 : Option Addr} {c c3 : Nat} {xs u : List Value} {rest : List Res} (h : All W (.own bO tid size A n c xs :: .cells g6 tsl [.slice A n c] :: rest)) (hr : ∀ g, bO ≤ g → (Value.slice A n c).ownBlock = some g → Apart (some g) rest) (h6 : g6 < bO)
    (hown3 : Own w3 bO tid size A3 (n + 1) c3 (xs ++ u)) (hg3 : W.grownBy w3 (Value.slice A n c).ownBlock) (hr6 : Apart (some g6) rest) :
    All w3 (.own bO tid size A3 (n + 1) c3 (xs ++ u) :: .cells g6 tsl [.slice A n c] :: rest) ∧ All (w3.setCell ⟨g6, 0, Option.none⟩ (.slice A3 (n + 1) c3)) (.own bO tid size A3 (n + 1) c3 (xs ++ u) :: .cells g6 tsl [.slice A3 (n + 1) c3] :: rest) ∧ KeepsOthers W (w3.setCell ⟨g6, 0, Option.none⟩ (.slice A3 (n + 1) c3)) := by
  have hown : Own W bO tid size A n c xs := h.1
  have h1 : All w3 (.cells g6 tsl [.slice A n c] :: rest) := by
    refine All.step hg3 h.2 ?_
    cases hq : (Value.slice A n c).ownBlock with
    | none => exact Apart.none _
    | some g => exact ⟨fun e => by injection e with e; have := (hown.lt hq).1; omega, hr g (hown.lt hq).1 hq⟩
  have h2 : All w3 (.own bO tid size A3 (n + 1) c3 (xs ++ u) :: .cells g6 tsl [.slice A n c] :: rest) := ⟨hown3, h1⟩
  refine ⟨h2, ?_, (KeepsOthers.of_grownBy hg3 fun j o' e ho => Own.isCells hown j o' e ho).trans (.setCell _ _ _)⟩
  have h3 := h2.store 1 rfl 0 (.slice A3 (n + 1) c3) ⟨fun g e => .inl (by injection e with e; omega), hr6⟩
  simpa using h3
theorem wpIn_neq0 {F : Fence} {nF : Nat} {P : Program} {o : Oper} {a : Act} {w : World} {K : Act → World → Prop} {Q : Exit → Act → World → Prop} {t t2 : TypeId} (hF : ∀ f, F.fn f) (x y : Operand) (ho : o.op = .binOp .neq t x y t2) (v : Value)
    (h : (binOp .neq t (a.eval x) (a.eval y)).run P w = .ok v w) (hg : (eqGuard .neq t x y (a.eval x) (a.eval y)).run P w = .ok () w) (hk : K (a.put o.dst v) w) : o.wpIn F nF P a w K Q :=
  wpIn_val hF (by rw [ho]; intro c hc; cases hc) (v := v) (w' := w) (by
    unfold execOp
    simp only [ho, Sem.run_bind, hg, h, Result.andThen_ok, Sem.run_pure]) hk
def diffR (a b : List E) : List C × Int := if validB a && validB b then (diff blt z32 a b, 0) else ([], 1)
theorem own_low {w : World} {base size n c B : Nat} {e : TypeId} {A : Option Addr} {es : List (List Value)} (h : Own w base e size A n c es.flatten) (he : ∀ x ∈ es, x.length = size) (hl : es.length = n) (hB : ∀ g, (Value.slice A n c).ownBlock = some g → g < B) : Els w B size A n es := by
  refine ⟨⟨h.rd.len, fun hn => ?_⟩, he, hl⟩
  obtain ⟨ad, h1, h2, h3⟩ := h.rd.at_ hn
  subst h1
  exact ⟨ad, rfl, hB _ rfl, h3⟩
end Go.Adm
namespace Go.Proofs.YtipepcjiogifaaaDoor
open Go Go.RowKit Go.Adm Go.Shelf
attribute [local go_sem] Oper.semAt_some

end Go.Proofs.YtipepcjiogifaaaDoor

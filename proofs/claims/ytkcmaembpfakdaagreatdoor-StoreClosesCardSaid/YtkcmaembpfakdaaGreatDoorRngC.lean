/- A range over a function whose iterator keeps state of its own in one cell: a law of my own over the kit's steps. -/
import Derived.Test.YtkcmaembpfakdaaGreatDoorGen2
set_option linter.unusedSimpArgs false
set_option linter.unusedVariables false
set_option maxRecDepth 100000
namespace Go.Adm
open Go Go.RowKit
/-- which blocks may turn: the iterator's cell, and what is no cells and lies at or beyond B -/
def TurnC (Bs B : Nat) (p : Obj → Bool) (A : World) (row : Option Nat) : Prop := ∀ r, row = some r → r = Bs ∨ (B ≤ r ∧ ∃ o : Obj, A.heap[r]? = some o ∧ p o = true)
def HoldC {β : Type} (Bs B : Nat) (p : Obj → Bool) (I : β → World → Prop) : Prop := ∀ s A A' row, I s A → A.grownBy A' row → TurnC Bs B p A row → I s A'
/-- the iterator's contract: it hands the items over one by one; between two rounds its own cell may turn -/
def SeqC {α : Type} (F : Fence) (n : Nat) (P : Program) (g : Nat) (lb : Array Value) (encs : α → Array Value) (Bs : Nat) (Kp : World → World → Prop) (S Sp : List α → Prop) (w : World) : Prop :=
  ∀ (l : Nat) (J Jx : List α → World → Prop) (W : World), Below w.heap.size w W → HoldC Bs W.heap.size Obj.isWalk J → HoldC Bs W.heap.size Obj.isWalk Jx →
    (∀ pre x W1, J pre W1 → Sp (pre ++ [x]) → YieldAt F (n - 1) P l (encs x) W1 fun e W' =>
      (e = .returned (.bool true) ∧ J (pre ++ [x]) W' ∧ Kp W1 W') ∨ (e = .returned (.bool false) ∧ Jx (pre ++ [x]) W')) →
    J [] W →
    CallsIn F n P g (#[.func (.yield l) #[] #[]] ++ lb) W fun e W' => (∃ v, e = .returned v) ∧ ((∃ xs, S xs ∧ J xs W') ∨ (∃ pre, Sp pre ∧ Jx pre W'))
theorem holdC_put {β : Type} {Bs B l : Nat} {I : β → World → Prop} (h : HoldC Bs B (fun o => !o.isCells) I) {s : β} {W : World} {o : Obj} (o' : Obj) (hs : I s W) (hB : B ≤ l) (hl : W.heap[l]? = some o) (ho : o.isCells = false) : I s (W.putObj l o') :=
  h s W _ (some l) hs (grownBy_putObj' W l o') (fun r e => Or.inr (by injection e with e; subst e; exact ⟨hB, o, hl, by show (!o.isCells) = true; rw [ho]; rfl⟩))
theorem holdC_new {β : Type} {Bs B : Nat} {p : Obj → Bool} {I : β → World → Prop} (h : HoldC Bs B p I) {s : β} {W : World} (o : Obj) (hs : I s W) : I s (W.alloc o) :=
  h s W _ none hs (grown_alloc W o) (fun r e => by cases e)
/-- a block that is neither the iterator's cell nor a walk lies as it lay -/
theorem turnC_same {Bs B k : Nat} {A A' : World} {row : Option Nat} {o : Obj} (hg : A.grownBy A' row) (hr : TurnC Bs B Obj.isWalk A row) (hk : k ≠ Bs) (h : A.heap[k]? = some o) (ho : o.isWalk = false) : A'.heap[k]? = some o := by
  have hlt : k < A.heap.size := (Array.getElem?_eq_some_iff.1 h).1
  rw [hg.block k hlt (fun e => ?_)]
  · exact h
  · rcases hr k e.symm with h1 | ⟨_, o2, h2, h3⟩
    · exact hk h1
    · rw [h] at h2
      injection h2 with h2
      rw [← h2, ho] at h3
      cases h3
section
variable {F : Fence} {n : Nat} {P : Program} {α : Type} {Bs B : Nat} {Kp : World → World → Prop} {I : List α → World → Prop} {Ix : Code → List α → World → Prop}
/-- the loop's two blocks, and the invariant -/
def MidC (I : List α → World → Prop) (D l : Nat) (r : Loop) (pre : List α) (W : World) : Prop := I pre W ∧ W.heap[l]? = some (.loop r) ∧ W.heap[D]? = some (.deferred (some []))
theorem midC_hold {D l B2 : Nat} {r : Loop} (hI : HoldC Bs B (fun o => !o.isCells) I) (hD : D ≠ Bs) (hl : l ≠ Bs) (hB : B ≤ B2) : HoldC Bs B2 Obj.isWalk (MidC I D l r) := fun s A A' row hs hg hr =>
  ⟨hI s A A' row hs.1 hg (fun q e => (hr q e).imp id fun ⟨h1, o, h2, h3⟩ => ⟨Nat.le_trans hB h1, o, h2, by show (!o.isCells) = true; rw [Obj.not_cells_of_walk h3]; rfl⟩), turnC_same hg hr hl hs.2.1 rfl, turnC_same hg hr hD hs.2.2 rfl⟩
/-- one round: the loop's record is busy while the body runs; at its end it is ready again, or done with a jump -/
theorem round_end {D l : Nat} {r : Loop} {W3 : World} (jump : Option Code) (hD : D ≠ l) (hl : W3.heap[l]? = some (.loop { r with state := .busy })) (hk : W3.heap[D]? = some (.deferred (some []))) :
    (Instr.endRound l jump).run P W3 = .ok (.bool jump.isNone) (W3.putObj l (.loop { r with state := if jump.isNone then .ready else .done, pending := jump })) ∧
      (W3.putObj l (.loop { r with state := if jump.isNone then .ready else .done, pending := jump })).heap[l]? = some (.loop { r with state := if jump.isNone then .ready else .done, pending := jump }) ∧
      (W3.putObj l (.loop { r with state := if jump.isNone then .ready else .done, pending := jump })).heap[D]? = some (.deferred (some [])) :=
  ⟨run_endRound (r := { r with state := .busy }) jump hl, World.putObj_heap_same (Array.getElem?_eq_some_iff.1 hl).1, (World.putObj_heap_other hD).trans hk⟩
end
set_option maxHeartbeats 1000000 in
theorem range_cells {F : Fence} {n : Nat} {P : Program} {α : Type} {g : Operand} {ps : Array Tmp} {assign body : Code} {Q : Exit → Act → World → Prop} {a : Act} {w : World} (hro : F.round = none) (h1 : 1 ≤ n) {gf : Nat} {lb : Array Value}
    (hg : a.eval g = .func (.func gf) #[] lb) (hFg : F.fn gf) (eg : ∀ args w, (callFunc gf args).run P w = .ok (.enter gf args) w) {encs : α → Array Value} {Bs : Nat} {Kp : World → World → Prop} {S Sp : List α → Prop} (hBs : Bs < w.heap.size)
    (hseq : SeqC F (n - 1) P gf lb encs Bs Kp S Sp w) (hKt : ∀ {A B C : World}, Kp A B → Kp B C → Kp A C) (hKb : ∀ (W : World) (l : Nat) (o o' : Obj), w.heap.size ≤ l → W.heap[l]? = some o → o.isCells = false → Kp W (W.putObj l o')) (hps : ∀ x, (encs x).size = ps.size)
    (I : List α → World → Prop) (Ix : Code → List α → World → Prop) (hI : HoldC Bs w.heap.size (fun o => !o.isCells) I) (hIx : ∀ c, HoldC Bs w.heap.size (fun o => !o.isCells) (Ix c)) (h0 : I [] w) (a₁ : α → Act)
    (hassign : ∀ (l : Nat) (x : α) (W : World) (K : Act → World → Prop), K (a₁ x) W → assign.wpIn (F.inRound l) (n - 1 - 1) P (Exit.then K (fun _ _ _ => False)) { tmps := (ps.zip (encs x)).foldl (fun t (p, v) => t.setIfInBounds p v) a.tmps, defers := [] } W)
    (hbody : ∀ (l : Nat) (pre : List α) (x : α) (W : World), w.heap.size ≤ l → I pre W → Sp (pre ++ [x]) → body.wpIn (F.inRound l) (n - 1 - 1) P (ownPostG w.heap.size Kp I Ix (pre ++ [x]) W) (a₁ x) W)
    (hdone : ∀ (D : Nat) (xs : List α) (W : World), w.heap.size ≤ D → S xs → I xs W → W.heap[D]? = some (.deferred (some [])) → Q .normal { a with defers := { target := .collected D, args := #[] } :: a.defers } W)
    (hstop : ∀ (D : Nat) (c : Code) (pre : List α) (W : World), w.heap.size ≤ D → Sp pre → Ix c pre W → W.heap[D]? = some (.deferred (some [])) → c.wpIn F n P Q { a with defers := { target := .collected D, args := #[] } :: a.defers } W) :
    (Code.rangeFunc g ps assign body).wpIn F n P Q a w := by
  refine wpIn_rangeFunc fun fn hfn => ?_
  rw [hro]
  obtain ⟨D, hD⟩ : ∃ D, D = w.heap.size := ⟨_, rfl⟩
  obtain ⟨l, hl⟩ : ∃ l, l = w.heap.size + 1 := ⟨_, rfl⟩
  obtain ⟨r, hr⟩ : ∃ r : Loop, r = { state := .ready, pending := none, fn := fn, tmps := a.tmps, params := ps, assign := assign, body := body, defers := w.heap.size } := ⟨_, rfl⟩
  obtain ⟨V, hV⟩ : ∃ V, V = (w.alloc (.deferred (some []))).alloc (.loop r) := ⟨_, rfl⟩
  have hVl : V.heap[l]? = some (.loop r) := by
    have h2 := heap_alloc_new (w.alloc (.deferred (some []))) (.loop r)
    rw [hV, hl]
    rwa [World.size_alloc] at h2
  have hVD : V.heap[D]? = some (.deferred (some [])) := by
    rw [hV, hD]
    exact (Below.heap_alloc _ _ _ (by simp)).trans (heap_alloc_new w _)
  have hVI : I [] V := by rw [hV]; exact holdC_new hI _ (holdC_new hI _ h0)
  have hVw : Below w.heap.size w V := by rw [hV]; exact ((Below.refl _ w).alloc (Nat.le_refl _) _).alloc (by simp) _
  have hDl : D ≠ l := by omega
  have hnD : D ≠ Bs := by omega
  have hnl : l ≠ Bs := by omega
  have hrs : r.state = .ready := by rw [hr]
  have hrp : r.pending = none := by rw [hr]
  refine ⟨l, [{ target := .collected D, args := #[] }], V, { target := .fn (.func gf) lb, args := #[.func (.yield l) #[] #[]] }, V, gf, #[.func (.yield l) #[] #[]] ++ lb, V, ?_, ?_, ?_, ?_, fun _ => h1, ?_⟩
  · rw [hV, hD, hl, hr]; exact run_enterLoop_outer _ _ _ _ _
  · simp only [resolve, hg]
    simp [go_sem]
  · intro f' hf'
    simp [Target.leads] at hf'
    subst hf'
    exact hFg
  · simp [invoke, go_sem, eg]
  refine (hseq l (MidC I D l r) (fun pre W => ∃ c, MidC (Ix c) D l { r with state := .done, pending := some c } pre W) V hVw (midC_hold hI hnD hnl hVw.size)
    (fun s A A' row ⟨c, hs⟩ hg' hr' => ⟨c, midC_hold (hIx c) hnD hnl hVw.size s A A' row hs hg' hr'⟩) ?_ ⟨hVI, hVl, hVD⟩).mono ?_
  · rintro pre x W ⟨hi, hWl, hWD⟩ hsp
    have hy := run_yield (P := P) (args := encs x) hWl (by rw [hr]; exact hps x)
    have hy' : (Instr.yield l (encs x)).run P W = .ok (.round l fn ((ps.zip (encs x)).foldl (fun t (p, v) => t.setIfInBounds p v) a.tmps) assign body) W := by
      rw [hr] at hy; exact hy
    refine ⟨fn, _, assign, body, hy', ?_⟩
    refine roundIn_of_wpIn hfn (hassign l x W _ ?_)
    refine ⟨_, run_beginRound hWl hrs, ?_⟩
    have hlt : l < W.heap.size := (Array.getElem?_eq_some_iff.1 hWl).1
    obtain ⟨U, hU⟩ : ∃ U, U = W.putObj l (.loop { r with state := .busy }) := ⟨_, rfl⟩
    have hUl : U.heap[l]? = some (.loop { r with state := .busy }) := by rw [hU]; exact World.putObj_heap_same hlt
    have hUD : U.heap[D]? = some (.deferred (some [])) := by rw [hU]; exact (World.putObj_heap_other hDl).trans hWD
    have hKU : Kp W U := by rw [hU]; exact hKb _ _ _ _ (by omega) hWl rfl
    have hUI : I pre U := by rw [hU]; exact holdC_put hI _ hi (by omega) hWl rfl
    rw [← hU]
    refine wpIn_mono (hbody l pre x U (by omega) hUI hsp) ?_
    have leave : ∀ (c : Code) (a3 : Act) (W3 : World), KeepsFrom w.heap.size U W3 → Ix c (pre ++ [x]) W3 → ∃ v w', (Instr.endRound l (some c)).run P W3 = .ok v w' ∧
        ((v = .bool true ∧ MidC I D l r (pre ++ [x]) w' ∧ Kp W w') ∨ (v = .bool false ∧ ∃ c, MidC (Ix c) D l { r with state := .done, pending := some c } (pre ++ [x]) w')) := fun c a3 W3 hk hi3 => by
      have h3l := hk.same _ _ (by omega) hUl rfl
      have h3D := hk.same _ _ (by omega) hUD rfl
      obtain ⟨e1, e2, e3⟩ := round_end (P := P) (r := r) (some c) hDl h3l h3D
      exact ⟨_, _, e1, Or.inr ⟨rfl, c, holdC_put (hIx c) _ hi3 (by omega) h3l rfl, e2, e3⟩⟩
    rintro e a3 W3 hp
    cases e with
    | normal =>
      obtain ⟨hk, hk2, hi3⟩ := hp
      have h3l := hk.same _ _ (by omega) hUl rfl
      have h3D := hk.same _ _ (by omega) hUD rfl
      obtain ⟨e1, e2, e3⟩ := round_end (P := P) (r := r) none hDl h3l h3D
      have er : ({ r with state := .ready, pending := none } : Loop) = r := by rw [hr]
      have e2' : (W3.putObj l (.loop { r with state := .ready, pending := none })).heap[l]? = some (.loop r) := by rw [← er]; exact e2
      exact ⟨_, _, e1, Or.inl ⟨rfl, ⟨holdC_put hI _ hi3 (by omega) h3l rfl, e2', e3⟩, hKt hKU (hKt hk2 (hKb _ _ _ _ (by omega) h3l rfl))⟩⟩
    | ret =>
      obtain ⟨v, w', h2, h3⟩ := leave .ret a3 W3 hp.1 hp.2
      exact ⟨v, w', h2, h3.imp (fun h => ⟨by rw [h.1], h.2⟩) fun h => ⟨by rw [h.1], h.2⟩⟩
    | exit id =>
      obtain ⟨v, w', h2, h3⟩ := leave (.exit id) a3 W3 hp.1 hp.2
      exact ⟨v, w', h2, h3.imp (fun h => ⟨by rw [h.1], h.2⟩) fun h => ⟨by rw [h.1], h.2⟩⟩
    | goto t =>
      obtain ⟨v, w', h2, h3⟩ := leave (.goto t) a3 W3 hp.1 hp.2
      exact ⟨v, w', h2, h3.imp (fun h => ⟨by rw [h.1], h.2⟩) fun h => ⟨by rw [h.1], h.2⟩⟩
    | panic ch => exact hp.elim
    | outgrown => exact hp.elim
  · rintro e W2 ⟨⟨v, rfl⟩, (⟨xs, hS, hi, hWl, hWD⟩ | ⟨pre, hSp, c, hi, hWl, hWD⟩)⟩
    · have he := run_endLoop (P := P) hWl (by rw [hrs]; simp)
      rw [hrp] at he
      exact ⟨none, _, he, hdone D xs _ (by omega) hS (holdC_put hI _ hi (by omega) hWl rfl) ((World.putObj_heap_other hDl).trans hWD)⟩
    · have he := run_endLoop (P := P) hWl (by simp)
      exact ⟨some c, _, he, hstop D c pre _ (by omega) hSp (holdC_put (hIx c) _ hi (by omega) hWl rfl) ((World.putObj_heap_other hDl).trans hWD)⟩
end Go.Adm

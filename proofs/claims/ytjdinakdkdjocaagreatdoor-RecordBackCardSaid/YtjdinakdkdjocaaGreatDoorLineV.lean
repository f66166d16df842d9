/- What an operation of a drawn region leaves: a row of words, a document of one line, an encoded form. -/
import Derived.Test.YtjdinakdkdjocaaGreatDoorGen2
import Derived.Test.YtjdinakdkdjocaaGreatDoorDocA
set_option linter.unusedSimpArgs false
set_option linter.unusedVariables false
set_option maxRecDepth 100000
namespace Go.Adm
open Go Go.RowKit
theorem Strs.grown {w w' : World} {A : Option Addr} {n : Nat} {ss : List ByteArray} (hg : w.grownBy w' none) (h : Strs w w.heap.size A n ss) : Strs w' w'.heap.size A n ss :=
  (h.keep fun p hp => World.cell?_of_block (w := w) (hg.block _ hp (by simp))).mono hg.size
/-- a row of words that was made by a literal -/
def RowV (n : Nat) (ss : List ByteArray) (W : World) (v : Value) : Prop := ∃ ad, v = .slice (some ad) n n ∧ ss.length = n ∧ Strs W W.heap.size (some ad) n ss
theorem RowV.grown {n : Nat} {ss : List ByteArray} {w w' : World} {v : Value} (hg : w.grownBy w' none) (h : RowV n ss w v) : RowV n ss w' v := by
  obtain ⟨ad, h1, h2, h3⟩ := h
  exact ⟨ad, h1, h2, h3.grown hg⟩
theorem RowV.lit (w : World) (t : TypeId) (ss : List ByteArray) (n : Nat) (hn : ss.length = n) (hs : ∀ s ∈ ss, s.size ≤ 140737488355328) : RowV n ss (w.alloc (.cells (ss.map sv).toArray t)) (.slice (some ⟨w.heap.size, 0, none⟩) n n) :=
  ⟨⟨w.heap.size, 0, none⟩, rfl, hn, (Rd.lit w (ss.map sv).toArray t n (by simp [hn])).mono (by simp), hs⟩
def VF.row (n : Nat) (ss : List ByteArray) : VF := .gen (RowV n ss) fun _ _ _ hg h => h.grown hg
/-- a document of one line -/
def OneV (ls : List (List ByteArray)) (W : World) (v : Value) : Prop := ∃ A c, v = .slice A 1 c ∧ Lines W W.heap.size A 1 ls
theorem OneV.grown {ls : List (List ByteArray)} {w w' : World} {v : Value} (hg : w.grownBy w' none) (h : OneV ls w v) : OneV ls w' v := by
  obtain ⟨A, c, h1, h2⟩ := h
  exact ⟨A, c, h1, (h2.keep fun p hp => World.cell?_of_block (w := w) (hg.block _ hp (by simp))).mono hg.size⟩
def VF.one (ls : List (List ByteArray)) : VF := .gen (OneV ls) fun _ _ _ hg h => h.grown hg
theorem OneV.lit (w : World) (t : TypeId) (ss : List ByteArray) (n : Nat) (v : Value) (hn : n ≤ 1000) (h : RowV n ss w v) : OneV [ss] (w.alloc (.cells #[v] t)) (.slice (some ⟨w.heap.size, 0, none⟩) 1 1) := by
  obtain ⟨ad, rfl, h2, h3⟩ := h
  have h4 := h3.grown (grown_alloc w (.cells #[.slice (some ad) n n] t))
  refine ⟨_, _, rfl, ⟨rfl, by decide, [.slice (some ad) n n], (Rd.lit w #[.slice (some ad) n n] t 1 rfl).mono (by simp), fun k hk => ?_⟩⟩
  obtain rfl : k = 0 := by simp at hk; omega
  exact ⟨some ad, n, by simp [h2], by simp [h2], Nat.le_trans (show n ≤ 1000 from hn) (by decide), by simpa [h2] using h4⟩
/-- an encoded form and its error -/
def EncV (u8 : TypeId) (base : Nat) (ls : List (List ByteArray)) (W : World) (v e : Value) : Prop := ∃ A n c, v = .slice A n c ∧ e = .int .i64 (docE ls) ∧ (docE ls = 0 → Own W base u8 1 A n c ((encD ls).map bv)) ∧ (docE ls ≠ 0 → A = none ∧ n = 0 ∧ c = 0)
theorem EncV.grown {u8 : TypeId} {base : Nat} {ls : List (List ByteArray)} {w w' : World} {v e : Value} (hg : w.grownBy w' none) (h : EncV u8 base ls w v e) : EncV u8 base ls w' v e := by
  obtain ⟨A, n, c, h1, h2, h3, h4⟩ := h
  exact ⟨A, n, c, h1, h2, fun h => Own.step hg (h3 h) (by simp), h4⟩
def VF.encT (u8 : TypeId) (base : Nat) (ls : List (List ByteArray)) : VF := .gen (fun W v => ∃ x e, v = .tuple #[x, e] ∧ EncV u8 base ls W x e) fun _ _ _ hg ⟨x, e, h1, h2⟩ => ⟨x, e, h1, h2.grown hg⟩
def VF.enc0 (u8 : TypeId) (base : Nat) (ls : List (List ByteArray)) : VF := .gen (fun W v => EncV u8 base ls W v (.int .i64 (docE ls))) fun _ _ _ hg h => h.grown hg
theorem EncV.post {u8 : TypeId} {base : Nat} {ls : List (List ByteArray)} {w w' : World} {e : Ending} (h : EncPost u8 ls w e w') (hb : base ≤ w.heap.size) : ∃ x y, e = .returned (.tuple #[x, y]) ∧ Below w.heap.size w w' ∧ EncV u8 base ls w' x y := by
  obtain ⟨A, n, c, h1, h2, h3, h4⟩ := h
  exact ⟨_, _, h1, h2, A, n, c, rfl, rfl, fun h => (h3 h).less hb, h4⟩
end Go.Adm

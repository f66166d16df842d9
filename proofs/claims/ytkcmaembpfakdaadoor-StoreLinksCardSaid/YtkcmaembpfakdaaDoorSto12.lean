/- Put of the reference. -/
import Derived.Test.YtkcmaembpfakdaaDoorSto11
set_option linter.unusedSimpArgs false
set_option linter.unusedVariables false
set_option maxRecDepth 100000
namespace Go.Adm
open Go Go.RowKit
theorem mem_ins0 {α : Type} {xs : List α} {k : Nat} {d y : α} : y ∈ xs.take k ++ d :: xs.drop k ↔ y = d ∨ y ∈ xs := by
  rw [List.mem_append, List.mem_cons]
  have h : y ∈ xs ↔ y ∈ xs.take k ∨ y ∈ xs.drop k := by rw [← List.mem_append, List.take_append_drop]
  rw [h]
  constructor
  · rintro (h1 | h1 | h1)
    · exact Or.inr (Or.inl h1)
    · exact Or.inl h1
    · exact Or.inr (Or.inr h1)
  · rintro (h1 | h1 | h1)
    · exact Or.inr (Or.inl h1)
    · exact Or.inl h1
    · exact Or.inr (Or.inr h1)
/-- Put of the reference: what it answers, and where it lies -/
def RefPost (A Ad : Option Addr) (l : List Bl) (d b : List UInt8) (w : World) (e : Ending) (w' : World) : Prop :=
  ∃ A' n' c' l', e = .returned (.tuple #[.slice A' n' c', .agg ((put3 l d b).2.1.map bv).toArray, .int .i64 (put3 l d b).2.2]) ∧ Blobs w' w'.heap.size A' n' l' ∧ n' ≤ c' ∧ c' ≤ maxLen ∧ l'.map pr = (put3 l d b).1 ∧ Below w.heap.size w w' ∧
    (A' = A ∨ ∀ ad, A' = some ad → w.heap.size ≤ ad.block) ∧ ∀ x ∈ l', x ∈ l ∨ x.A = Ad
theorem RefPost.put {A Ad : Option Addr} {l : List Bl} {d b : List UInt8} {w w' : World} {e : Ending} (h : RefPost A Ad l d b w e w') : PutPost l d b w e w' := by
  obtain ⟨A', n', c', l', h1, h2, h3, h4, h5, h6, _⟩ := h
  exact ⟨A', n', c', l', h1, h2, h3, h4, h5, h6⟩
theorem own_from {w : World} {base n c size : Nat} {t : TypeId} {A : Option Addr} {xs : List Value} (h : Own w base t size A n c xs) : ∀ ad, A = some ad → base ≤ ad.block := fun ad e => by
  subst e
  exact (h.lt rfl).1
theorem blobs_ins {w : World} {B base n c i : Nat} {t : TypeId} {A A' : Option Addr} {l : List Bl} {x : Bl} (hB : B ≤ w.heap.size) (hl : Blobs w B A n l) (hx : BlOk w B x) (hi : i ≤ n) (ho : Own w base t 33 A' (n + 1) c ((l.take i ++ x :: l.drop i).map blC).flatten) :
    Blobs w w.heap.size A' (n + 1) (l.take i ++ x :: l.drop i) := by
  have hm : ∀ y ∈ l.take i ++ x :: l.drop i, BlOk w w.heap.size y := fun y hy => by
    rcases List.mem_append.1 hy with h | h
    · exact (hl.each y (List.mem_of_mem_take h)).mono hB
    · rcases List.mem_cons.1 h with h | h
      · rw [h]; exact hx.mono hB
      · exact (hl.each y (List.mem_of_mem_drop h)).mono hB
  refine ⟨Els.of ho (fun e he => ?_) (by rw [List.length_map]; exact ins_len hl.len hi), hm, ins_len hl.len hi⟩
  obtain ⟨y, hy, rfl⟩ := List.mem_map.1 he
  exact blC_len (hm y hy).d32
end Go.Adm
namespace Go.Proofs.YtkcmaembpfakdaaDoor
open Go Go.RowKit Go.Adm

end Go.Proofs.YtkcmaembpfakdaaDoor

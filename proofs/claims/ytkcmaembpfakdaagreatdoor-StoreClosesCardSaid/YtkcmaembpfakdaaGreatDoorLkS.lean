/- The digests that are words of a document: plain Lean. -/
import Derived.Test.YtkcmaembpfakdaaGreatDoorDec1
import Derived.Test.YtkcmaembpfakdaaGreatDoorParD
import Derived.Test.YtkcmaembpfakdaaGreatDoorSto4
set_option linter.unusedSimpArgs false
set_option linter.unusedVariables false
namespace Go.Adm
open Go Go.RowKit
def addK (out : List (List UInt8)) (w : ByteArray) : List (List UInt8) :=
  match AdP.parseD w.data.toList with
  | none => out
  | some d => if d = z32 ∨ d ∈ out then out else out ++ [d]
def linksW (ws : List ByteArray) : List (List UInt8) := ws.foldl addK []
def linksB (b : List UInt8) : List (List UInt8) := linksW (decR b).1.flatten
theorem linksW_snoc (ws : List ByteArray) (w : ByteArray) : linksW (ws ++ [w]) = addK (linksW ws) w := by simp [linksW]
theorem addK_none {out : List (List UInt8)} {w : ByteArray} (h : AdP.parseD w.data.toList = none) : addK out w = out := by unfold addK; rw [h]
theorem addK_had {out : List (List UInt8)} {w : ByteArray} {d : List UInt8} (h : AdP.parseD w.data.toList = some d) (hd : d = z32 ∨ d ∈ out) : addK out w = out := by unfold addK; rw [h]; exact if_pos hd
theorem addK_new {out : List (List UInt8)} {w : ByteArray} {d : List UInt8} (h : AdP.parseD w.data.toList = some d) (hd : ¬ (d = z32 ∨ d ∈ out)) : addK out w = out ++ [d] := by unfold addK; rw [h]; exact if_neg hd
theorem addK_len (out : List (List UInt8)) (w : ByteArray) : (addK out w).length ≤ out.length + 1 := by
  unfold addK
  split
  · omega
  · split
    · omega
    · simp
theorem linksW_len : ∀ ws : List ByteArray, (linksW ws).length ≤ ws.length := fun ws => by
  have h : ∀ (ws : List ByteArray) (out : List (List UInt8)), (ws.foldl addK out).length ≤ out.length + ws.length := fun ws => by
    induction ws with
    | nil => intro out; simp
    | cons w ws ih =>
      intro out
      have h1 := ih (addK out w)
      have h2 := addK_len out w
      simp only [List.foldl_cons, List.length_cons]
      omega
  have := h ws []
  simpa [linksW] using this
theorem linksW_each : ∀ ws : List ByteArray, ∀ d ∈ linksW ws, d.length = 32 ∧ d ≠ z32 := fun ws => by
  have h : ∀ (ws : List ByteArray) (out : List (List UInt8)), (∀ d ∈ out, d.length = 32 ∧ d ≠ z32) → ∀ d ∈ ws.foldl addK out, d.length = 32 ∧ d ≠ z32 := fun ws => by
    induction ws with
    | nil => intro out ho; exact ho
    | cons w ws ih =>
      intro out ho
      refine ih (addK out w) (fun d hd => ?_)
      unfold addK at hd
      split at hd
      · exact ho d hd
      · rename_i x hx
        split at hd
        · exact ho d hd
        · rename_i hn
          rcases List.mem_append.1 hd with h1 | h1
          · exact ho d h1
          · rw [List.mem_singleton.1 h1]
            exact ⟨AdP.parseD_32 hx, fun e => hn (.inl e)⟩
  exact h ws [] (fun d hd => by cases hd)
theorem flat_succ {ls : List (List ByteArray)} {k : Nat} (hk : k < ls.length) : (ls.take (k + 1)).flatten = (ls.take k).flatten ++ ls[k] := by
  rw [List.take_succ_eq_append_getElem hk, List.flatten_append, List.flatten_singleton]
theorem decR_err {b : List UInt8} (h : (decR b).2 ≠ 0) : (decR b).1 = [] := by
  unfold decR at h ⊢
  split
  · rfl
  · split
    · rfl
    · split
      · rfl
      · rename_i h1 _ _ h2 h3
        rw [if_neg h1, h2] at h
        simp [h3] at h
theorem linksB_err {b : List UInt8} (h : (decR b).2 ≠ 0) : linksB b = [] := by unfold linksB; rw [decR_err h]; rfl
theorem decR_words (b : List UInt8) : (decR b).1.length ≤ 1000 ∧ ∀ l ∈ (decR b).1, l.length ≤ 120 := by
  unfold decR
  split
  · exact ⟨by simp, fun l h => by cases h⟩
  · split
    · exact ⟨by simp, fun l h => by cases h⟩
    · split
      · exact ⟨by simp, fun l h => by cases h⟩
      · rename_i ls hls hm
        obtain ⟨-, h0⟩ := decO_enc hls
        exact ⟨by show ls.length ≤ 1000; omega, fun l hl => (lineE_zero ((linesE_zero.1 h0) l hl)).2.1⟩
theorem flat_le : ∀ {ls : List (List ByteArray)} {m : Nat}, (∀ l ∈ ls, l.length ≤ m) → ls.flatten.length ≤ m * ls.length
  | [], m, _ => by simp
  | l :: ls, m, h => by
    have h1 := flat_le (ls := ls) (m := m) (fun l hl => h l (List.mem_cons_of_mem _ hl))
    have h2 := h l List.mem_cons_self
    rw [List.flatten_cons, List.length_append, List.length_cons, Nat.mul_succ]
    omega
theorem linksB_len (b : List UInt8) : (linksB b).length ≤ 120000 := by
  obtain ⟨h1, h2⟩ := decR_words b
  have h3 := flat_le h2
  have h4 := linksW_len (decR b).1.flatten
  unfold linksB
  have : 120 * (decR b).1.length ≤ 120 * 1000 := Nat.mul_le_mul_left _ h1
  omega
end Go.Adm

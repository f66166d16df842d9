/- The laws' sanity check: awake. -/
import Derived.Test.YtegedapiefdljaaDoorDoc2
import Derived.Test.YtegedapiefdljaaDoorDoc4
set_option linter.unusedSimpArgs false
set_option linter.unusedVariables false
namespace Go.Proofs.YtegedapiefdljaaDoor
open Go Go.RowKit Go.Adm

def awL : List (List ByteArray) := [[⟨#[120]⟩, ⟨#[]⟩]]
theorem awL_docE : docE awL = 0 := by decide +kernel
theorem awL_encD : encD awL = [120, 32, 126, 10] := by decide +kernel
theorem aw_name : nameB ⟨#[97, 45, 49]⟩ = true := nameB_yes ⟨by decide, by decide, by decide⟩

theorem awL_lines (w : World) (t u : TypeId) (c : Nat) (hc : 2 ≤ c ∧ c ≤ 140737488355328) :
    Lines ((w.alloc (.cells #[.string ⟨#[120]⟩, .string ⟨#[]⟩] t)).alloc (.cells #[.slice (some ⟨w.heap.size, 0, none⟩) 2 c] u)) (w.heap.size + 2) (some ⟨w.heap.size + 1, 0, none⟩) 1 awL := by
  refine ⟨rfl, by decide, [.slice (some ⟨w.heap.size, 0, none⟩) 2 c], ?_, fun k hk => ?_⟩
  · have h := Rd.lit (size := 1) (w.alloc (.cells #[.string ⟨#[120]⟩, .string ⟨#[]⟩] t)) #[.slice (some ⟨w.heap.size, 0, none⟩) 2 c] u 1 rfl
    simp at h
    exact h
  · obtain rfl : k = 0 := by simp [awL] at hk; omega
    refine ⟨some ⟨w.heap.size, 0, none⟩, c, rfl, hc.1, Nat.le_trans hc.2 (by decide), ?_, ?_⟩
    · have h := Rd.lit (size := 1) w #[.string ⟨#[120]⟩, .string ⟨#[]⟩] t 2 rfl
      exact (h.alloc (by simp) _).mono (by omega)
    · intro s hs
      simp [awL] at hs
      rcases hs with rfl | rfl <;> simp [ByteArray.size]

set_option maxHeartbeats 800000 in
theorem awake_any (w : World) : Calls Tryd.prog 9 #[] w fun e w' => e = .returned (.bool true) ∧ Below w.heap.size w w' := by
  go_enter Tryd.func9, Tryd.ntmps9
  go_wp2_with fail
  refine (Encode_any _ (w.heap.size + 2) _ _ _ awL (awL_lines w _ _ _ (by decide)) (by simp)).mono ?_
  rintro e w1 ⟨A, n, c, rfl, hb, ho, _⟩
  have hown := ho awL_docE
  rw [awL_docE]
  clear ho
  have hb' : Below w.heap.size w w1 := ((((Below.refl _ _).alloc (Nat.le_refl _) _).alloc (by simp) _).trans (hb.mono (by simp; omega)))
  have hconv := run_conv (P := Tryd.prog) w1 23 9 5 el_u8.ht Tryd.underlying5 Tryd.underlying9 (c := c) hown.rd
  rw [awL_encD] at hconv
  clear hb hown
  go_wp2_with fail
  refine (Name_any _ _ (by decide)).mono ?_
  rintro e w2 ⟨rfl, rfl⟩
  rw [aw_name]
  go_wp2
  go_ret
  exact ⟨rfl, hb'⟩
end Go.Proofs.YtegedapiefdljaaDoor

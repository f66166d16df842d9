/- Valid and Shaped. -/
import Derived.Test.YtlnbeglelhdjfaaKey13
set_option linter.unusedSimpArgs false
set_option linter.unusedVariables false
namespace Go.Proofs.Ytlnbeglelhdjfaa
open Go Go.RowKit Go.Adm

theorem Valid_any (w : World) (h : Int) (r : List UInt8) : Calls Try.prog 21 #[.agg (pkCells h r).toArray] w fun e w' => e = .returned (.bool (hOk h)) ∧ w' = w.alloc (.cells (pkCells h r).toArray 40) := by
  have cc : (w.alloc (.cells (pkCells h r).toArray 40)).cell? ⟨w.heap.size, 0, none⟩ = some (.int .i64 h) := Cells.cell (Cells.new' w 40 (pkCells h r).toArray rfl rfl) (i := 0) (by simp [pkCells])
  go_enter Try.func21, Try.ntmps21
  go_wp2_with fail
  refine (height_any _ h).mono ?_
  rintro e w' ⟨rfl, rfl⟩
  go_wp2
  go_ret
  exact ⟨rfl, rfl⟩
theorem refValid_any (w : World) (h : Int) (r : List UInt8) : Calls Try.prog 22 #[.agg (pkCells h r).toArray] w fun e w' => e = .returned (.bool (hOk h)) ∧ w' = w.alloc (.cells (pkCells h r).toArray 40) := by
  have cc : (w.alloc (.cells (pkCells h r).toArray 40)).cell? ⟨w.heap.size, 0, none⟩ = some (.int .i64 h) := Cells.cell (Cells.new' w 40 (pkCells h r).toArray rfl rfl) (i := 0) (by simp [pkCells])
  by_cases h1 : 0 ≤ h
  · by_cases h2 : h ≤ 6
    · have d1 : decide (0 ≤ h) = true := by simpa using h1
      have d2 : decide (h ≤ 6) = true := by simpa using h2
      have hx : Hid (hOk h = true) := Lib.hid ((hOk_iff h).2 ⟨h1, h2⟩)
      go_enter Try.func22, Try.ntmps22
      go_wp2
      go_ret
      exact ⟨by rw [hx.out]; rfl, rfl⟩
    · have d1 : decide (0 ≤ h) = true := by simpa using h1
      have d2 : decide (h ≤ 6) = false := by simpa using h2
      have hx : Hid (hOk h = false) := Lib.hid (by cases hq : hOk h with | false => rfl | true => exact absurd ((hOk_iff h).1 hq).2 h2)
      go_enter Try.func22, Try.ntmps22
      go_wp2
      go_ret
      exact ⟨by rw [hx.out]; rfl, rfl⟩
  · have d1 : decide (0 ≤ h) = false := by simpa using h1
    have hx : Hid (hOk h = false) := Lib.hid (by cases hq : hOk h with | false => rfl | true => exact absurd ((hOk_iff h).1 hq).1 h1)
    go_enter Try.func22, Try.ntmps22
    go_wp2
    go_ret
    exact ⟨by rw [hx.out]; rfl, rfl⟩
end Go.Proofs.Ytlnbeglelhdjfaa

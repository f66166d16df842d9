/- Patterns: which parts repeat, what they take, both sides. -/
import Derived.Test.YtipepcjiogifaaaDoorPtN
set_option linter.unusedSimpArgs false
set_option linter.unusedVariables false
set_option maxRecDepth 100000
namespace Go.Adm
open Go Go.RowKit
def repB (x : Pt) : Bool := decide (2 ≤ x.1)
def fitB (x : Pt) (b : UInt8) : Bool := if x.1 = 3 then true else if x.1 = 0 then decide (b = x.2) else decide (b ≠ 47)
theorem kind_cases {n : Nat} (h : n ≤ 3) : n = 0 ∨ n = 1 ∨ n = 2 ∨ n = 3 := by omega
theorem u8_dec (a b : UInt8) : decide ((a.toNat : Int) = (b.toNat : Int)) = decide (a = b) := by
  by_cases h : a = b
  · subst h; simp
  · rw [decide_eq_false h, decide_eq_false]
    intro e
    exact h (UInt8.toNat_inj.1 (by omega))
theorem u8_47 (b : UInt8) : decide ((b.toNat : Int) = 47) = decide (b = 47) := u8_dec b 47
theorem u8_ne47 (b : UInt8) : ((b.toNat : Int) != 47) = !decide (b = 47) := by
  rw [← u8_47]
  by_cases h : (b.toNat : Int) = 47
  · simp [h]
  · rw [decide_eq_false h, bne, beq_eq_false_iff_ne.2 h]
def FnOk (P : Program) (g : Nat) : Prop := ∀ args w, (callFunc g args).run P w = .ok (.enter g args) w
/-- a function value that tells whether a byte fits -/
def FitOf (P : Program) (g : Nat) (lb : Array Value) (x : Pt) (w0 : World) : Prop :=
  ∀ W, Below w0.heap.size w0 W → ∀ b : UInt8, Calls P g (#[.int .u8 (b.toNat : Int)] ++ lb) W fun e v => e = .returned (.bool (fitB x b)) ∧ W = v
end Go.Adm
namespace Go.Proofs.YtipepcjiogifaaaDoor
open Go Go.RowKit Go.Adm
set_option maxHeartbeats 6400000 in
theorem repeats_any (x : Pt) (w : World) (hx : x.1 ≤ 3) :
    Calls Tryd.prog 48 #[.agg (partC x).toArray] w fun e w' => e = .returned (.bool (repB x)) ∧ Below w.heap.size w w' := by
  obtain ⟨k, c⟩ := x
  have hzr := zero_pp
  rcases kind_cases hx with h | h | h | h <;> (
    dsimp only at h; subst h
    clear hx
    show Calls _ _ #[.agg #[.int .i64 _, .int .u8 (c.toNat : Int)]] w _
    go_enter Tryd.func48, Tryd.ntmps48
    go_wp2_with fail
    go_ret
    exact ⟨rfl, (Below.refl _ w).alloc (Nat.le_refl _) _⟩)
set_option maxHeartbeats 6400000 in
theorem long_any (x : Pt) (w : World) (hx : x.1 ≤ 3) :
    Calls Tryd.prog 50 #[.agg (partC x).toArray] w fun e w' => e = .returned (.bool (repB x)) ∧ Below w.heap.size w w' := by
  obtain ⟨k, c⟩ := x
  have hzr := zero_pr
  rcases kind_cases hx with h | h | h | h <;> (
    dsimp only at h; subst h
    clear hx
    show Calls _ _ #[.agg #[.int .i64 _, .int .u8 (c.toNat : Int)]] w _
    go_enter Tryd.func50, Tryd.ntmps50
    go_wp2_with fail
    go_ret
    exact ⟨rfl, (Below.refl _ w).alloc (Nat.le_refl _) _⟩)
set_option maxHeartbeats 6400000 in
theorem takes_any (x : Pt) (b : UInt8) (w : World) (hx : x.1 ≤ 3) :
    Calls Tryd.prog 51 #[.agg (partC x).toArray, .int .u8 (b.toNat : Int)] w fun e w' => e = .returned (.bool (fitB x b)) ∧ Below w.heap.size w w' := by
  obtain ⟨k, c⟩ := x
  have hzr := zero_pr
  by_cases hq : c = b
  · have d1 : decide ((c.toNat : Int) = (b.toNat : Int)) = true := by simp [hq]
    have d1'' : ((c.toNat : Int) == (b.toNat : Int)) = true := by simp [hq]
    have d1' : decide (c.toNat = b.toNat) = true := by simp [hq]
    by_cases h47 : b = 47
    all_goals have d2 : decide ((b.toNat : Int) = 47) = decide (b = 47) := u8_47 b
    all_goals rcases kind_cases hx with h | h | h | h <;> (
      dsimp only at h; subst h
      clear hx
      have HF := Lib.hid (⟨hq, h47⟩ : _ ∧ _)
      simp only [h47, decide_true, decide_false] at d2
      clear hq h47
      show Calls _ _ #[.agg #[.int .i64 _, .int .u8 (c.toNat : Int)], _] w _
      go_enter Tryd.func51, Tryd.ntmps51
      go_wp2_with fail
      go_ret
      obtain ⟨hq, h47⟩ := HF.out
      refine ⟨?_, (Below.refl _ w).alloc (Nat.le_refl _) _⟩
      first | (simp [fitB, hq, h47]; done) | (simp [fitB, hq, h47]; exact of_decide_eq_false d2))
  · have d1 : decide ((c.toNat : Int) = (b.toNat : Int)) = false := by rw [u8_dec]; simpa using hq
    have d1'' : ((c.toNat : Int) == (b.toNat : Int)) = false := by rw [beq_eq_false_iff_ne]; exact fun e => hq (UInt8.toNat_inj.1 (by omega))
    have d1' : decide (c.toNat = b.toNat) = false := decide_eq_false (fun e => hq (UInt8.toNat_inj.1 e))
    by_cases h47 : b = 47
    all_goals have d2 : decide ((b.toNat : Int) = 47) = decide (b = 47) := u8_47 b
    all_goals rcases kind_cases hx with h | h | h | h <;> (
      dsimp only at h; subst h
      clear hx
      have HF := Lib.hid (⟨hq, h47⟩ : _ ∧ _)
      simp only [h47, decide_true, decide_false] at d2
      clear hq h47
      show Calls _ _ #[.agg #[.int .i64 _, .int .u8 (c.toNat : Int)], _] w _
      go_enter Tryd.func51, Tryd.ntmps51
      go_wp2_with fail
      go_ret
      obtain ⟨hq, h47⟩ := HF.out
      refine ⟨?_, (Below.refl _ w).alloc (Nat.le_refl _) _⟩
      have hq' : ¬ b = c := fun e => hq e.symm
      first | (simp [fitB, hq']; done) | (simp [fitB, h47]; done) | (simp [fitB, h47]; exact of_decide_eq_false d2))
set_option maxHeartbeats 6400000 in
theorem class_any (x : Pt) (w : World) (hx : x.1 ≤ 3) :
    Calls Tryd.prog 47 #[.agg (partC x).toArray] w fun e w' => ∃ g lb, e = .returned (.func (.func g) #[] lb) ∧ FnOk Tryd.prog g ∧ FitOf Tryd.prog g lb x w' ∧ Below w.heap.size w w' := by
  obtain ⟨k, c⟩ := x
  have hzr := zero_pp
  rcases kind_cases hx with h | h | h | h <;> (
    dsimp only at h; subst h
    clear hx
    show Calls _ _ #[.agg #[.int .i64 _, .int .u8 (c.toNat : Int)]] w _
    go_enter Tryd.func47, Tryd.ntmps47
    go_wp2_with fail
    go_ret)
  · have hbx := Cells.new w 74 #[.int .i64 0, .int .u8 (c.toNat : Int)]
    refine ⟨62, _, rfl, enters_of Tryd.func62 (by kernel_rfl) rfl, ?_, (Below.refl _ w).alloc (Nat.le_refl _) _⟩
    intro W hW b
    have hc1 : W.cell? ⟨w.heap.size, 0 + 1, none⟩ = some (.int .u8 (c.toNat : Int)) := by
      rw [hW.cell (p := ⟨w.heap.size, 0 + 1, none⟩) (by simp)]
      simp
    show Calls _ _ #[.int .u8 (b.toNat : Int), _] W _
    go_enter Tryd.func62, Tryd.ntmps62
    go_wp2_with fail
    go_ret
    refine ⟨?_, rfl⟩
    show Ending.returned (.bool _) = Ending.returned (.bool (decide (b = c)))
    rw [← u8_dec]
    first | rfl | (simp; done)
  · refine ⟨64, _, rfl, enters_of Tryd.func64 (by kernel_rfl) rfl, ?_, (Below.refl _ w).alloc (Nat.le_refl _) _⟩
    intro W hW b
    show Calls _ _ #[.int .u8 (b.toNat : Int)] W _
    go_enter Tryd.func64, Tryd.ntmps64
    go_wp2_with fail
    go_ret
    refine ⟨?_, rfl⟩
    simp [fitB]
    exact u8_ne47 b
  · refine ⟨64, _, rfl, enters_of Tryd.func64 (by kernel_rfl) rfl, ?_, (Below.refl _ w).alloc (Nat.le_refl _) _⟩
    intro W hW b
    show Calls _ _ #[.int .u8 (b.toNat : Int)] W _
    go_enter Tryd.func64, Tryd.ntmps64
    go_wp2_with fail
    go_ret
    refine ⟨?_, rfl⟩
    simp [fitB]
    exact u8_ne47 b
  · refine ⟨63, _, rfl, enters_of Tryd.func63 (by kernel_rfl) rfl, ?_, (Below.refl _ w).alloc (Nat.le_refl _) _⟩
    intro W hW b
    show Calls _ _ #[.int .u8 (b.toNat : Int)] W _
    go_enter Tryd.func63, Tryd.ntmps63
    go_wp2_with fail
    go_ret
    exact ⟨by simp [fitB], rfl⟩
end Go.Proofs.YtipepcjiogifaaaDoor

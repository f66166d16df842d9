/- Shaped, all cases; equality of halves and digests. -/
import Derived.Test.YtlnbeglelhdjfaaKey15
import Derived.Test.YtlnbeglelhdjfaaGen2
set_option linter.unusedSimpArgs false
set_option linter.unusedVariables false
namespace Go.Adm
open Go Go.RowKit
def shapedB (h leaf : Int) (nc np : Nat) : Bool := hOk h && (decide (0 ≤ leaf) && (decide (leaf < ((2 ^ h.toNat : Nat) : Int)) && (((nc : Int) == 68) && ((np : Int) == h))))
theorem shapedB_iff (h leaf : Int) (nc np : Nat) : shapedB h leaf nc np = true ↔ (0 ≤ h ∧ h ≤ 6) ∧ 0 ≤ leaf ∧ leaf < ((2 ^ h.toNat : Nat) : Int) ∧ nc = 68 ∧ (np : Int) = h := by
  simp only [shapedB, Bool.and_eq_true, hOk_iff, decide_eq_true_eq, beq_iff_eq]
  constructor
  · rintro ⟨h1, h2, h3, h4, h5⟩; exact ⟨h1, h2, h3, by omega, h5⟩
  · rintro ⟨h1, h2, h3, h4, h5⟩; exact ⟨h1, h2, h3, by omega, h5⟩
end Go.Adm
namespace Go.Proofs.Ytlnbeglelhdjfaa
open Go Go.RowKit Go.Adm

theorem Shaped_any (w : World) (r : List UInt8) (hr : r.length = 16) (leaf : Int) (Ac : Option Addr) (nc cc : Nat) (Ap : Option Addr) (np cp : Nat) (h : Int) :
    Calls Try.prog 14 #[.agg (pkCells h r).toArray, .agg (sgCells leaf Ac nc cc Ap np cp).toArray] w fun e w' => e = .returned (.bool (shapedB h leaf nc np)) ∧ Below w.heap.size w w' := by
  cases c0 : hOk h with
  | false =>
    have e : shapedB h leaf nc np = false := by simp [shapedB, c0]
    rw [e]; exact Shaped_0 w r hr leaf Ac nc cc Ap np cp h c0
  | true =>
    obtain ⟨h0, h6⟩ := (hOk_iff h).1 c0
    obtain ⟨k, rfl⟩ := Int.eq_ofNat_of_zero_le h0
    have hk : k ≤ 6 := by omega
    cases c1 : decide (0 ≤ leaf) with
    | false =>
      have e : shapedB (k : Nat) leaf nc np = false := by simp [shapedB, c1]
      rw [e]; exact Shaped_1 w r hr leaf Ac nc cc Ap np cp k hk c1
    | true =>
      cases c2 : decide (leaf < ((2 ^ k : Nat) : Int)) with
      | false =>
        have e : shapedB (k : Nat) leaf nc np = false := by unfold shapedB; rw [Int.toNat_natCast, c2]; simp
        rw [e]; exact Shaped_2 w r hr leaf Ac nc cc Ap np cp k hk c1 c2
      | true =>
        cases c3 : ((nc : Int) == 68) with
        | false =>
          have e : shapedB (k : Nat) leaf nc np = false := by unfold shapedB; rw [c3]; simp
          rw [e]; exact Shaped_3 w r hr leaf Ac nc cc Ap np cp k hk c1 c2 c3
        | true =>
          cases c4 : ((np : Int) == (k : Int)) with
          | false =>
            have e : shapedB (k : Nat) leaf nc np = false := by unfold shapedB; rw [c4]; simp
            rw [e]; exact Shaped_4 w r hr leaf Ac nc cc Ap np cp k hk c1 c2 c3 c4
          | true =>
            have e : shapedB (k : Nat) leaf nc np = true := by unfold shapedB; rw [Int.toNat_natCast, c0, c1, c2, c3, c4]; rfl
            rw [e]; exact Shaped_5 w r hr leaf Ac nc cc Ap np cp k hk c1 c2 c3 c4
theorem refShaped_any (w : World) (r : List UInt8) (hr : r.length = 16) (leaf : Int) (Ac : Option Addr) (nc cc : Nat) (Ap : Option Addr) (np cp : Nat) (h : Int) :
    Calls Try.prog 16 #[.agg (pkCells h r).toArray, .agg (sgCells leaf Ac nc cc Ap np cp).toArray] w fun e w' => e = .returned (.bool (shapedB h leaf nc np)) ∧ Below w.heap.size w w' := by
  cases c0 : hOk h with
  | false =>
    have e : shapedB h leaf nc np = false := by simp [shapedB, c0]
    rw [e]; exact refShaped_0 w r hr leaf Ac nc cc Ap np cp h c0
  | true =>
    obtain ⟨h0, h6⟩ := (hOk_iff h).1 c0
    obtain ⟨k, rfl⟩ := Int.eq_ofNat_of_zero_le h0
    have hk : k ≤ 6 := by omega
    cases c1 : decide (0 ≤ leaf) with
    | false =>
      have e : shapedB (k : Nat) leaf nc np = false := by simp [shapedB, c1]
      rw [e]; exact refShaped_1 w r hr leaf Ac nc cc Ap np cp k hk c1
    | true =>
      cases c2 : decide (leaf < ((2 ^ k : Nat) : Int)) with
      | false =>
        have e : shapedB (k : Nat) leaf nc np = false := by unfold shapedB; rw [Int.toNat_natCast, c2]; simp
        rw [e]; exact refShaped_2 w r hr leaf Ac nc cc Ap np cp k hk c1 c2
      | true =>
        cases c3 : ((nc : Int) == 68) with
        | false =>
          have e : shapedB (k : Nat) leaf nc np = false := by unfold shapedB; rw [c3]; simp
          rw [e]; exact refShaped_3 w r hr leaf Ac nc cc Ap np cp k hk c1 c2 c3
        | true =>
          cases c4 : ((np : Int) == (k : Int)) with
          | false =>
            have e : shapedB (k : Nat) leaf nc np = false := by unfold shapedB; rw [c4]; simp
            rw [e]; exact refShaped_4 w r hr leaf Ac nc cc Ap np cp k hk c1 c2 c3 c4
          | true =>
            have e : shapedB (k : Nat) leaf nc np = true := by unfold shapedB; rw [Int.toNat_natCast, c0, c1, c2, c3, c4]; rfl
            rw [e]; exact refShaped_5 w r hr leaf Ac nc cc Ap np cp k hk c1 c2 c3 c4
theorem eq_half (w : World) (x y : List UInt8) (hx : x.length = 16) (hy : y.length = 16) : (binOp .eql 23 (.agg (x.map bv).toArray) (.agg (y.map bv).toArray)).run Try.prog w = .ok (.bool (decide (x = y))) w :=
  run_eq_deep w 2 23 (by decide) (by kernel_rfl) (by simp only [Value.formed, Try.underlying23, List.size_toArray, List.length_map, hx]; kernel_rfl) (by simp only [Value.formed, Try.underlying23, List.size_toArray, List.length_map, hy]; kernel_rfl)
    (kl_bytes Try.underlying23 Try.underlying5 (by kernel_rfl) (by kernel_rfl) x hx) (kl_bytes Try.underlying23 Try.underlying5 (by kernel_rfl) (by kernel_rfl) y hy) _ (by
      rw [decide_eq_true_eq]
      exact ⟨fun h => by rw [h], map_bl_inj⟩)
theorem eq_dig (w : World) (x y : List UInt8) (hx : x.length = 32) (hy : y.length = 32) : (binOp .eql 27 (.agg (x.map bv).toArray) (.agg (y.map bv).toArray)).run Try.prog w = .ok (.bool (decide (x = y))) w :=
  run_eq_deep w 2 27 (by decide) (by kernel_rfl) (by simp only [Value.formed, Try.underlying27, List.size_toArray, List.length_map, hx]; kernel_rfl) (by simp only [Value.formed, Try.underlying27, List.size_toArray, List.length_map, hy]; kernel_rfl)
    (kl_bytes Try.underlying27 Try.underlying5 (by kernel_rfl) (by kernel_rfl) x hx) (kl_bytes Try.underlying27 Try.underlying5 (by kernel_rfl) (by kernel_rfl) y hy) _ (by
      rw [decide_eq_true_eq]
      exact ⟨fun h => by rw [h], map_bl_inj⟩)
end Go.Proofs.Ytlnbeglelhdjfaa

/- SHA-256: rotations. -/
import Derived.Test.YtlnbeglelhdjfaaGen3
set_option linter.unusedSimpArgs false
set_option linter.unusedVariables false
namespace Go.Proofs.Ytlnbeglelhdjfaa
open Go Go.RowKit Go.Adm

theorem or_comm' (x y : UInt32) : x ||| y = y ||| x := by
  apply UInt32.toNat_inj.1
  rw [UInt32.toNat_or, UInt32.toNat_or, Nat.or_comm]

set_option maxHeartbeats 400000 in
theorem rot_any (x : UInt32) (k : Nat) (h1 : 1 ≤ k) (h2 : k ≤ 31) (w : World) :
    Calls Try.prog 57 #[.int .u32 x.toNat, .int .i64 (-(k : Int))] w fun e w' => e = .returned (.int .u32 (rotr x k).toNat) ∧ w = w' := by
  have hx := x.toNat_lt
  have hq := rot_mask k h1 h2
  have e1 := Lib.hid (w_shl' x (32 - k))
  have e2 := Lib.hid (w_shr x k)
  have e3 := Lib.hid (w_or (shl x (32 - k)) (shr x k))
  go_enter Try.func57, Try.ntmps57
  go_wp2
  go_ret
  exact ⟨ret_int (by
    simp only [show 32 - (32 - k) = k from by omega]
    rw [e1.out, e2.out, e3.out, or_comm']; rfl), rfl⟩
theorem rot_lit (x : UInt32) (n : Int) (k : Nat) (hn : n = -(k : Int)) (h1 : 1 ≤ k) (h2 : k ≤ 31) (w : World) :
    Calls Try.prog 57 #[.int .u32 x.toNat, .int .i64 n] w fun e w' => e = .returned (.int .u32 (rotr x k).toNat) ∧ w = w' := by
  subst hn; exact rot_any x k h1 h2 w
set_option maxHeartbeats 400000 in
theorem rotate_any (x : UInt32) (k : Nat) (h1 : 1 ≤ k) (h2 : k ≤ 31) (w : World) :
    Calls Try.prog 58 #[.int .u32 x.toNat, .int .i64 (k : Int)] w fun e w' => e = .returned (.int .u32 (rotr x k).toNat) ∧ w = w' := by
  have hx := x.toNat_lt
  have e1 := Lib.hid (w_shl' x (32 - k))
  have e2 := Lib.hid (w_shr x k)
  have e3 := Lib.hid (w_or (shr x k) (shl x (32 - k)))
  go_enter Try.func58, Try.ntmps58
  go_wp2
  go_ret
  exact ⟨ret_int (by rw [e1.out, e2.out, e3.out]; rfl), rfl⟩
theorem rotate_lit (x : UInt32) (n : Int) (k : Nat) (hn : n = (k : Int)) (h1 : 1 ≤ k) (h2 : k ≤ 31) (w : World) :
    Calls Try.prog 58 #[.int .u32 x.toNat, .int .i64 n] w fun e w' => e = .returned (.int .u32 (rotr x k).toNat) ∧ w = w' := by
  subst hn; exact rotate_any x k h1 h2 w
end Go.Proofs.Ytlnbeglelhdjfaa

/- The walks over package document and its reference: lines, documents. -/
import Derived.Test.YtfakjamocpamiaaDoc1
import Derived.Test.YtfakjamocpamiaaDocS
set_option linter.unusedSimpArgs false
set_option linter.unusedVariables false
namespace Go.Proofs.Ytfakjamocpamiaa
open Go Go.RowKit Go.Adm

theorem any_long {l : List ByteArray} {k : Nat} (hk : k < l.length) (h : 32768 < l[k].size) : l.any (fun w => decide (32768 < w.size)) = true := by
 rw [List.any_eq_true]
 exact ⟨l[k], List.getElem_mem hk, by simpa using h⟩
theorem lineE_of_long {l : List ByteArray} {k : Nat} (hk : k < l.length) (h : 32768 < l[k].size) (h2 : l.length ≤ 120) : lineE l = 3 := by
 unfold lineE
 rw [if_neg (by omega), if_neg (by omega), if_pos (any_long hk h)]
theorem lineE_of_ok {l : List ByteArray} (h1 : 0 < l.length) (h2 : l.length ≤ 120) (h : ∀ j (hj : j < l.length), l[j].size ≤ 32768) : lineE l = 0 := by
 unfold lineE
 rw [if_neg (by omega), if_neg (by omega), if_neg]
 intro ha
 rw [List.any_eq_true] at ha
 obtain ⟨x, hx, hl⟩ := ha
 obtain ⟨j, hj, rfl⟩ := List.getElem_of_mem hx
 have := h j hj
 simp at hl
 omega

set_option maxHeartbeats 400000 in
theorem check_any (w : World) (B : Nat) (A : Option Addr) (n c : Nat) (l : List ByteArray) (h : Strs w B A n l) (hnm : n ≤ maxLen) :
  Calls Try.prog 59 #[.slice A n c] w fun e w' => e = .returned (.int .i64 (lineE l)) ∧ w = w' := by
 have hn : n ≤ 9223372036854775807 := hnm
 have hlen := h.len
 have H := Lib.hid h
 clear h
 by_cases h0 : n = 0
 ·subst h0
  have hE : Hid (lineE l = 1) := Lib.hid (by unfold lineE; rw [if_pos hlen])
  clear hlen
  go_enter Try.func59, Try.ntmps59
  go_wp2
  go_ret
  exact ⟨ret_int hE.out.symm, rfl⟩
 ·have h0' : ((n : Int) == 0) = false := by simp; omega
  by_cases h1 : 120 < n
  ·have hE : Hid (lineE l = 3) := Lib.hid (by unfold lineE; rw [if_neg (by omega), if_pos (by omega)])
   clear hlen
   go_enter Try.func59, Try.ntmps59
   go_wp2
   go_ret
   exact ⟨ret_int hE.out.symm, rfl⟩
  ·have HL : Hid (l.length = n) := Lib.hid hlen
   clear hlen
   go_enter Try.func59, Try.ntmps59
   go_wp2
   go_loop [4, 15] (fun _ i => ∃ k : Nat, k ≤ n ∧ i = .int .i64 k ∧ ∀ j (hj : j < l.length), j < k → l[j].size ≤ 32768) (fun _ i => n - (intOf i).toNat)
   case atStart => exact ⟨0, Nat.zero_le _, rfl, fun _ _ h => absurd h (by omega)⟩
   case round =>
    obtain ⟨k, hk, rfl, hall⟩ := hrel
    have Hall := Lib.hid hall
    clear hall
    by_cases hlt : k < n
    ·have hkl : k < l.length := by rw [HL.out]; exact hlt
     obtain ⟨ad, rfl, _, hc, hsz⟩ := H.out.at_ hkl
     by_cases hlong : 32768 < l[k].size
     ·have hE : Hid (lineE l = 3) := Lib.hid (lineE_of_long hkl hlong (by rw [HL.out]; omega))
      go_wp2
      go_ret
      exact ⟨ret_int hE.out.symm, rfl⟩
     ·go_wp2
      go_round
      case rel => exact ⟨k + 1, by omega, by go_num, fun j hj h3 => by
        rcases Nat.lt_succ_iff_lt_or_eq.1 h3 with h4 | h4
        ·exact Hall.out j hj h4
        ·subst h4; omega⟩
      case measure => simp [intOf]; omega
    ·have hE : Hid (lineE l = 0) := Lib.hid (lineE_of_ok (by rw [HL.out]; omega) (by rw [HL.out]; omega) fun j hj => Hall.out j hj (by rw [HL.out] at hj; omega))
     go_wp2
     go_ret
     exact ⟨ret_int hE.out.symm, rfl⟩
def LightPost (ls : List (List ByteArray)) (w : World) (e : Ending) (w' : World) : Prop := ∃ b : Bool, e = .returned (.bool b) ∧ (b = true → Light ls) ∧ w = w'

end Go.Proofs.Ytfakjamocpamiaa

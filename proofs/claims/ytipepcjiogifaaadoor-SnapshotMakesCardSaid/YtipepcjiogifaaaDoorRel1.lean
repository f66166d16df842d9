/- Comparing strings: cmp.Compare, cmp.Or of three. -/
import Derived.Test.YtipepcjiogifaaaDoorGen1
set_option linter.unusedSimpArgs false
set_option linter.unusedVariables false
set_option maxRecDepth 100000
namespace Go.Proofs.YtipepcjiogifaaaDoor
open Go Go.RowKit Go.Adm
theorem isNaN_str (a : ByteArray) (w : World) : Calls Tryd.prog 57 #[.string a] w fun e w' => e = .returned (.bool false) ∧ w' = w := by
  go_enter Tryd.func57, Tryd.ntmps57
  go_wp2
  go_ret
  exact ⟨by simp, rfl⟩
def cmpS (a b : ByteArray) : Int := if Op.bytesLess a.toList b.toList = true then -1 else if (!a.toList == b.toList) = true then 1 else 0
theorem Compare_str (a b : ByteArray) (w : World) : Calls Tryd.prog 37 #[.string a, .string b] w fun e w' => e = .returned (.int .i64 (cmpS a b)) ∧ w' = w := by
  go_enter Tryd.func37, Tryd.ntmps37
  go_wp2_with (go_at_call 57; refine (isNaN_str _ _).mono ?_; rintro e w' ⟨rfl, rfl⟩)
  · rename_i h1
    go_ret
    exact ⟨by unfold cmpS; rw [if_pos h1]; rfl, rfl⟩
  · rename_i h1 K a h2
    go_ret
    exact ⟨by unfold cmpS; rw [if_neg (by rw [h1]; simp), if_pos h2]; rfl, rfl⟩
  · rename_i h1 h2
    go_ret
    exact ⟨by unfold cmpS; rw [if_neg (by rw [h1]; simp), if_neg (by rw [h2]; simp)]; rfl, rfl⟩
def orS (l : List Int) : Int := (l.find? (fun x => x != 0)).getD 0
def iv (x : Int) : Value := .int .i64 x
end Go.Proofs.YtipepcjiogifaaaDoor

/- Comparing strings: cmp.Compare, cmp.Or of three. -/
import Derived.Test.YtkdblhlehagmbaaDoorGen1
set_option linter.unusedSimpArgs false
set_option linter.unusedVariables false
set_option maxRecDepth 100000
namespace Go.Proofs.YtkdblhlehagmbaaDoor
open Go Go.RowKit Go.Adm
theorem isNaN_str (a : ByteArray) (w : World) : Calls Tryd.prog 19 #[.string a] w fun e w' => e = .returned (.bool false) ∧ w' = w := by
  go_enter Tryd.func19, Tryd.ntmps19
  go_wp2
  go_ret
  exact ⟨by simp, rfl⟩
def cmpS (a b : ByteArray) : Int := if Op.bytesLess a.toList b.toList = true then -1 else if (!a.toList == b.toList) = true then 1 else 0
theorem Compare_str (a b : ByteArray) (w : World) : Calls Tryd.prog 12 #[.string a, .string b] w fun e w' => e = .returned (.int .i64 (cmpS a b)) ∧ w' = w := by
  go_enter Tryd.func12, Tryd.ntmps12
  go_wp2_with (go_at_call 19; refine (isNaN_str _ _).mono ?_; rintro e w' ⟨rfl, rfl⟩)
  · rename_i h1
    go_ret
    exact ⟨by unfold cmpS; rw [if_pos h1]; rfl, rfl⟩
  · rename_i h1 K a h2
    go_ret
    exact ⟨by unfold cmpS; rw [if_neg (by rw [h1]; simp), if_pos h2]; rfl, rfl⟩
  · rename_i h1 h2
    go_ret
    exact ⟨by unfold cmpS; rw [if_neg (by rw [h1]; simp), if_neg (by rw [h2]; simp)]; rfl, rfl⟩
def orS (l : List Int) : Int := (l.find? (fun x => x != 0)).getD 0
def iv (x : Int) : Value := .int .i64 x
theorem Or_any (w : World) (B : Nat) (A : Addr) (l : List Int) (c : Nat) (h : Rd w B 1 (some A) l.length (l.map iv)) (hl : l.length ≤ 100) :
    Calls Tryd.prog 10 #[.slice (some A) l.length c] w fun e w' => e = .returned (.int .i64 (orS l)) ∧ w' = w := by
  have H := Lib.hid h
  clear h
  go_enter Tryd.func10, Tryd.ntmps10
  go_wp2
  go_loop [8] (fun i => ∃ k : Nat, k ≤ l.length ∧ i = .int .i64 k ∧ ∀ j (hj : j < l.length), j < k → l[j] = 0) (fun i => l.length - (intOf i).toNat)
  case atStart => exact ⟨0, Nat.zero_le _, rfl, fun _ _ h => absurd h (by omega)⟩
  case round =>
    obtain ⟨k, hk, rfl, hall⟩ := hrel
    have HA := Lib.hid hall
    clear hall
    by_cases hlt : k < l.length
    · have d1 : decide ((k : Int) < (l.length : Int)) = true := by simp; omega
      have hc : w.cell? (A.add k) = some (.int .i64 l[k]) := by
        obtain ⟨ad, u, e, _, hu, hcell⟩ := H.out.cell (k := k) hlt
        injection e with e
        subst e
        rw [List.getElem?_map, List.getElem?_eq_getElem hlt] at hu
        injection hu with hu
        rw [hcell, ← hu]; rfl
      have HG : Hid (∃ x, l[k] = x) := Lib.hid ⟨_, rfl⟩
      by_cases hz : l[k] = 0
      · have e1 : (l[k] != 0) = false := by simp [hz]
        have HZ : Hid (∀ j (hj : j < l.length), j < k + 1 → l[j] = 0) := Lib.hid (fun j hj h => by
          rcases Nat.lt_succ_iff_lt_or_eq.1 h with h4 | h4
          · exact HA.out j hj h4
          · subst h4; exact hz)
        clear hz
        generalize l[k] = x at *
        go_wp2
        exact ⟨⟨k + 1, by omega, by go_num, HZ.out⟩, by simp [intOf]; omega⟩
      · have e1 : (l[k] != 0) = true := by simpa using hz
        have HF : Hid (orS l = l[k]) := Lib.hid (by
          have e : l = l.take k ++ l[k] :: l.drop (k + 1) := by rw [← List.drop_eq_getElem_cons hlt, List.take_append_drop]
          have hn : (l.take k).find? (fun x => x != 0) = none := by
            rw [List.find?_eq_none]
            intro x hx
            obtain ⟨j, hj, rfl⟩ := List.getElem_of_mem hx
            rw [List.length_take] at hj
            rw [List.getElem_take, HA.out j (by omega) (by omega)]
            simp
          have h2 : (l.take k ++ l[k] :: l.drop (k + 1)).find? (fun x => x != 0) = some l[k] := by
            rw [List.find?_append, hn, List.find?_cons, e1]; rfl
          unfold orS
          rw [← e] at h2
          rw [h2]; rfl)
        clear hz
        generalize l[k] = x at *
        go_wp2
        go_ret
        exact ⟨by rw [HF.out]; rfl, rfl⟩
    · have d1 : decide ((k : Int) < (l.length : Int)) = false := by simp; omega
      have HF : Hid (orS l = 0) := Lib.hid (by
        unfold orS
        rw [List.find?_eq_none.2]
        · rfl
        · intro x hx
          obtain ⟨j, hj, rfl⟩ := List.getElem_of_mem hx
          rw [HA.out j hj (by omega)]
          simp)
      go_wp2
      go_ret
      exact ⟨by rw [HF.out]; rfl, rfl⟩
end Go.Proofs.YtkdblhlehagmbaaDoor

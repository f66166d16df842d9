/- Whether a command is allowed: the reference. -/
import Derived.Test.YtoeighacclkplaaDoorRec5
set_option linter.unusedSimpArgs false
set_option linter.unusedVariables false
set_option maxRecDepth 100000
namespace Go.Proofs.YtoeighacclkplaaDoor
open Go Go.RowKit Go.Adm Go.AdR
set_option maxHeartbeats 3200000 in
theorem Short_any (w : World) (B : Nat) (A : Option Addr) (n c : Nat) (l : List ByteArray) (h : Strs w B A n l) (hn2 : n ≤ 1000000) (hB : B ≤ w.heap.size) :
    Calls Tryd.prog 29 #[.slice A n c] w fun e w' => e = .returned (.bool (!l.any longB && decide ((n : Int) ≤ 16))) ∧ w' = w := by
  have HN := Lib.hid h.len
  have H := Lib.hid h
  clear h
  go_enter Tryd.func29, Tryd.ntmps29
  go_wp2_with fail
  go_loop [3] (fun i => ∃ k : Nat, k ≤ n ∧ i = .int .i64 k ∧ ∀ j (hj : j < l.length), j < k → longB l[j] = false) (fun i => n - (intOf i).toNat)
  case atStart => exact ⟨0, Nat.zero_le _, rfl, fun _ _ h => absurd h (by omega)⟩
  case round =>
    obtain ⟨k, hk, rfl, hall⟩ := hrel
    have HA := Lib.hid hall
    clear hall
    by_cases hlt : k < n
    · have d1 : decide ((k : Int) < (n : Int)) = true := by simp; omega
      have hkl : k < l.length := by rw [HN.out]; exact hlt
      obtain ⟨ad, rfl, hadB, hc, hs⟩ := H.out.at_ hkl
      have HX : Hid (longB l[k] = true → l.any longB = true) := Lib.hid (fun h => List.any_eq_true.2 ⟨_, List.getElem_mem hkl, h⟩)
      have HY : Hid (longB l[k] = false → ∀ j (hj : j < l.length), j < k + 1 → longB l[j] = false) := Lib.hid (fun h j hj h2 => by
        rcases Nat.lt_succ_iff_lt_or_eq.1 h2 with h4 | h4
        · exact HA.out j hj h4
        · subst h4; exact h)
      generalize l[k] = x at *
      clear hkl
      cases h0 : decide ((200 : Int) < (x.size : Int)) with
      | true =>
        have hv := Lib.hid (HX.out h0)
        clear HX HY
        go_wp2_with fail
        go_ret
        exact ⟨ret_bool (by rw [hv.out]; rfl), rfl⟩
      | false =>
        have hv := Lib.hid (HY.out h0)
        clear HX HY
        go_wp2_with fail
        exact ⟨⟨k + 1, by omega, by go_num, hv.out⟩, by simp [intOf]; omega⟩
    · have d1 : decide ((k : Int) < (n : Int)) = false := by simp; omega
      have hv : Hid (l.any longB = false) := Lib.hid (by
        rw [List.any_eq_false]
        intro x hx
        obtain ⟨j, hj, rfl⟩ := List.getElem_of_mem hx
        rw [HA.out j hj (by have := HN.out; omega)]
        decide)
      go_wp2_with fail
      go_ret
      exact ⟨ret_bool (by rw [hv.out]; rfl), rfl⟩
end Go.Proofs.YtoeighacclkplaaDoor

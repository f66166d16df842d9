/- Long words of a command: the program. -/
import Derived.Test.YtmiohkfhmaklgaaDoorRec4
set_option linter.unusedSimpArgs false
set_option linter.unusedVariables false
set_option maxRecDepth 100000
namespace Go.AdR
open Go Go.RowKit Go.Adm
def longB (s : ByteArray) : Bool := decide ((200 : Int) < (s.size : Int))
end Go.AdR
namespace Go.Proofs.YtmiohkfhmaklgaaDoor
open Go Go.RowKit Go.Adm Go.AdR
theorem long_any (s : ByteArray) (w : World) : Calls Tryd.prog 38 #[.string s] w fun e w' => e = .returned (.bool (longB s)) ∧ w' = w := by
  have hL : Hid (longB s = decide ((200 : Int) < (s.size : Int))) := Lib.hid rfl
  go_enter Tryd.func38, Tryd.ntmps38
  go_wp2_with fail
  go_ret
  exact ⟨ret_bool (by rw [hL.out]), rfl⟩
set_option maxHeartbeats 3200000 in
theorem IndexLong_any (w : World) (B : Nat) (A : Option Addr) (n c : Nat) (l : List ByteArray) (h : Strs w B A n l) (hn2 : n ≤ 1000000) (hB : B ≤ w.heap.size) :
    Calls Tryd.prog 52 #[.slice A n c, .func (.func 38) #[] #[]] w fun e w' => (∃ i : Int, e = .returned (.int .i64 i) ∧ decide (0 ≤ i) = l.any longB) ∧ w' = w := by
  have HN := Lib.hid h.len
  have H := Lib.hid h
  clear h
  go_enter Tryd.func52, Tryd.ntmps52
  go_wp2_with fail
  go_loop [8] (fun i => ∃ k : Nat, k ≤ n ∧ i = .int .i64 k ∧ ∀ j (hj : j < l.length), j < k → longB l[j] = false) (fun i => n - (intOf i).toNat)
  case atStart => exact ⟨0, Nat.zero_le _, rfl, fun _ _ h => absurd h (by omega)⟩
  case round =>
    obtain ⟨k, hk, rfl, hall⟩ := hrel
    have HA := Lib.hid hall
    clear hall
    by_cases hlt : k < n
    · have d1 : decide ((k : Int) < (n : Int)) = true := by simp; omega
      have hkl : k < l.length := by rw [HN.out]; exact hlt
      obtain ⟨ad, rfl, hadB, hc, hs⟩ := H.out.at_ hkl
      have HX : Hid (longB l[k] = true → l.any longB = true) := Lib.hid (fun h => List.any_eq_true.2 ⟨_, List.getElem_mem hkl, h⟩)
      have HY : Hid (longB l[k] = false → ∀ j (hj : j < l.length), j < k + 1 → longB l[j] = false) := Lib.hid (fun h j hj h2 => by
        rcases Nat.lt_succ_iff_lt_or_eq.1 h2 with h4 | h4
        · exact HA.out j hj h4
        · subst h4; exact h)
      generalize l[k] = x at *
      clear hkl
      cases h0 : longB x with
      | true =>
        have hv := Lib.hid (HX.out h0)
        have hcn : Calls Tryd.prog 38 #[.string x] w fun e w' => e = .returned (.bool true) ∧ w' = w := by rw [← h0]; exact long_any x w
        clear h0 HX HY
        go_wp2_with (go_at_call 38; refine hcn.mono ?_; rintro e w' ⟨rfl, rfl⟩)
        go_ret
        exact ⟨⟨(k : Int), by rfl, by rw [hv.out]; simp⟩, rfl⟩
      | false =>
        have hv := Lib.hid (HY.out h0)
        have hcn : Calls Tryd.prog 38 #[.string x] w fun e w' => e = .returned (.bool false) ∧ w' = w := by rw [← h0]; exact long_any x w
        clear h0 HX HY
        go_wp2_with (go_at_call 38; refine hcn.mono ?_; rintro e w' ⟨rfl, rfl⟩)
        exact ⟨⟨k + 1, by omega, by go_num, hv.out⟩, by simp [intOf]; omega⟩
    · have d1 : decide ((k : Int) < (n : Int)) = false := by simp; omega
      have hv : Hid (l.any longB = false) := Lib.hid (by
        rw [List.any_eq_false]
        intro x hx
        obtain ⟨j, hj, rfl⟩ := List.getElem_of_mem hx
        rw [HA.out j hj (by have := HN.out; omega)]
        decide)
      go_wp2_with fail
      go_ret
      exact ⟨⟨-1, by rfl, by rw [hv.out]; decide⟩, rfl⟩
theorem ContainsLong_any (w : World) (B : Nat) (A : Option Addr) (n c : Nat) (l : List ByteArray) (h : Strs w B A n l) (hn2 : n ≤ 1000000) (hB : B ≤ w.heap.size) :
    Calls Tryd.prog 39 #[.slice A n c, .func (.func 38) #[] #[]] w fun e w' => e = .returned (.bool (l.any longB)) ∧ w' = w := by
  have hc := IndexLong_any w B A n c l h hn2 hB
  clear h hn2 hB
  go_enter Tryd.func39, Tryd.ntmps39
  go_wp2_with (go_at_call 52; refine hc.mono ?_; clear hc; rintro e w' ⟨⟨i, rfl, hi⟩, rfl⟩)
  go_ret
  exact ⟨ret_bool (by rw [← hi]), rfl⟩
end Go.Proofs.YtmiohkfhmaklgaaDoor

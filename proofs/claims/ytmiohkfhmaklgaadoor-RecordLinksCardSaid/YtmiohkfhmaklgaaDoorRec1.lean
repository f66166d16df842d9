/- Scopes: both sides; the scope within a scope. -/
import Derived.Test.YtmiohkfhmaklgaaDoorGen2
import Derived.Test.YtmiohkfhmaklgaaDoorLayT
import Derived.Test.YtmiohkfhmaklgaaDoorDocA
import Derived.IntWalk
import Derived.Deep.QuietTactic
set_option linter.unusedSimpArgs false
set_option linter.unusedVariables false
set_option maxRecDepth 100000
namespace Go.Adm
open Go Go.RowKit
theorem extract_size (s : ByteArray) (i j : Nat) : (s.extract i j).size ≤ s.size := by
  rw [ByteArray.size_extract]
  have := Nat.min_le_right j s.size
  omega
theorem parts_small (sep : ByteArray) : ∀ (k : Nat) (s p : ByteArray), p ∈ Lib.splitB sep 0 k s → p.size ≤ s.size
  | 0, s, p, h => by simp [Lib.splitB] at h; rw [h]; exact Nat.le_refl _
  | k + 1, s, p, h => by
    unfold Lib.splitB at h
    split at h
    · simp at h; rw [h]; exact Nat.le_refl _
    · rcases List.mem_cons.1 h with h | h
      · rw [h]; exact extract_size _ _ _
      · exact Nat.le_trans (parts_small sep k _ p h) (extract_size _ _ _)
def partsL (s : ByteArray) : List ByteArray := Lib.splitB ⟨#[47]⟩ 0 (Lib.countB s ⟨#[47]⟩) s
theorem partsL_small (s p : ByteArray) (h : p ∈ partsL s) : p.size ≤ s.size := parts_small _ _ s p h
theorem partsL_len (s : ByteArray) : (partsL s).length = Lib.countB s ⟨#[47]⟩ + 1 := Lib.splitB_all ⟨#[47]⟩ (by decide) 0 _ s rfl
end Go.Adm
namespace Go.Proofs.YtmiohkfhmaklgaaDoor
open Go Go.RowKit Go.Adm Go.Shelf
noncomputable def scopeB (s : ByteArray) : Bool := (s.toList == []) || ((partsL s).all nameB && decide ((partsL s).length ≤ 4))
def innerS (s t : ByteArray) : ByteArray := if (s.toList == []) = true then t else s ++ ⟨#[47]⟩ ++ t
theorem Split_slash (s : ByteArray) (m : Int) (w : World) (hs : s.size < 4294967281) (hm : w.cell? ⟨0, 0, none⟩ = some (.int .i64 m)) :
    Calls Tryd.prog 41 #[.string s, .string ⟨#[47]⟩] w fun e w' =>
      e = .returned (.slice (some ⟨w.heap.size, 0, none⟩) (partsL s).length (partsL s).length) ∧ w' = w.alloc (.cells ((partsL s).map Value.string).toArray 9) := by
  rw [partsL_len]
  exact Any.strings_Split Go.Proofs.Tryd.lays146 (by kernel_rfl) s ⟨#[47]⟩ m w hs hm (by decide)
set_option maxHeartbeats 3200000 in
theorem Scope_any (s : ByteArray) (w : World) (hs : s.size ≤ 1000000) (m : Int) (hm : w.cell? ⟨0, 0, none⟩ = some (.int .i64 m)) :
    Calls Tryd.prog 27 #[.string s] w fun e w' => e = .returned (.bool (scopeB s)) ∧ Below w.heap.size w w' := by
  have hR : All w [.kept w w.heap.size] := ⟨⟨Below.refl _ _, Nat.le_refl _⟩, trivial⟩
  cases q1 : (s.toList == []) with
  | true =>
    have h0' : s.toList.isEmpty = true := by simpa using q1
    have hv : scopeB s = true := by unfold scopeB; rw [q1]; rfl
    go_enter Tryd.func27, Tryd.ntmps27
    go_wp2_with fail
    go_ret
    exact ⟨ret_bool hv.symm, hR.1.1⟩
  | false =>
  have h0' : s.toList.isEmpty = false := by simpa using q1
  obtain ⟨L, hL⟩ : ∃ L, partsL s = L := ⟨_, rfl⟩
  have hP : Hid (scopeB s = (L.all nameB && decide (L.length ≤ 4))) := Lib.hid (by unfold scopeB; rw [q1, hL]; rfl)
  have hsm : Hid (∀ p ∈ L, p.size ≤ 140737488355328) := Lib.hid (fun p hp => by have := partsL_small s p (by rw [hL]; exact hp); omega)
  have hcS := Split_slash s m w (by omega) hm
  rw [hL] at hcS
  have hR1 := hR.new (l := L.map Value.string) (L.map Value.string).toArray 9 rfl (by simp)
  have hn1 : L.length ≤ 1000001 := by
    rw [← hL, partsL_len]
    have := Lib.countB_le ⟨#[47]⟩ (by decide) _ s (Nat.le_refl _)
    omega
  clear hL hs hR hm
  obtain ⟨n, hn⟩ : ∃ n, L.length = n := ⟨_, rfl⟩
  rw [hn] at hcS hn1
  have HN := Lib.hid hn
  clear hn
  go_enter Tryd.func27, Tryd.ntmps27
  go_wp2_with (go_at_call 41; refine hcS.mono ?_; rintro e w1 ⟨rfl, rfl⟩)
  clear hcS h0' q1
  refine wp_gen hR1 ?_
  intro w1 hI
  clear hR1
  go_wp2_with fail
  go_loop [12] (fun i => ∃ k : Nat, k ≤ n ∧ i = .int .i64 k ∧ ∀ j (hj : j < L.length), j < k → nameB L[j] = true) (fun i => n - (intOf i).toNat)
  case atStart => exact ⟨0, Nat.zero_le _, rfl, fun _ _ h => absurd h (by omega)⟩
  case round =>
    obtain ⟨i, hi, rfl, hall⟩ := hrel
    have HA := Lib.hid hall
    clear hall
    by_cases hlt2 : i < n
    · have d1 : decide ((i : Int) < (n : Int)) = true := by simp; omega
      have hil : i < L.length := by rw [HN.out]; exact hlt2
      have hc1 : w1.cell? ⟨w.heap.size, i, none⟩ = some (.string L[i]) := by
        have := Cells.cell (hI.at_ 0 rfl) (i := i) (by simp [hil])
        rwa [List.getElem_map] at this
      have HX : Hid (nameB L[i] = false → scopeB s = false) := Lib.hid (fun h => by
        rw [hP.out]
        cases ha : L.all nameB with
        | false => rfl
        | true => rw [List.all_eq_true.1 ha _ (List.getElem_mem hil)] at h; cases h)
      have HY : Hid (nameB L[i] = true → ∀ j (hj : j < L.length), j < i + 1 → nameB L[j] = true) := Lib.hid (fun h j hj h2 => by
        rcases Nat.lt_succ_iff_lt_or_eq.1 h2 with h4 | h4
        · exact HA.out j hj h4
        · subst h4; exact h)
      have HS := Lib.hid (hsm.out _ (List.getElem_mem hil))
      generalize L[i] = x at *
      clear hil
      cases h0 : nameB x with
      | false =>
        have hv := Lib.hid (HX.out h0)
        have hcn : Calls Tryd.prog 37 #[.string x] w1 fun e w' => e = .returned (.bool false) ∧ w1 = w' := by rw [← h0]; exact Name_any x w1 HS.out
        clear h0 HX HY
        go_wp2_with (go_at_call 37; refine hcn.mono ?_; rintro e w' ⟨rfl, rfl⟩)
        go_ret
        exact ⟨ret_bool hv.out.symm, (hI.at_ 1 rfl).1⟩
      | true =>
        have hv := Lib.hid (HY.out h0)
        have hcn : Calls Tryd.prog 37 #[.string x] w1 fun e w' => e = .returned (.bool true) ∧ w1 = w' := by rw [← h0]; exact Name_any x w1 HS.out
        clear h0 HX HY
        go_wp2_with (go_at_call 37; refine hcn.mono ?_; rintro e w' ⟨rfl, rfl⟩)
        exact ⟨⟨i + 1, by omega, by go_num, hv.out⟩, by simp [intOf]; omega⟩
    · have d1 : decide ((i : Int) < (n : Int)) = false := by simp; omega
      have ha : L.all nameB = true := by
        rw [List.all_eq_true]
        intro x hx
        obtain ⟨j, hj, rfl⟩ := List.getElem_of_mem hx
        exact HA.out j hj (by have := HN.out; omega)
      have hv : Hid (scopeB s = decide ((n : Int) ≤ 4)) := Lib.hid (by
        rw [hP.out, ha, HN.out, Bool.true_and]
        by_cases h4 : n ≤ 4
        · rw [decide_eq_true h4, decide_eq_true (by omega)]
        · rw [decide_eq_false h4, decide_eq_false (by omega)])
      clear ha
      go_wp2_with fail
      go_ret
      exact ⟨ret_bool (by rw [hv.out]), (hI.at_ 1 rfl).1⟩
end Go.Proofs.YtmiohkfhmaklgaaDoor

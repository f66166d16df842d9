/- The reference's Path, over strings.Split. -/
import Derived.Test.YtipepcjiogifaaaDoorSnap2
import Derived.Shelf.Strings.SplitShaped
import Derived.Test.YtipepcjiogifaaaDoorLayT
set_option linter.unusedSimpArgs false
set_option linter.unusedVariables false
set_option maxRecDepth 100000
namespace Go.Adm
open Go Go.RowKit Go.Lib
theorem parts_ok : ∀ (k : Nat) (s : List UInt8), count s [47] = k → (splitK [47] 0 k s).all okName = namesOk [] s := by
  intro k
  induction k with
  | zero =>
    intro s h
    have h1 : Lib.indexByte s 47 < 0 := by
      by_cases h0 : Lib.indexByte s 47 < 0
      · exact h0
      · obtain ⟨i, hi⟩ : ∃ i : Nat, Lib.indexByte s 47 = (i : Int) := ⟨(Lib.indexByte s 47).toNat, by omega⟩
        rw [← index_one] at hi
        rw [count_hit (by simp) hi] at h
        omega
    rw [names_none s [] h1]
    simp [splitK]
  | succ k ih =>
    intro s h
    by_cases h0 : index s [47] = -1
    · rw [count_miss h0] at h; omega
    · have hge := index_ge s [47]
      obtain ⟨i, hi⟩ : ∃ i : Nat, index s [47] = (i : Int) := ⟨(index s [47]).toNat, by omega⟩
      have h1 : Lib.indexByte s 47 = (i : Int) := by rw [← index_one]; exact hi
      rw [count_hit (by simp) hi] at h
      rw [splitK, if_neg (fun e => h0 (beq_iff_eq.1 e)), (names_at s [] i h1).2, List.all_cons, hi]
      rw [show (i : Int).toNat = i from rfl, ih _ (by simpa using (by omega : count (s.drop (i + [(47 : UInt8)].length)) [47] = k))]
      simp
theorem parts_all (s : ByteArray) : (splitB ⟨#[47]⟩ 0 (countB s ⟨#[47]⟩) s).all (fun p => okName p.data.toList) = namesOk [] s.data.toList := by
  rw [← parts_ok _ _ rfl, show count s.data.toList [47] = countB s ⟨#[47]⟩ from rfl]
  rw [show ([47] : List UInt8) = (⟨#[47]⟩ : ByteArray).data.toList from rfl, ← splitB_data, List.all_map]
  rfl
theorem pathB_eq (s : ByteArray) (h1 : (s.toList == []) = false) (h2 : ¬ 200 < s.size) (h3 : ∀ j < s.size, s.data.toList[j]? ≠ some 0) : pathB s = (splitB ⟨#[47]⟩ 0 (countB s ⟨#[47]⟩) s).all (fun p => okName p.data.toList) := by
  have h4 : ¬ s.size < 1 := fun h => by
    have : s.toList = [] := by
      rw [ByteArray.toList_eq]
      exact List.eq_nil_of_length_eq_zero (by have := Lib.size_eq s; omega)
    rw [this] at h1; cases h1
  have h5 : ¬ 0 ≤ Lib.indexByte s.data.toList 0 := fun h => by
    obtain ⟨i, hi⟩ : ∃ i : Nat, Lib.indexByte s.data.toList 0 = (i : Int) := ⟨(Lib.indexByte s.data.toList 0).toNat, by omega⟩
    have := (Lib.indexByte_some hi).1
    have hl : i < s.data.toList.length := by
      rw [List.getElem?_eq_some_iff] at this; exact this.1
    exact h3 i (by have := Lib.size_eq s; omega) this
  rw [parts_all]
  simp [pathB, h4, h2, h5]
theorem pathB_long (s : ByteArray) (h : 200 < s.size) : pathB s = false := by simp [pathB, h]
theorem pathB_nil (s : ByteArray) (h : (s.toList == []) = true) : pathB s = false := by
  have h1 : s.size < 1 := by
    have := beq_iff_eq.1 h
    rw [ByteArray.toList_eq] at this
    have h2 := Lib.size_eq s
    rw [this] at h2
    simp only [List.length_nil] at h2
    omega
  simp [pathB, h1]
theorem pathB_zero (s : ByteArray) (k : Nat) (h : s.data.toList[k]? = some 0) : pathB s = false := by
  have h3 : 0 ≤ Lib.indexByte s.data.toList 0 := by
    by_cases h0 : Lib.indexByte s.data.toList 0 = -1
    · exact absurd h (Lib.indexByte_none h0 k)
    · have := Lib.indexByte_ge s.data.toList 0; omega
  simp [pathB, h3]
end Go.Adm
namespace Go.Proofs.YtipepcjiogifaaaDoor
open Go Go.RowKit Go.Adm Go.Shelf

theorem Split_slashP (s : ByteArray) (m : Int) (w : World) (hs : s.size < 4294967281) (hm : w.cell? ⟨0, 0, none⟩ = some (.int .i64 m)) :
    Calls Tryd.prog 61 #[.string s, .string ⟨#[47]⟩] w fun e w' =>
      e = .returned (.slice (some ⟨w.heap.size, 0, none⟩) (Lib.countB s ⟨#[47]⟩ + 1) (Lib.countB s ⟨#[47]⟩ + 1)) ∧ w' = w.alloc (.cells ((Lib.splitB ⟨#[47]⟩ 0 (Lib.countB s ⟨#[47]⟩) s).map Value.string).toArray 9) :=
  Any.strings_Split Go.Proofs.Tryd.lays146 (by kernel_rfl) s ⟨#[47]⟩ m w hs hm (by decide)
set_option maxHeartbeats 3200000 in
theorem refPath_any (s : ByteArray) (w : World) (m : Int) (hm : w.cell? ⟨0, 0, none⟩ = some (.int .i64 m)) :
    Calls Tryd.prog 43 #[.string s] w fun e w' => e = .returned (.bool (pathB s)) ∧ Below w.heap.size w w' := by
  have hR : All w [.kept w w.heap.size] := ⟨⟨Below.refl _ _, Nat.le_refl _⟩, trivial⟩
  cases q1 : (s.toList == []) with
  | true =>
    have h0' : s.toList.isEmpty = true := by simpa using q1
    have hv := pathB_nil s q1
    go_enter Tryd.func43, Tryd.ntmps43
    go_wp2_with fail
    go_ret
    exact ⟨ret_bool hv.symm, hR.1.1⟩
  | false =>
  have h0' : s.toList.isEmpty = false := by simpa using q1
  by_cases q2 : 200 < s.size
  · have d2 : decide (200 < (s.size : Int)) = true := by simp; omega
    have hv := pathB_long s q2
    go_enter Tryd.func43, Tryd.ntmps43
    go_wp2_with fail
    go_ret
    exact ⟨ret_bool hv.symm, hR.1.1⟩
  have d2 : decide (200 < (s.size : Int)) = false := by simp; omega
  have hP := Lib.hid (pathB_eq s q1 q2)
  go_enter Tryd.func43, Tryd.ntmps43
  go_wp2_with fail
  clear d2 h0' q1
  go_loop [3] (fun i => ∃ k : Nat, k ≤ s.size ∧ i = .int .i64 k ∧ ∀ j < k, s.data.toList[j]? ≠ some 0) (fun i => s.size - (intOf i).toNat)
  case atStart => exact ⟨0, Nat.zero_le _, rfl, fun _ h => absurd h (by omega)⟩
  case round =>
    obtain ⟨k, hk, rfl, hall⟩ := hrel
    have Hall := Lib.hid hall
    clear hall
    by_cases hlt : k < s.size
    · have d1 : decide ((k : Int) < (s.size : Int)) = true := by simp; omega
      have hg : s.data.toList[k]? = some s[k] := by
        rw [List.getElem?_eq_getElem (by rw [← Lib.size_eq]; exact hlt)]
        rfl
      cases hz : ((s[k].toNat : Int) == 0) with
      | true =>
        have hv : Hid (pathB s = false) := Lib.hid (pathB_zero s k (by rw [hg, show s[k] = 0 from UInt8.toNat_inj.1 (by have := beq_iff_eq.1 hz; simpa using this)]))
        clear hg
        go_wp2_with fail
        go_ret
        exact ⟨ret_bool hv.out.symm, hR.1.1⟩
      | false =>
        have hn : Hid (s.data.toList[k]? ≠ some 0) := Lib.hid (by rw [hg]; intro e; rw [Option.some.inj e] at hz; cases hz)
        clear hg
        go_wp2_with fail
        refine ⟨⟨k + 1, by omega, by go_num, fun j hj => ?_⟩, by simp [intOf]; omega⟩
        rcases Nat.lt_succ_iff_lt_or_eq.1 hj with h4 | h4
        · exact Hall.out j h4
        · rw [h4]; exact hn.out
    · have d1 : decide ((k : Int) < (s.size : Int)) = false := by simp; omega
      obtain ⟨L, hL⟩ : ∃ L, Lib.splitB ⟨#[47]⟩ 0 (Lib.countB s ⟨#[47]⟩) s = L := ⟨_, rfl⟩
      have hlen : L.length = Lib.countB s ⟨#[47]⟩ + 1 := by rw [← hL]; exact Lib.splitB_all ⟨#[47]⟩ (by decide) 0 _ s rfl
      have hcb := Lib.countB_le ⟨#[47]⟩ (by decide) _ s (Nat.le_refl _)
      have hPP : Hid (pathB s = L.all (fun p => okName p.data.toList)) := Lib.hid (by rw [hP.out (fun j hj => Hall.out j (by omega)), hL])
      have hcS := Split_slashP s m w (by omega) hm
      rw [hL] at hcS
      have hR1 := hR.new (l := L.map Value.string) (L.map Value.string).toArray 9 rfl (by simp)
      clear hP hL
      generalize Lib.countB s ⟨#[47]⟩ = n0 at *
      have HLN := Lib.hid hlen
      clear hlen
      go_wp2_with (go_at_call 61; refine hcS.mono ?_; rintro e w1 ⟨rfl, rfl⟩)
      clear hcS
      refine wp_gen hR1 ?_
      intro w1 hR1
      clear d1
      go_loop [5] (fun i => ∃ k : Nat, k ≤ n0 + 1 ∧ i = .int .i64 k ∧ ∀ j (hj : j < L.length), j < k → okName L[j].data.toList = true) (fun i => n0 + 1 - (intOf i).toNat)
      case atStart => exact ⟨0, Nat.zero_le _, rfl, fun _ _ h => absurd h (by omega)⟩
      case round =>
        obtain ⟨i, hi, rfl, hall⟩ := hrel
        have HA := Lib.hid hall
        clear hall
        by_cases hlt2 : i < n0 + 1
        · have d1 : decide ((i : Int) < ((n0 + 1 : Nat) : Int)) = true := by simp; omega
          have d1' : decide ((i : Int) < (n0 : Int) + 1) = true := by simp; omega
          have hil : i < L.length := by rw [HLN.out]; exact hlt2
          have hc1 : w1.cell? ⟨w.heap.size, i, none⟩ = some (.string L[i]) := by
            have := Cells.cell (hR1.at_ 0 rfl) (i := i) (by simp [hil])
            rwa [List.getElem_map] at this
          have HX : Hid (okName L[i].data.toList = false → pathB s = false) := Lib.hid (fun h => by
            rw [hPP.out]
            cases ha : L.all (fun p => okName p.data.toList) with
            | false => rfl
            | true => rw [List.all_eq_true.1 ha _ (List.getElem_mem hil)] at h; cases h)
          have HY : Hid (okName L[i].data.toList = true → ∀ j (hj : j < L.length), j < i + 1 → okName L[j].data.toList = true) := Lib.hid (fun h j hj h2 => by
            rcases Nat.lt_succ_iff_lt_or_eq.1 h2 with h4 | h4
            · exact HA.out j hj h4
            · subst h4; exact h)
          generalize L[i] = x at *
          cases h0 : (x.toList == []) with
          | true =>
            have h0' : x.toList.isEmpty = true := by simpa using h0
            have hv := Lib.hid (HX.out (by rw [okName_iff, h0]; rfl))
            go_wp2_with fail
            go_ret
            exact ⟨ret_bool hv.out.symm, (hR1.at_ 1 rfl).1⟩
          | false =>
            have h0' : x.toList.isEmpty = false := by simpa using h0
            cases h1 : (x.toList == [46]) with
            | true =>
              have hv := Lib.hid (HX.out (by rw [okName_iff, h0, h1]; rfl))
              go_wp2_with fail
              go_ret
              exact ⟨ret_bool hv.out.symm, (hR1.at_ 1 rfl).1⟩
            | false =>
              cases h2 : (x.toList == [46, 46]) with
              | true =>
                have hv := Lib.hid (HX.out (by rw [okName_iff, h0, h1, h2]; rfl))
                go_wp2_with fail
                go_ret
                exact ⟨ret_bool hv.out.symm, (hR1.at_ 1 rfl).1⟩
              | false =>
                have hv := Lib.hid (HY.out (by rw [okName_iff, h0, h1, h2]; rfl))
                go_wp2_with fail
                exact ⟨⟨i + 1, by omega, by go_num, hv.out⟩, by simp [intOf]; omega⟩
        · have d1 : decide ((i : Int) < ((n0 + 1 : Nat) : Int)) = false := by simp; omega
          have d1' : decide ((i : Int) < (n0 : Int) + 1) = false := by simp; omega
          have hv : Hid (pathB s = true) := Lib.hid (by
            rw [hPP.out, List.all_eq_true]
            intro x hx
            obtain ⟨j, hj, rfl⟩ := List.getElem_of_mem hx
            exact HA.out j hj (by rw [HLN.out] at hj; omega))
          go_wp2_with fail
          go_ret
          exact ⟨ret_bool hv.out.symm, (hR1.at_ 1 rfl).1⟩
end Go.Proofs.YtipepcjiogifaaaDoor

/- Layings of the shelf at this program, as the kit's lay-plain.mjs writes them. Scopes: both sides; the scope within a scope. -/
import Derived.Shelf.Strings.SplitShaped
import Derived.Shelf.LaysM
import Derived.Test.YtjdinakdkdjocaaGreatDoorProg
import Derived.Test.YtjdinakdkdjocaaGreatDoorGen2
import Derived.Test.YtjdinakdkdjocaaGreatDoorDocA
import Derived.IntWalk
import Derived.Deep.QuietTactic
set_option maxRecDepth 100000
namespace Go.Proofs
open Go.Shelf
def Tryz.lays146_ren : Go.Shelf.Ren := ⟨fun | 146 => 61 | 221 => 84 | 268 => 100 | 138 => 101 | 143 => 102 | 195 => 116 | 197 => 117 | 218 => 118 | 219 => 119 | 260 => 126 | 217 => 97 | 225 => 127 | 224 => 93 | 267 => 128 | 266 => 113 | 314 => 132 | n => n, fun | 9 => 9 | 31 => 27 | 3 => 3 | 4 => 4 | 0 => 0 | 105 => 128 | 21 => 21 | 5 => 5 | 46 => 110 | 119 => 157 | 139 => 160 | 138 => 159 | 146 => 147 | 51 => 146 | n => n, fun | 1 => 0 | 3 => 2 | 4 => 3 | n => n⟩
theorem Tryz.lays146 : Go.Proofs.Lays.n146 Tryz.prog Tryz.lays146_ren := {
  mixed := by kernel_rfl
  f138 := Tryz.func101.trans (congrArg some (by kernel_rfl))
  f143 := Tryz.func102.trans (congrArg some (by kernel_rfl))
  f146 := Tryz.func61.trans (congrArg some (by kernel_rfl))
  f195 := Tryz.func116.trans (congrArg some (by kernel_rfl))
  f197 := Tryz.func117.trans (congrArg some (by kernel_rfl))
  f217 := Tryz.func97.trans (congrArg some (by kernel_rfl))
  f218 := Tryz.func118.trans (congrArg some (by kernel_rfl))
  f219 := Tryz.func119.trans (congrArg some (by kernel_rfl))
  f221 := Tryz.func84.trans (congrArg some (by kernel_rfl))
  f224 := Tryz.func93.trans (congrArg some (by kernel_rfl))
  f225 := Tryz.func127.trans (congrArg some (by kernel_rfl))
  f260 := Tryz.func126.trans (congrArg some (by kernel_rfl))
  f266 := Tryz.func113.trans (congrArg some (by kernel_rfl))
  f267 := Tryz.func128.trans (congrArg some (by kernel_rfl))
  f268 := Tryz.func100.trans (congrArg some (by kernel_rfl))
  f314 := Tryz.func132.trans (congrArg some (by kernel_rfl))
  t0 := Tryz.underlying0
  a0 := Tryz.isAgg0
  z0 := Tryz.sizeOf0
  v0 := Tryz.zeroValue0
  t3 := Tryz.underlying3
  a3 := Tryz.isAgg3
  z3 := Tryz.sizeOf3
  v3 := Tryz.zeroValue3
  t4 := Tryz.underlying4
  a4 := Tryz.isAgg4
  z4 := Tryz.sizeOf4
  v4 := Tryz.zeroValue4
  t5 := Tryz.underlying5
  a5 := Tryz.isAgg5
  z5 := Tryz.sizeOf5
  v5 := Tryz.zeroValue5
  t9 := Tryz.underlying9
  a9 := Tryz.isAgg9
  z9 := Tryz.sizeOf9
  v9 := Tryz.zeroValue9
  t21 := Tryz.underlying21
  a21 := Tryz.isAgg21
  z21 := Tryz.sizeOf21
  v21 := Tryz.zeroValue21
  t31 := Tryz.underlying27
  a31 := Tryz.isAgg27
  z31 := Tryz.sizeOf27
  v31 := Tryz.zeroValue27
  t46 := Tryz.underlying110
  a46 := Tryz.isAgg110
  z46 := Tryz.sizeOf110
  v46 := Tryz.zeroValue110
  t51 := Tryz.underlying146
  a51 := Tryz.isAgg146
  z51 := Tryz.sizeOf146
  v51 := Tryz.zeroValue146
  t105 := Tryz.underlying128
  a105 := Tryz.isAgg128
  z105 := Tryz.sizeOf128
  v105 := Tryz.zeroValue128
  t119 := Tryz.underlying157
  a119 := Tryz.isAgg157
  z119 := Tryz.sizeOf157
  t138 := Tryz.underlying159
  a138 := Tryz.isAgg159
  z138 := Tryz.sizeOf159
  v138 := Tryz.zeroValue159
  t139 := Tryz.underlying160
  a139 := Tryz.isAgg160
  z139 := Tryz.sizeOf160
  v139 := Tryz.zeroValue160
  t146 := Tryz.underlying147
  a146 := Tryz.isAgg147
  z146 := Tryz.sizeOf147
  v146 := Tryz.zeroValue147
  g1 := by kernel_rfl
  g3 := by kernel_rfl
  g4 := by kernel_rfl }
def Tryz.laysM146_ren : Go.Shelf.Ren := ⟨fun | 146 => 61 | 221 => 84 | 268 => 100 | 138 => 101 | 143 => 102 | 195 => 116 | 197 => 117 | 218 => 118 | 219 => 119 | 260 => 126 | 217 => 97 | 225 => 127 | 224 => 93 | 267 => 128 | 266 => 113 | 314 => 132 | n => n, fun | 9 => 9 | 31 => 27 | 3 => 3 | 4 => 4 | 0 => 0 | 105 => 128 | 21 => 21 | 5 => 5 | 46 => 110 | 119 => 157 | 139 => 160 | 138 => 159 | 146 => 147 | 51 => 146 | n => n, fun | 1 => 0 | 3 => 2 | 4 => 3 | n => n⟩
theorem Tryz.laysM146 : Go.Proofs.LaysM.n146 Tryz.prog Tryz.laysM146_ren := {
  mixed := by kernel_rfl
  f138 := Tryz.func101.trans (congrArg some (by kernel_rfl))
  f143 := Tryz.func102.trans (congrArg some (by kernel_rfl))
  f146 := Tryz.func61.trans (congrArg some (by kernel_rfl))
  f195 := Tryz.func116.trans (congrArg some (by kernel_rfl))
  f197 := Tryz.func117.trans (congrArg some (by kernel_rfl))
  f217 := Tryz.func97.trans (congrArg some (by kernel_rfl))
  f218 := Tryz.func118.trans (congrArg some (by kernel_rfl))
  f219 := Tryz.func119.trans (congrArg some (by kernel_rfl))
  f221 := Tryz.func84.trans (congrArg some (by kernel_rfl))
  f224 := Tryz.func93.trans (congrArg some (by kernel_rfl))
  f225 := Tryz.func127.trans (congrArg some (by kernel_rfl))
  f260 := Tryz.func126.trans (congrArg some (by kernel_rfl))
  f266 := Tryz.func113.trans (congrArg some (by kernel_rfl))
  f267 := Tryz.func128.trans (congrArg some (by kernel_rfl))
  f268 := Tryz.func100.trans (congrArg some (by kernel_rfl))
  f314 := Tryz.func132.trans (congrArg some (by kernel_rfl))
  t0 := Tryz.underlying0
  a0 := Tryz.isAgg0
  z0 := Tryz.sizeOf0
  v0 := Tryz.zeroValue0
  t3 := Tryz.underlying3
  a3 := Tryz.isAgg3
  z3 := Tryz.sizeOf3
  v3 := Tryz.zeroValue3
  t4 := Tryz.underlying4
  a4 := Tryz.isAgg4
  z4 := Tryz.sizeOf4
  v4 := Tryz.zeroValue4
  t5 := Tryz.underlying5
  a5 := Tryz.isAgg5
  z5 := Tryz.sizeOf5
  v5 := Tryz.zeroValue5
  t9 := Tryz.underlying9
  a9 := Tryz.isAgg9
  z9 := Tryz.sizeOf9
  v9 := Tryz.zeroValue9
  t21 := Tryz.underlying21
  a21 := Tryz.isAgg21
  z21 := Tryz.sizeOf21
  v21 := Tryz.zeroValue21
  t31 := Tryz.underlying27
  a31 := Tryz.isAgg27
  z31 := Tryz.sizeOf27
  v31 := Tryz.zeroValue27
  t46 := Tryz.underlying110
  a46 := Tryz.isAgg110
  z46 := Tryz.sizeOf110
  v46 := Tryz.zeroValue110
  t51 := Tryz.underlying146
  a51 := Tryz.isAgg146
  z51 := Tryz.sizeOf146
  v51 := Tryz.zeroValue146
  t105 := Tryz.underlying128
  a105 := Tryz.isAgg128
  z105 := Tryz.sizeOf128
  v105 := Tryz.zeroValue128
  t119 := Tryz.underlying157
  a119 := Tryz.isAgg157
  z119 := Tryz.sizeOf157
  t138 := Tryz.underlying159
  a138 := Tryz.isAgg159
  z138 := Tryz.sizeOf159
  v138 := Tryz.zeroValue159
  t139 := Tryz.underlying160
  a139 := Tryz.isAgg160
  z139 := Tryz.sizeOf160
  v139 := Tryz.zeroValue160
  t146 := Tryz.underlying147
  a146 := Tryz.isAgg147
  z146 := Tryz.sizeOf147
  v146 := Tryz.zeroValue147
  g1 := by kernel_rfl
  g3 := by kernel_rfl
  g4 := by kernel_rfl
  i0 := by kernel_rfl
  i3 := by kernel_rfl
  i4 := by kernel_rfl
  i5 := by kernel_rfl
  i9 := by kernel_rfl
  i21 := by kernel_rfl
  i31 := by kernel_rfl
  i46 := by kernel_rfl
  i51 := by kernel_rfl
  i105 := by kernel_rfl
  i138 := by kernel_rfl
  i139 := by kernel_rfl
  i146 := by kernel_rfl
  m1 := by kernel_rfl
  s1_3 := fun w h => Go.Proofs.cell_of_shapedOpen_int (zero := #[.int .i64 0]) (t := 3) h (of_decide_eq_true (by kernel_rfl)) (by kernel_rfl) rfl (by kernel_rfl) (by kernel_rfl) Tryz.underlying3
  m3 := by kernel_rfl
  m4 := by kernel_rfl }
end Go.Proofs
set_option linter.unusedSimpArgs false
set_option linter.unusedVariables false
set_option maxRecDepth 100000
namespace Go.Adm
open Go Go.RowKit
theorem extract_size (s : ByteArray) (i j : Nat) : (s.extract i j).size ≤ s.size := by
  rw [ByteArray.size_extract]
  have := Nat.min_le_right j s.size
  omega
theorem parts_small (sep : ByteArray) : ∀ (k : Nat) (s p : ByteArray), p ∈ Lib.splitB sep 0 k s → p.size ≤ s.size
  | 0, s, p, h => by simp [Lib.splitB] at h; rw [h]; exact Nat.le_refl _
  | k + 1, s, p, h => by
    unfold Lib.splitB at h
    split at h
    · simp at h; rw [h]; exact Nat.le_refl _
    · rcases List.mem_cons.1 h with h | h
      · rw [h]; exact extract_size _ _ _
      · exact Nat.le_trans (parts_small sep k _ p h) (extract_size _ _ _)
def partsL (s : ByteArray) : List ByteArray := Lib.splitB ⟨#[47]⟩ 0 (Lib.countB s ⟨#[47]⟩) s
theorem partsL_small (s p : ByteArray) (h : p ∈ partsL s) : p.size ≤ s.size := parts_small _ _ s p h
theorem partsL_len (s : ByteArray) : (partsL s).length = Lib.countB s ⟨#[47]⟩ + 1 := Lib.splitB_all ⟨#[47]⟩ (by decide) 0 _ s rfl
end Go.Adm
namespace Go.Proofs.YtjdinakdkdjocaaGreatDoor
open Go Go.RowKit Go.Adm Go.Shelf
noncomputable def scopeB (s : ByteArray) : Bool := (s.toList == []) || ((partsL s).all nameB && decide ((partsL s).length ≤ 4))
def innerS (s t : ByteArray) : ByteArray := if (s.toList == []) = true then t else s ++ ⟨#[47]⟩ ++ t
theorem Split_slash (s : ByteArray) (m : Int) (w : World) (hs : s.size < 4294967281) (hm : w.cell? ⟨0, 0, none⟩ = some (.int .i64 m)) :
    Calls Tryz.prog 61 #[.string s, .string ⟨#[47]⟩] w fun e w' =>
      e = .returned (.slice (some ⟨w.heap.size, 0, none⟩) (partsL s).length (partsL s).length) ∧ w' = w.alloc (.cells ((partsL s).map Value.string).toArray 9) := by
  rw [partsL_len]
  exact Any.strings_Split Go.Proofs.Tryz.lays146 (by kernel_rfl) s ⟨#[47]⟩ m w hs hm (by decide)
set_option maxHeartbeats 3200000 in
theorem Scope_any (s : ByteArray) (w : World) (hs : s.size ≤ 1000000) (m : Int) (hm : w.cell? ⟨0, 0, none⟩ = some (.int .i64 m)) :
    Calls Tryz.prog 33 #[.string s] w fun e w' => e = .returned (.bool (scopeB s)) ∧ Below w.heap.size w w' := by
  have hR : All w [.kept w w.heap.size] := ⟨⟨Below.refl _ _, Nat.le_refl _⟩, trivial⟩
  cases q1 : (s.toList == []) with
  | true =>
    have h0' : s.toList.isEmpty = true := by simpa using q1
    have hv : scopeB s = true := by unfold scopeB; rw [q1]; rfl
    go_enter Tryz.func33, Tryz.ntmps33
    go_wp2_with fail
    go_ret
    exact ⟨ret_bool hv.symm, hR.1.1⟩
  | false =>
  have h0' : s.toList.isEmpty = false := by simpa using q1
  obtain ⟨L, hL⟩ : ∃ L, partsL s = L := ⟨_, rfl⟩
  have hP : Hid (scopeB s = (L.all nameB && decide (L.length ≤ 4))) := Lib.hid (by unfold scopeB; rw [q1, hL]; rfl)
  have hsm : Hid (∀ p ∈ L, p.size ≤ 140737488355328) := Lib.hid (fun p hp => by have := partsL_small s p (by rw [hL]; exact hp); omega)
  have hcS := Split_slash s m w (by omega) hm
  rw [hL] at hcS
  have hR1 := hR.new (l := L.map Value.string) (L.map Value.string).toArray 9 rfl (by simp)
  have hn1 : L.length ≤ 1000001 := by
    rw [← hL, partsL_len]
    have := Lib.countB_le ⟨#[47]⟩ (by decide) _ s (Nat.le_refl _)
    omega
  clear hL hs hR hm
  obtain ⟨n, hn⟩ : ∃ n, L.length = n := ⟨_, rfl⟩
  rw [hn] at hcS hn1
  have HN := Lib.hid hn
  clear hn
  go_enter Tryz.func33, Tryz.ntmps33
  go_wp2_with (go_at_call 61; refine hcS.mono ?_; rintro e w1 ⟨rfl, rfl⟩)
  clear hcS h0' q1
  refine wp_gen hR1 ?_
  intro w1 hI
  clear hR1
  go_wp2_with fail
  go_loop [12] (fun i => ∃ k : Nat, k ≤ n ∧ i = .int .i64 k ∧ ∀ j (hj : j < L.length), j < k → nameB L[j] = true) (fun i => n - (intOf i).toNat)
  case atStart => exact ⟨0, Nat.zero_le _, rfl, fun _ _ h => absurd h (by omega)⟩
  case round =>
    obtain ⟨i, hi, rfl, hall⟩ := hrel
    have HA := Lib.hid hall
    clear hall
    by_cases hlt2 : i < n
    · have d1 : decide ((i : Int) < (n : Int)) = true := by simp; omega
      have hil : i < L.length := by rw [HN.out]; exact hlt2
      have hc1 : w1.cell? ⟨w.heap.size, i, none⟩ = some (.string L[i]) := by
        have := Cells.cell (hI.at_ 0 rfl) (i := i) (by simp [hil])
        rwa [List.getElem_map] at this
      have HX : Hid (nameB L[i] = false → scopeB s = false) := Lib.hid (fun h => by
        rw [hP.out]
        cases ha : L.all nameB with
        | false => rfl
        | true => rw [List.all_eq_true.1 ha _ (List.getElem_mem hil)] at h; cases h)
      have HY : Hid (nameB L[i] = true → ∀ j (hj : j < L.length), j < i + 1 → nameB L[j] = true) := Lib.hid (fun h j hj h2 => by
        rcases Nat.lt_succ_iff_lt_or_eq.1 h2 with h4 | h4
        · exact HA.out j hj h4
        · subst h4; exact h)
      have HS := Lib.hid (hsm.out _ (List.getElem_mem hil))
      generalize L[i] = x at *
      clear hil
      cases h0 : nameB x with
      | false =>
        have hv := Lib.hid (HX.out h0)
        have hcn : Calls Tryz.prog 56 #[.string x] w1 fun e w' => e = .returned (.bool false) ∧ w1 = w' := by rw [← h0]; exact Name_any x w1 HS.out
        clear h0 HX HY
        go_wp2_with (go_at_call 56; refine hcn.mono ?_; rintro e w' ⟨rfl, rfl⟩)
        go_ret
        exact ⟨ret_bool hv.out.symm, (hI.at_ 1 rfl).1⟩
      | true =>
        have hv := Lib.hid (HY.out h0)
        have hcn : Calls Tryz.prog 56 #[.string x] w1 fun e w' => e = .returned (.bool true) ∧ w1 = w' := by rw [← h0]; exact Name_any x w1 HS.out
        clear h0 HX HY
        go_wp2_with (go_at_call 56; refine hcn.mono ?_; rintro e w' ⟨rfl, rfl⟩)
        exact ⟨⟨i + 1, by omega, by go_num, hv.out⟩, by simp [intOf]; omega⟩
    · have d1 : decide ((i : Int) < (n : Int)) = false := by simp; omega
      have ha : L.all nameB = true := by
        rw [List.all_eq_true]
        intro x hx
        obtain ⟨j, hj, rfl⟩ := List.getElem_of_mem hx
        exact HA.out j hj (by have := HN.out; omega)
      have hv : Hid (scopeB s = decide ((n : Int) ≤ 4)) := Lib.hid (by
        rw [hP.out, ha, HN.out, Bool.true_and]
        by_cases h4 : n ≤ 4
        · rw [decide_eq_true h4, decide_eq_true (by omega)]
        · rw [decide_eq_false h4, decide_eq_false (by omega)])
      clear ha
      go_wp2_with fail
      go_ret
      exact ⟨ret_bool (by rw [hv.out]), (hI.at_ 1 rfl).1⟩
set_option maxHeartbeats 3200000 in
theorem refScope_any (s : ByteArray) (w : World) (hs : s.size ≤ 1000000) (m : Int) (hm : w.cell? ⟨0, 0, none⟩ = some (.int .i64 m)) :
    Calls Tryz.prog 39 #[.string s] w fun e w' => e = .returned (.bool (scopeB s)) ∧ Below w.heap.size w w' := by
  have hR : All w [.kept w w.heap.size] := ⟨⟨Below.refl _ _, Nat.le_refl _⟩, trivial⟩
  cases q1 : (s.toList == []) with
  | true =>
    have h0' : s.toList.isEmpty = true := by simpa using q1
    have hv : scopeB s = true := by unfold scopeB; rw [q1]; rfl
    go_enter Tryz.func39, Tryz.ntmps39
    go_wp2_with fail
    go_ret
    exact ⟨ret_bool hv.symm, hR.1.1⟩
  | false =>
  have h0' : s.toList.isEmpty = false := by simpa using q1
  obtain ⟨L, hL⟩ : ∃ L, partsL s = L := ⟨_, rfl⟩
  have hP : Hid (scopeB s = (L.all nameB && decide (L.length ≤ 4))) := Lib.hid (by unfold scopeB; rw [q1, hL]; rfl)
  have hsm : Hid (∀ p ∈ L, p.size ≤ 140737488355328) := Lib.hid (fun p hp => by have := partsL_small s p (by rw [hL]; exact hp); omega)
  have hcS := Split_slash s m w (by omega) hm
  rw [hL] at hcS
  have hR1 := hR.new (l := L.map Value.string) (L.map Value.string).toArray 9 rfl (by simp)
  have hn1 : L.length ≤ 1000001 := by
    rw [← hL, partsL_len]
    have := Lib.countB_le ⟨#[47]⟩ (by decide) _ s (Nat.le_refl _)
    omega
  clear hL hs hR hm
  obtain ⟨n, hn⟩ : ∃ n, L.length = n := ⟨_, rfl⟩
  rw [hn] at hcS hn1
  have HN := Lib.hid hn
  clear hn
  go_enter Tryz.func39, Tryz.ntmps39
  go_wp2_with (go_at_call 61; refine hcS.mono ?_; rintro e w1 ⟨rfl, rfl⟩)
  clear hcS h0' q1
  refine wp_gen hR1 ?_
  intro w1 hI
  clear hR1
  go_wp2_with fail
  go_loop [4] (fun i => ∃ k : Nat, k ≤ n ∧ i = .int .i64 k ∧ ∀ j (hj : j < L.length), j < k → nameB L[j] = true) (fun i => n - (intOf i).toNat)
  case atStart => exact ⟨0, Nat.zero_le _, rfl, fun _ _ h => absurd h (by omega)⟩
  case round =>
    obtain ⟨i, hi, rfl, hall⟩ := hrel
    have HA := Lib.hid hall
    clear hall
    by_cases hlt2 : i < n
    · have d1 : decide ((i : Int) < (n : Int)) = true := by simp; omega
      have hil : i < L.length := by rw [HN.out]; exact hlt2
      have hc1 : w1.cell? ⟨w.heap.size, i, none⟩ = some (.string L[i]) := by
        have := Cells.cell (hI.at_ 0 rfl) (i := i) (by simp [hil])
        rwa [List.getElem_map] at this
      have HX : Hid (nameB L[i] = false → scopeB s = false) := Lib.hid (fun h => by
        rw [hP.out]
        cases ha : L.all nameB with
        | false => rfl
        | true => rw [List.all_eq_true.1 ha _ (List.getElem_mem hil)] at h; cases h)
      have HY : Hid (nameB L[i] = true → ∀ j (hj : j < L.length), j < i + 1 → nameB L[j] = true) := Lib.hid (fun h j hj h2 => by
        rcases Nat.lt_succ_iff_lt_or_eq.1 h2 with h4 | h4
        · exact HA.out j hj h4
        · subst h4; exact h)
      have HS := Lib.hid (hsm.out _ (List.getElem_mem hil))
      generalize L[i] = x at *
      clear hil
      cases h0 : nameB x with
      | false =>
        have hv := Lib.hid (HX.out h0)
        have hcn : Calls Tryz.prog 38 #[.string x] w1 fun e w' => e = .returned (.bool false) ∧ w1 = w' := by rw [← h0]; exact refName_any x w1 HS.out
        clear h0 HX HY
        go_wp2_with (go_at_call 38; refine hcn.mono ?_; rintro e w' ⟨rfl, rfl⟩)
        go_ret
        exact ⟨ret_bool hv.out.symm, (hI.at_ 1 rfl).1⟩
      | true =>
        have hv := Lib.hid (HY.out h0)
        have hcn : Calls Tryz.prog 38 #[.string x] w1 fun e w' => e = .returned (.bool true) ∧ w1 = w' := by rw [← h0]; exact refName_any x w1 HS.out
        clear h0 HX HY
        go_wp2_with (go_at_call 38; refine hcn.mono ?_; rintro e w' ⟨rfl, rfl⟩)
        exact ⟨⟨i + 1, by omega, by go_num, hv.out⟩, by simp [intOf]; omega⟩
    · have d1 : decide ((i : Int) < (n : Int)) = false := by simp; omega
      have ha : L.all nameB = true := by
        rw [List.all_eq_true]
        intro x hx
        obtain ⟨j, hj, rfl⟩ := List.getElem_of_mem hx
        exact HA.out j hj (by have := HN.out; omega)
      have hv : Hid (scopeB s = decide ((n : Int) ≤ 4)) := Lib.hid (by
        rw [hP.out, ha, HN.out, Bool.true_and]
        by_cases h4 : n ≤ 4
        · rw [decide_eq_true h4, decide_eq_true (by omega)]
        · rw [decide_eq_false h4, decide_eq_false (by omega)])
      clear ha
      go_wp2_with fail
      go_ret
      exact ⟨ret_bool (by rw [hv.out]), (hI.at_ 1 rfl).1⟩
end Go.Proofs.YtjdinakdkdjocaaGreatDoor

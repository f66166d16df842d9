/- Parsing of numbers on both sides. -/
import Derived.Test.YtjdinakdkdjocaaGreatDoorNum1
import Derived.Test.YtjdinakdkdjocaaGreatDoorDocA
import Derived.IntWalk
set_option linter.unusedSimpArgs false
set_option linter.unusedVariables false
set_option maxRecDepth 100000
namespace Go.Proofs.YtjdinakdkdjocaaGreatDoor
open Go Go.RowKit Go.Adm

set_option maxHeartbeats 3200000 in
theorem ParseN_any (s : ByteArray) (w : World) :
    Calls Tryz.prog 53 #[.string s] w fun e w' => e = .returned (.tuple #[.int .i64 (((parseS s.data.toList).getD 0 : Nat) : Int), .bool (parseS s.data.toList).isSome]) ∧ w' = w := by
  have hl : s.data.toList.length = s.size := Array.length_toList
  by_cases q1 : s.size < 1
  · have hv : Hid ((parseS s.data.toList) = none) := Lib.hid (by unfold parseS badLen; rw [decide_eq_true (by omega : s.data.toList.length < 1)]; rfl)
    have d1 : decide ((s.size : Int) < 1) = true := by simp; omega
    have d1' : (s.toList == []) = true := by rw [ByteArray.toList_eq, List.eq_nil_of_length_eq_zero (by omega : s.data.toList.length = 0)]; rfl
    have d1'' : s.toList.isEmpty = true := by simpa using d1'
    clear hl q1
    go_enter Tryz.func53, Tryz.ntmps53
    go_wp2_with fail
    go_ret2
    rw [hv.out]
    exact ⟨rfl, rfl⟩
  have d1 : decide ((s.size : Int) < 1) = false := by simp; omega
  have d1' : (s.toList == []) = false := by
    rw [ByteArray.toList_eq]
    cases h : s.data.toList with
    | nil => rw [h] at hl; simp at hl; omega
    | cons a b => rfl
  have d1'' : s.toList.isEmpty = false := by simpa using d1'
  by_cases q2 : 13 < s.size
  · have hv : Hid ((parseS s.data.toList) = none) := Lib.hid (by unfold parseS badLen; rw [decide_eq_true (by omega : 13 < s.data.toList.length)]; simp)
    have d2 : decide (13 < (s.size : Int)) = true := by simp; omega
    clear hl
    go_enter Tryz.func53, Tryz.ntmps53
    go_wp2_with fail
    go_ret2
    rw [hv.out]
    exact ⟨rfl, rfl⟩
  have d2 : decide (13 < (s.size : Int)) = false := by simp; omega
  have hs0 : 0 < s.size := by omega
  have hh : s.data.toList.head? = some s[0] := by
    rw [List.head?_eq_getElem?, List.getElem?_eq_getElem (by omega)]
    rfl
  cases q3 : ((s[0].toNat : Int) == 48) && decide (1 < (s.size : Int)) with
  | true =>
    simp only [Bool.and_eq_true] at q3
    obtain ⟨d4, d3⟩ := q3
    have hv : Hid ((parseS s.data.toList) = none) := Lib.hid (by
      unfold parseS badLen
      rw [hh, show s[0] = 48 from UInt8.toNat_inj.1 (by have := beq_iff_eq.1 d4; simp; omega), decide_eq_true (by have := of_decide_eq_true d3; omega : 1 < s.data.toList.length)]
      simp)
    clear hl hh
    go_enter Tryz.func53, Tryz.ntmps53
    go_wp2_with fail
    go_ret2
    rw [hv.out]
    exact ⟨rfl, rfl⟩
  | false =>
  have hbad : Hid (badLen s.data.toList = false) := Lib.hid (by
    unfold badLen
    rw [hh, decide_eq_false (by omega : ¬ s.data.toList.length < 1), decide_eq_false (by omega : ¬ 13 < s.data.toList.length)]
    by_cases h : 1 < s.data.toList.length
    · rw [decide_eq_true (by omega : 1 < (s.size : Int)), Bool.and_true] at q3
      have : s[0] ≠ 48 := fun e => by rw [e] at q3; simp at q3
      simp [this]
    · rw [decide_eq_false h]; simp)
  have HLN := Lib.hid hl
  have HS13 : Hid (s.size ≤ 13) := Lib.hid (by omega)
  clear hh
  go_enter Tryz.func53, Tryz.ntmps53
  cases d3 : decide (1 < (s.size : Int)) <;> cases d4 : ((s[0].toNat : Int) == 48) <;> (try (rw [d3, d4] at q3; cases q3)) <;> go_wp2_with fail
  all_goals
    clear hl d1 d1' d1'' d2
    go_loop [4, 5] (fun v i => ∃ (k v' : Nat), k ≤ s.size ∧ i = .int .i64 k ∧ v = .int .i64 v' ∧ valN (s.data.toList.take k) = v' ∧ (s.data.toList.take k).all isDg = true) (fun _ i => s.size - (intOf i).toNat)
    case atStart => exact ⟨0, 0, Nat.zero_le _, rfl, rfl, rfl, rfl⟩
    case round =>
      obtain ⟨k, v, hk, rfl, rfl, hval, hall⟩ := hrel
      have HVAL := Lib.hid hval
      have HALL := Lib.hid hall
      have hvlt : v < 10 ^ k := by
        rw [← hval]
        refine Nat.lt_of_lt_of_le (valN_lt _ hall) (Nat.pow_le_pow_right (by decide) ?_)
        rw [List.length_take]; omega
      clear hval hall
      by_cases hlt : k < s.size
      · have h13 := HS13.out
        have hv12 : v < 1000000000000 := Nat.lt_of_lt_of_le hvlt (by have h12 : 10 ^ k ≤ 10 ^ 12 := Nat.pow_le_pow_right (by decide) (by omega); exact Nat.le_trans h12 (by decide))
        have d5 : decide ((k : Int) < (s.size : Int)) = true := by simp; omega
        have hkl : k < s.data.toList.length := by rw [HLN.out]; exact hlt
        have HT : Hid (s.data.toList.take (k + 1) = s.data.toList.take k ++ [s[k]]) := Lib.hid (List.take_succ_eq_append_getElem hkl)
        have HBAD : Hid (isDg s[k] = false → (parseS s.data.toList) = none) := Lib.hid (fun h => by
          unfold parseS
          rw [hbad.out]
          have : s.data.toList.all isDg = false := by
            rw [List.all_eq_false]
            exact ⟨s[k], List.getElem_mem hkl, by rw [h]; decide⟩
          rw [this]
          rfl)
        clear hvlt h13
        cases q5 : decide ((s[k].toNat : Int) < 48) with
        | true =>
          have hv := Lib.hid (HBAD.out (by unfold isDg; rw [decide_eq_true (by have := of_decide_eq_true q5; omega : s[k].toNat < 48)]; rfl))
          go_wp2_with fail
          go_ret2
          rw [hv.out]
          exact ⟨rfl, rfl⟩
        | false =>
          cases q6 : decide (57 < (s[k].toNat : Int)) with
          | true =>
            have hv := Lib.hid (HBAD.out (by unfold isDg; rw [decide_eq_true (by have := of_decide_eq_true q6; omega : 57 < s[k].toNat)]; simp))
            go_wp2_with fail
            go_ret2
            rw [hv.out]
            exact ⟨rfl, rfl⟩
          | false =>
            have b1 : 48 ≤ s[k].toNat := by have := of_decide_eq_false q5; omega
            have b2 : s[k].toNat ≤ 57 := by have := of_decide_eq_false q6; omega
            have hdg : Hid (isDg s[k] = true) := Lib.hid (by unfold isDg; rw [decide_eq_false (by omega), decide_eq_false (by omega)]; rfl)
            have hval' : Hid (valN (s.data.toList.take (k + 1)) = 10 * v + (s[k].toNat - 48)) := Lib.hid (by rw [HT.out, valN_snoc, HVAL.out])
            have hall' : Hid ((s.data.toList.take (k + 1)).all isDg = true) := Lib.hid (by rw [HT.out, List.all_append, HALL.out, List.all_cons, hdg.out]; rfl)
            have w1 : IntKind.u8.wrap ((s[k].toNat : Int) - 48) = (s[k].toNat : Int) - 48 := IntWalk.u8_in _ (by omega)
            have w2 : IntKind.i64.wrap (10 * (v : Int)) = 10 * (v : Int) := IntWalk.i64_in _ (by omega)
            have w3 : IntKind.i64.wrap ((s[k].toNat : Int) - 48) = (s[k].toNat : Int) - 48 := IntWalk.i64_in _ (by omega)
            have w4 : IntKind.i64.wrap (10 * (v : Int) + ((s[k].toNat : Int) - 48)) = 10 * (v : Int) + ((s[k].toNat : Int) - 48) := IntWalk.i64_in _ (by omega)
            go_wp2_with fail
            refine ⟨⟨k + 1, 10 * v + (s[k].toNat - 48), by omega, by go_num, congrArg (Value.int .i64) (by omega), hval'.out, hall'.out⟩, by simp [intOf]; omega⟩
      · have d5 : decide ((k : Int) < (s.size : Int)) = false := by simp; omega
        have ht : s.data.toList.take k = s.data.toList := List.take_of_length_le (by rw [HLN.out]; omega)
        rw [ht] at HVAL HALL
        clear ht
        cases q7 : decide (1099511627776 < (v : Int)) with
        | true =>
          have hv : Hid ((parseS s.data.toList) = none) := Lib.hid (by unfold parseS; rw [hbad.out, HALL.out, HVAL.out]; simp only [Bool.false_eq_true, if_false, if_true]; rw [if_pos (by have := of_decide_eq_true q7; omega)])
          go_wp2_with fail
          go_ret2
          rw [hv.out]
          exact ⟨rfl, rfl⟩
        | false =>
          have hv : Hid ((parseS s.data.toList) = some v) := Lib.hid (by unfold parseS; rw [hbad.out, HALL.out, HVAL.out]; simp only [Bool.false_eq_true, if_false, if_true]; rw [if_neg (by have := of_decide_eq_false q7; omega)])
          go_wp2_with fail
          go_ret2
          rw [hv.out]
          exact ⟨rfl, rfl⟩
set_option maxHeartbeats 3200000 in
theorem refParseN_any (s : ByteArray) (w : World) :
    Calls Tryz.prog 27 #[.string s] w fun e w' => e = .returned (.tuple #[.int .i64 (((parseS s.data.toList).getD 0 : Nat) : Int), .bool (parseS s.data.toList).isSome]) ∧ w' = w := by
  have hl : s.data.toList.length = s.size := Array.length_toList
  by_cases q1 : s.size < 1
  · have hv : Hid ((parseS s.data.toList) = none) := Lib.hid (by unfold parseS badLen; rw [decide_eq_true (by omega : s.data.toList.length < 1)]; rfl)
    have d1 : decide ((s.size : Int) < 1) = true := by simp; omega
    have d1' : (s.toList == []) = true := by rw [ByteArray.toList_eq, List.eq_nil_of_length_eq_zero (by omega : s.data.toList.length = 0)]; rfl
    have d1'' : s.toList.isEmpty = true := by simpa using d1'
    clear hl q1
    go_enter Tryz.func27, Tryz.ntmps27
    go_wp2_with fail
    go_ret2
    rw [hv.out]
    exact ⟨rfl, rfl⟩
  have d1 : decide ((s.size : Int) < 1) = false := by simp; omega
  have d1' : (s.toList == []) = false := by
    rw [ByteArray.toList_eq]
    cases h : s.data.toList with
    | nil => rw [h] at hl; simp at hl; omega
    | cons a b => rfl
  have d1'' : s.toList.isEmpty = false := by simpa using d1'
  by_cases q2 : 13 < s.size
  · have hv : Hid ((parseS s.data.toList) = none) := Lib.hid (by unfold parseS badLen; rw [decide_eq_true (by omega : 13 < s.data.toList.length)]; simp)
    have d2 : decide (13 < (s.size : Int)) = true := by simp; omega
    clear hl
    go_enter Tryz.func27, Tryz.ntmps27
    go_wp2_with fail
    go_ret2
    rw [hv.out]
    exact ⟨rfl, rfl⟩
  have d2 : decide (13 < (s.size : Int)) = false := by simp; omega
  have hs0 : 0 < s.size := by omega
  have hh : s.data.toList.head? = some s[0] := by
    rw [List.head?_eq_getElem?, List.getElem?_eq_getElem (by omega)]
    rfl
  cases q3 : ((s[0].toNat : Int) == 48) && decide (1 < (s.size : Int)) with
  | true =>
    simp only [Bool.and_eq_true] at q3
    obtain ⟨d4, d3⟩ := q3
    have hv : Hid ((parseS s.data.toList) = none) := Lib.hid (by
      unfold parseS badLen
      rw [hh, show s[0] = 48 from UInt8.toNat_inj.1 (by have := beq_iff_eq.1 d4; simp; omega), decide_eq_true (by have := of_decide_eq_true d3; omega : 1 < s.data.toList.length)]
      simp)
    clear hl hh
    go_enter Tryz.func27, Tryz.ntmps27
    go_wp2_with fail
    go_ret2
    rw [hv.out]
    exact ⟨rfl, rfl⟩
  | false =>
  have hbad : Hid (badLen s.data.toList = false) := Lib.hid (by
    unfold badLen
    rw [hh, decide_eq_false (by omega : ¬ s.data.toList.length < 1), decide_eq_false (by omega : ¬ 13 < s.data.toList.length)]
    by_cases h : 1 < s.data.toList.length
    · rw [decide_eq_true (by omega : 1 < (s.size : Int)), Bool.and_true] at q3
      have : s[0] ≠ 48 := fun e => by rw [e] at q3; simp at q3
      simp [this]
    · rw [decide_eq_false h]; simp)
  have HLN := Lib.hid hl
  have HS13 : Hid (s.size ≤ 13) := Lib.hid (by omega)
  clear hh
  go_enter Tryz.func27, Tryz.ntmps27
  cases d3 : decide (1 < (s.size : Int)) <;> cases d4 : ((s[0].toNat : Int) == 48) <;> (try (rw [d3, d4] at q3; cases q3)) <;> go_wp2_with fail
  all_goals
    clear hl d1 d1' d1'' d2
    go_loop [4, 5] (fun v i => ∃ (k v' : Nat), k ≤ s.size ∧ i = .int .i64 k ∧ v = .int .i64 v' ∧ valN (s.data.toList.take k) = v' ∧ (s.data.toList.take k).all isDg = true) (fun _ i => s.size - (intOf i).toNat)
    case atStart => exact ⟨0, 0, Nat.zero_le _, rfl, rfl, rfl, rfl⟩
    case round =>
      obtain ⟨k, v, hk, rfl, rfl, hval, hall⟩ := hrel
      have HVAL := Lib.hid hval
      have HALL := Lib.hid hall
      have hvlt : v < 10 ^ k := by
        rw [← hval]
        refine Nat.lt_of_lt_of_le (valN_lt _ hall) (Nat.pow_le_pow_right (by decide) ?_)
        rw [List.length_take]; omega
      clear hval hall
      by_cases hlt : k < s.size
      · have h13 := HS13.out
        have hv12 : v < 1000000000000 := Nat.lt_of_lt_of_le hvlt (by have h12 : 10 ^ k ≤ 10 ^ 12 := Nat.pow_le_pow_right (by decide) (by omega); exact Nat.le_trans h12 (by decide))
        have d5 : decide ((k : Int) < (s.size : Int)) = true := by simp; omega
        have hkl : k < s.data.toList.length := by rw [HLN.out]; exact hlt
        have HT : Hid (s.data.toList.take (k + 1) = s.data.toList.take k ++ [s[k]]) := Lib.hid (List.take_succ_eq_append_getElem hkl)
        have HBAD : Hid (isDg s[k] = false → (parseS s.data.toList) = none) := Lib.hid (fun h => by
          unfold parseS
          rw [hbad.out]
          have : s.data.toList.all isDg = false := by
            rw [List.all_eq_false]
            exact ⟨s[k], List.getElem_mem hkl, by rw [h]; decide⟩
          rw [this]
          rfl)
        clear hvlt h13
        cases q5 : decide ((s[k].toNat : Int) < 48) with
        | true =>
          have hv := Lib.hid (HBAD.out (by unfold isDg; rw [decide_eq_true (by have := of_decide_eq_true q5; omega : s[k].toNat < 48)]; rfl))
          go_wp2_with fail
          go_ret2
          rw [hv.out]
          exact ⟨rfl, rfl⟩
        | false =>
          cases q6 : decide (57 < (s[k].toNat : Int)) with
          | true =>
            have hv := Lib.hid (HBAD.out (by unfold isDg; rw [decide_eq_true (by have := of_decide_eq_true q6; omega : 57 < s[k].toNat)]; simp))
            go_wp2_with fail
            go_ret2
            rw [hv.out]
            exact ⟨rfl, rfl⟩
          | false =>
            have b1 : 48 ≤ s[k].toNat := by have := of_decide_eq_false q5; omega
            have b2 : s[k].toNat ≤ 57 := by have := of_decide_eq_false q6; omega
            have hdg : Hid (isDg s[k] = true) := Lib.hid (by unfold isDg; rw [decide_eq_false (by omega), decide_eq_false (by omega)]; rfl)
            have hval' : Hid (valN (s.data.toList.take (k + 1)) = 10 * v + (s[k].toNat - 48)) := Lib.hid (by rw [HT.out, valN_snoc, HVAL.out])
            have hall' : Hid ((s.data.toList.take (k + 1)).all isDg = true) := Lib.hid (by rw [HT.out, List.all_append, HALL.out, List.all_cons, hdg.out]; rfl)
            have w1 : IntKind.u8.wrap ((s[k].toNat : Int) - 48) = (s[k].toNat : Int) - 48 := IntWalk.u8_in _ (by omega)
            have w2 : IntKind.i64.wrap (10 * (v : Int)) = 10 * (v : Int) := IntWalk.i64_in _ (by omega)
            have w3 : IntKind.i64.wrap ((s[k].toNat : Int) - 48) = (s[k].toNat : Int) - 48 := IntWalk.i64_in _ (by omega)
            have w4 : IntKind.i64.wrap (10 * (v : Int) + ((s[k].toNat : Int) - 48)) = 10 * (v : Int) + ((s[k].toNat : Int) - 48) := IntWalk.i64_in _ (by omega)
            go_wp2_with fail
            refine ⟨⟨k + 1, 10 * v + (s[k].toNat - 48), by omega, by go_num, congrArg (Value.int .i64) (by omega), hval'.out, hall'.out⟩, by simp [intOf]; omega⟩
      · have d5 : decide ((k : Int) < (s.size : Int)) = false := by simp; omega
        have ht : s.data.toList.take k = s.data.toList := List.take_of_length_le (by rw [HLN.out]; omega)
        rw [ht] at HVAL HALL
        clear ht
        cases q7 : decide (1099511627776 < (v : Int)) with
        | true =>
          have hv : Hid ((parseS s.data.toList) = none) := Lib.hid (by unfold parseS; rw [hbad.out, HALL.out, HVAL.out]; simp only [Bool.false_eq_true, if_false, if_true]; rw [if_pos (by have := of_decide_eq_true q7; omega)])
          go_wp2_with fail
          go_ret2
          rw [hv.out]
          exact ⟨rfl, rfl⟩
        | false =>
          have hv : Hid ((parseS s.data.toList) = some v) := Lib.hid (by unfold parseS; rw [hbad.out, HALL.out, HVAL.out]; simp only [Bool.false_eq_true, if_false, if_true]; rw [if_neg (by have := of_decide_eq_false q7; omega)])
          go_wp2_with fail
          go_ret2
          rw [hv.out]
          exact ⟨rfl, rfl⟩
end Go.Proofs.YtjdinakdkdjocaaGreatDoor

/- strings.Cut at a slash; pattern.Path. -/
import Derived.Test.YtipepcjiogifaaaDoorSnapMem
import Derived.Lib.Bytealg
set_option linter.unusedSimpArgs false
set_option linter.unusedVariables false
set_option maxRecDepth 100000
namespace Go.Adm
open Go Go.RowKit
def okName (l : List UInt8) : Bool := !(l == [] || (l == [46] || l == [46, 46]))
def namesOk (acc : List UInt8) : List UInt8 → Bool
  | [] => okName acc
  | b :: l => if b == 47 then okName acc && namesOk [] l else namesOk (acc ++ [b]) l
def pathB (s : ByteArray) : Bool := !decide (s.size < 1) && (!decide (200 < s.size) && (!decide (0 ≤ Lib.indexByte s.data.toList 0) && namesOk [] s.data.toList))
theorem idx_ge : ∀ (l : List UInt8) (c : UInt8), -1 ≤ Lib.indexByte l c
  | [], _ => by simp [Lib.indexByte]
  | b :: l, c => by
    have := idx_ge l c
    simp only [Lib.indexByte]
    split
    · omega
    · split
      · omega
      · omega
theorem names_none : ∀ (l acc : List UInt8), Lib.indexByte l 47 < 0 → namesOk acc l = okName (acc ++ l)
  | [], acc, _ => by simp [namesOk]
  | b :: l, acc, h => by
    simp only [Lib.indexByte] at h
    have hg := idx_ge l 47
    by_cases hb : (b == 47) = true
    · rw [if_pos hb] at h; omega
    · rw [if_neg hb] at h
      have h2 : Lib.indexByte l 47 < 0 := by
        by_cases h3 : (Lib.indexByte l 47 == -1) = true
        · have := beq_iff_eq.1 h3; omega
        · rw [if_neg h3] at h; omega
      rw [namesOk, if_neg hb, names_none l (acc ++ [b]) h2, List.append_assoc]
      rfl
theorem names_at : ∀ (l acc : List UInt8) (k : Nat), Lib.indexByte l 47 = (k : Int) → k < l.length ∧ namesOk acc l = (okName (acc ++ l.take k) && namesOk [] (l.drop (k + 1)))
  | [], acc, k, h => by simp [Lib.indexByte] at h
  | b :: l, acc, k, h => by
    simp only [Lib.indexByte] at h
    by_cases hb : (b == 47) = true
    · rw [if_pos hb] at h
      obtain rfl : k = 0 := by omega
      refine ⟨by simp, ?_⟩
      rw [namesOk, if_pos hb, List.take_zero, List.append_nil]
      rfl
    · rw [if_neg hb] at h
      by_cases h3 : (Lib.indexByte l 47 == -1) = true
      · rw [if_pos h3] at h; omega
      · rw [if_neg h3] at h
        obtain ⟨j, rfl⟩ : ∃ j, k = j + 1 := ⟨k - 1, by have := idx_ge l 47; have : Lib.indexByte l 47 ≠ -1 := fun e => h3 (by rw [e]; rfl); omega⟩
        obtain ⟨h4, h5⟩ := names_at l (acc ++ [b]) j (by omega)
        exact ⟨by simp; omega, by rw [namesOk, if_neg hb, h5, List.take_succ_cons, List.drop_succ_cons, List.append_assoc]; rfl⟩
def pathM (r m : Value) : Nat := match m, r with
  | .bool true, .string s => s.size + 1
  | _, _ => 0
theorem okName_iff (nm : ByteArray) : okName nm.data.toList = (!(nm.toList == []) && (!(nm.toList == [46]) && !(nm.toList == [46, 46]))) := by
  rw [ByteArray.toList_eq, okName, Bool.not_or, Bool.not_or]
theorem ext_take (s : ByteArray) (k : Nat) (hk : k ≤ s.size) : (s.extract 0 k).data.toList = s.data.toList.take k := by
  rw [ByteArray.data_extract, Array.toList_extract]
  simp
theorem ext_drop (s : ByteArray) (k : Nat) : (s.extract k s.size).data.toList = s.data.toList.drop k := by
  rw [ByteArray.data_extract, Array.toList_extract]
  rw [List.extract_eq_take_drop, List.take_of_length_le]
  rw [List.length_drop]
  exact Nat.le_refl _
end Go.Adm
namespace Go.Proofs.YtipepcjiogifaaaDoor
open Go Go.RowKit Go.Adm

theorem lIndexByte_any (s : ByteArray) (c : UInt8) (w : World) :
    Calls Tryd.prog 58 #[.string s, .int .u8 c.toNat] w fun e w' => e = .returned (.int .i64 (Lib.indexByte s.data.toList c)) ∧ w' = w := by
  go_enter Tryd.func58, Tryd.ntmps58
  go_wp2
  rw [run_callFunc_extern Tryd.func76 (by kernel_rfl) (by kernel_rfl) (by kernel_rfl) (e := Extern.BytealgIndexByte.indexByte) (by kernel_rfl), Lib.run_indexByteString]
  simp only [Result.andThen]
  rw [Oper.upon_value]
  go_wp2
  go_ret
  exact ⟨ret_int (by simp), rfl⟩
theorem Index_slash (s : ByteArray) (w : World) :
    Calls Tryd.prog 77 #[.string s, .string ⟨#[47]⟩] w fun e w' => e = .returned (.int .i64 (Lib.indexByte s.data.toList 47)) ∧ w' = w := by
  cases hq : ([47] == s.toList) with
  | true =>
    have hv : Hid (Lib.indexByte s.data.toList 47 = 0) := Lib.hid (by
      have := beq_iff_eq.1 hq
      rw [ByteArray.toList_eq] at this
      rw [← this]; rfl)
    go_enter Tryd.func77, Tryd.ntmps77
    go_wp2_with fail
    go_ret
    exact ⟨ret_int hv.out.symm, rfl⟩
  | false =>
    go_enter Tryd.func77, Tryd.ntmps77
    go_wp2_with fail
    refine (lIndexByte_any s 47 w).mono ?_
    rintro e w' ⟨rfl, rfl⟩
    go_wp2_with fail
    go_ret
    exact ⟨rfl, rfl⟩
theorem lCut_slash (s : ByteArray) (w : World) (k : Nat) (hk : Lib.indexByte s.data.toList 47 = (k : Int)) (hs : k < s.size) (hb : s.size ≤ 140737488355328) :
    Calls Tryd.prog 59 #[.string s, .string ⟨#[47]⟩] w fun e w' => e = .returned (.tuple #[.string (s.extract 0 k), .string (s.extract (k + 1) s.size), .bool true]) ∧ Below w.heap.size w w' := by
  have d1 : decide (0 ≤ (k : Int)) = true := by simp
  have w1 : IntKind.i64.wrap ((k : Int) + 1) = (k : Int) + 1 := IntWalk.i64_in _ (by omega)
  have k1 : (0 : Int) ≤ (k : Int) := by omega
  have k2 : ((k : Int)).toNat = k := by omega
  have k3 : k ≤ s.size := by omega
  have k4 : (0 : Int) ≤ (k : Int) + 1 := by omega
  have k5 : ((k : Int) + 1).toNat = k + 1 := by omega
  have k6 : k + 1 ≤ s.size := by omega
  go_enter Tryd.func59, Tryd.ntmps59
  go_wp2_with (go_at_call 77; refine (Index_slash _ _).mono ?_; rintro e w' ⟨rfl, rfl⟩)
  go_quiet (fail)
  go_wp2
  go_ret3
  exact ⟨rfl, below_drewN' (Below.refl _ _) _⟩
theorem lCut_none (s : ByteArray) (w : World) (hk : Lib.indexByte s.data.toList 47 < 0) :
    Calls Tryd.prog 59 #[.string s, .string ⟨#[47]⟩] w fun e w' => e = .returned (.tuple #[.string s, .string ⟨#[]⟩, .bool false]) ∧ Below w.heap.size w w' := by
  have d1 : decide (0 ≤ Lib.indexByte s.data.toList 47) = false := by simp; omega
  go_enter Tryd.func59, Tryd.ntmps59
  go_wp2_with (go_at_call 77; refine (Index_slash _ _).mono ?_; rintro e w' ⟨rfl, rfl⟩)
  go_ret3
  exact ⟨rfl, Below.refl _ _⟩
theorem Cut_slash (s : ByteArray) (w : World) (k : Nat) (hk : Lib.indexByte s.data.toList 47 = (k : Int)) (hs : k < s.size) (hb : s.size ≤ 140737488355328) :
    Calls Tryd.prog 40 #[.string s, .string ⟨#[47]⟩] w fun e w' => e = .returned (.tuple #[.string (s.extract 0 k), .string (s.extract (k + 1) s.size), .bool true]) ∧ Below w.heap.size w w' := by
  go_enter Tryd.func40, Tryd.ntmps40
  go_wp2_with (go_at_call 59; refine (lCut_slash _ _ k hk hs hb).mono ?_; rintro e w' ⟨rfl, hb'⟩)
  go_ret3
  exact ⟨rfl, hb'⟩
theorem Cut_none (s : ByteArray) (w : World) (hk : Lib.indexByte s.data.toList 47 < 0) :
    Calls Tryd.prog 40 #[.string s, .string ⟨#[47]⟩] w fun e w' => e = .returned (.tuple #[.string s, .string ⟨#[]⟩, .bool false]) ∧ Below w.heap.size w w' := by
  go_enter Tryd.func40, Tryd.ntmps40
  go_wp2_with (go_at_call 59; refine (lCut_none _ _ hk).mono ?_; rintro e w' ⟨rfl, hb'⟩)
  go_ret3
  exact ⟨rfl, hb'⟩
theorem IndexByte_any (s : ByteArray) (c : UInt8) (w : World) :
    Calls Tryd.prog 39 #[.string s, .int .u8 c.toNat] w fun e w' => e = .returned (.int .i64 (Lib.indexByte s.data.toList c)) ∧ w' = w := by
  go_enter Tryd.func39, Tryd.ntmps39
  go_wp2_with (go_at_call 58; refine (lIndexByte_any _ _ _).mono ?_; rintro e w' ⟨rfl, rfl⟩)
  go_ret
  exact ⟨rfl, rfl⟩

set_option maxRecDepth 100000 in
set_option maxHeartbeats 3200000 in
theorem Path_any (s : ByteArray) (w : World) (hs : s.size ≤ 140737488355328) :
    Calls Tryd.prog 26 #[.string s] w fun e w' => e = .returned (.bool (pathB s)) ∧ Below w.heap.size w w' := by
  have hR : All w [.kept w w.heap.size] := ⟨⟨Below.refl _ _, Nat.le_refl _⟩, trivial⟩
  by_cases q1 : s.size < 1
  · have d1 : decide ((s.size : Int) < 1) = true := by simp; omega
    have hv : pathB s = false := by simp [pathB, q1]
    go_enter Tryd.func26, Tryd.ntmps26
    go_wp2_with fail
    go_ret
    exact ⟨ret_bool hv.symm, hR.1.1⟩
  · have d1 : decide ((s.size : Int) < 1) = false := by simp; omega
    by_cases q2 : 200 < s.size
    · have d2 : decide (200 < (s.size : Int)) = true := by simp; omega
      have hv : pathB s = false := by simp [pathB, q2]
      go_enter Tryd.func26, Tryd.ntmps26
      go_wp2_with fail
      go_ret
      exact ⟨ret_bool hv.symm, hR.1.1⟩
    · have d2 : decide (200 < (s.size : Int)) = false := by simp; omega
      by_cases q3 : 0 ≤ Lib.indexByte s.data.toList 0
      · have d3 : decide (0 ≤ Lib.indexByte s.data.toList 0) = true := by simpa using q3
        have hv : pathB s = false := by simp [pathB, q3]
        go_enter Tryd.func26, Tryd.ntmps26
        go_wp2_with (go_at_call 39; refine (IndexByte_any _ 0 _).mono ?_; rintro e w1 ⟨rfl, hw1⟩; subst w1)
        go_ret
        exact ⟨ret_bool hv.symm, hR.1.1⟩
      · have d3 : decide (0 ≤ Lib.indexByte s.data.toList 0) = false := by simpa using q3
        have hv : pathB s = namesOk [] s.data.toList := by simp [pathB, q1, q2, q3]
        go_enter Tryd.func26, Tryd.ntmps26
        go_wp2_with (go_at_call 39; refine (IndexByte_any _ 0 _).mono ?_; rintro e w1 ⟨rfl, hw1⟩; subst w1)
        clear d1 d2 d3 q1 q2 q3
        have hI0 := hR
        obtain ⟨l0, hl0⟩ : ∃ l0, l0 = s.data.toList := ⟨_, rfl⟩
        rw [← hl0] at hv
        have HV := Lib.hid hv
        clear hv hR
        go_loopw [0, 3] (fun r m wr => ∃ (s' : ByteArray) (mb : Bool), r = .string s' ∧ m = .bool mb ∧ s'.size ≤ 140737488355328 ∧ (mb = true → namesOk [] l0 = namesOk [] s'.data.toList) ∧ (mb = false → namesOk [] l0 = true) ∧ All wr [.kept w w.heap.size]) (fun r m _ => pathM r m)
        case atStart => exact ⟨s, true, rfl, rfl, hs, fun _ => by rw [hl0], fun h => (by cases h), hI0⟩
        case round =>
        obtain ⟨s', mb, rfl, rfl, hsz, ht, hf, hI⟩ := hrel
        clear hI0 hl0
        cases mb with
        | false =>
          have hL := Lib.hid (hf rfl)
          clear hf ht
          go_wp2_with fail
          go_ret
          exact ⟨ret_bool (by rw [HV.out, hL.out]), hI.1.1⟩
        | true =>
        have hL2 := ht rfl
        have HL : Hid (pathB s = namesOk [] s'.data.toList) := Lib.hid (by rw [HV.out, hL2])
        have HL3 := Lib.hid hL2
        clear hf ht hL2
        have hcc : Lib.indexByte s'.data.toList 47 < 0 ∨ ∃ k : Nat, Lib.indexByte s'.data.toList 47 = (k : Int) := by
          have := idx_ge s'.data.toList 47
          by_cases h : Lib.indexByte s'.data.toList 47 < 0
          · exact .inl h
          · exact .inr ⟨(Lib.indexByte s'.data.toList 47).toNat, by omega⟩
        rcases hcc with hk | ⟨k, hk⟩
        · have HN : Hid (namesOk [] s'.data.toList = okName s'.data.toList) := Lib.hid (names_none _ [] hk)
          cases h0 : (s'.toList == []) with
          | true =>
            have h0' : s'.toList.isEmpty = true := by simpa using h0
            have hok : okName s'.data.toList = false := by rw [okName_iff, h0]; rfl
            go_wp2_with (first | (go_at_call 40; refine (Cut_none s' _ hk).mono ?_; rintro e w' ⟨rfl, hb'⟩; have hI2 := hI.call hb'))
            go_ret
            exact ⟨ret_bool (by rw [HL.out, HN.out, hok] <;> rfl), hI2.1.1⟩
          | false =>
            have h0' : s'.toList.isEmpty = false := by simpa using h0
            cases h1 : (s'.toList == [46]) with
            | true =>
              have hok : okName s'.data.toList = false := by rw [okName_iff, h0, h1]; rfl
              go_wp2_with (first | (go_at_call 40; refine (Cut_none s' _ hk).mono ?_; rintro e w' ⟨rfl, hb'⟩; have hI2 := hI.call hb'))
              go_ret
              exact ⟨ret_bool (by rw [HL.out, HN.out, hok] <;> rfl), hI2.1.1⟩
            | false =>
              cases h2 : (s'.toList == [46, 46]) with
              | true =>
                have hok : okName s'.data.toList = false := by rw [okName_iff, h0, h1, h2]; rfl
                go_wp2_with (first | (go_at_call 40; refine (Cut_none s' _ hk).mono ?_; rintro e w' ⟨rfl, hb'⟩; have hI2 := hI.call hb'))
                go_ret
                exact ⟨ret_bool (by rw [HL.out, HN.out, hok] <;> rfl), hI2.1.1⟩
              | false =>
                have hok : okName s'.data.toList = true := by rw [okName_iff, h0, h1, h2]; rfl
                go_wp2_with (first | (go_at_call 40; refine (Cut_none s' _ hk).mono ?_; rintro e w' ⟨rfl, hb'⟩; have hI2 := hI.call hb'))
                refine ⟨⟨⟨#[]⟩, false, rfl, rfl, by decide, fun h => (by cases h), fun _ => ?_, hI2⟩, ?_⟩
                · rw [HL3.out, HN.out, hok]
                · simp only [pathM]; omega
        · obtain ⟨hkl, hn⟩ := names_at _ [] k hk
          have hks : k < s'.size := hkl
          have HN : Hid (namesOk [] s'.data.toList = (okName (s'.extract 0 k).data.toList && namesOk [] (s'.data.toList.drop (k + 1)))) := Lib.hid (by rw [hn, ext_take _ _ (by omega)]; rfl)
          clear hn hkl
          cases h0 : ((s'.extract 0 k).toList == []) with
          | true =>
            have h0' : (s'.extract 0 k).toList.isEmpty = true := by simpa using h0
            have hok : okName (s'.extract 0 k).data.toList = false := by rw [okName_iff, h0]; rfl
            go_wp2_with (first | (go_at_call 40; refine (Cut_slash s' _ k hk hks hsz).mono ?_; rintro e w' ⟨rfl, hb'⟩; have hI2 := hI.call hb'))
            go_ret
            exact ⟨ret_bool (by rw [HL.out, HN.out, hok] <;> rfl), hI2.1.1⟩
          | false =>
            have h0' : (s'.extract 0 k).toList.isEmpty = false := by simpa using h0
            cases h1 : ((s'.extract 0 k).toList == [46]) with
            | true =>
              have hok : okName (s'.extract 0 k).data.toList = false := by rw [okName_iff, h0, h1]; rfl
              go_wp2_with (first | (go_at_call 40; refine (Cut_slash s' _ k hk hks hsz).mono ?_; rintro e w' ⟨rfl, hb'⟩; have hI2 := hI.call hb'))
              go_ret
              exact ⟨ret_bool (by rw [HL.out, HN.out, hok] <;> rfl), hI2.1.1⟩
            | false =>
              cases h2 : ((s'.extract 0 k).toList == [46, 46]) with
              | true =>
                have hok : okName (s'.extract 0 k).data.toList = false := by rw [okName_iff, h0, h1, h2]; rfl
                go_wp2_with (first | (go_at_call 40; refine (Cut_slash s' _ k hk hks hsz).mono ?_; rintro e w' ⟨rfl, hb'⟩; have hI2 := hI.call hb'))
                go_ret
                exact ⟨ret_bool (by rw [HL.out, HN.out, hok] <;> rfl), hI2.1.1⟩
              | false =>
                have hok : okName (s'.extract 0 k).data.toList = true := by rw [okName_iff, h0, h1, h2]; rfl
                go_wp2_with (first | (go_at_call 40; refine (Cut_slash s' _ k hk hks hsz).mono ?_; rintro e w' ⟨rfl, hb'⟩; have hI2 := hI.call hb'))
                refine ⟨⟨s'.extract (k + 1) s'.size, true, rfl, rfl, by rw [ByteArray.size_extract]; omega, fun _ => ?_, fun h => (by cases h), hI2⟩, ?_⟩
                · rw [HL3.out, HN.out, hok, ext_drop]; rfl
                · simp only [pathM, ByteArray.size_extract]; omega
end Go.Proofs.YtipepcjiogifaaaDoor

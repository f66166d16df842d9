/- The walks over package document and its reference: names, lines, documents. -/
import Derived.Test.YtfakjamocpamiaaDoc1
set_option linter.unusedSimpArgs false
set_option linter.unusedVariables false
namespace Go.Proofs.Ytfakjamocpamiaa
open Go Go.RowKit Go.Adm

def nameC (c : Int) : Bool := (decide (97 ≤ c) && decide (c ≤ 122)) || (decide (48 ≤ c) && decide (c ≤ 57))
def nameX (c : Int) : Bool := decide (c = 46) || decide (c = 95) || decide (c = 45)
def okAt (k : Nat) (c : UInt8) : Bool := nameC c.toNat || (decide (0 < k) && nameX c.toNat)
def nameP (s : ByteArray) : Prop := 1 ≤ s.size ∧ s.size ≤ 64 ∧ ∀ k (h : k < s.size), okAt k s[k] = true
open Classical in
noncomputable def nameB (s : ByteArray) : Bool := decide (nameP s)
theorem nameB_yes {s : ByteArray} (h : nameP s) : nameB s = true := by simp [nameB, h]
theorem nameB_no {s : ByteArray} (h : ¬ nameP s) : nameB s = false := by simp [nameB, h]

set_option maxHeartbeats 400000 in
theorem Name_any (s : ByteArray) (w : World) (hs : s.size ≤ 140737488355328) :
    Calls Try.prog 25 #[.string s] w fun e w' => e = .returned (.bool (nameB s)) ∧ w = w' := by
  by_cases hb : 1 ≤ s.size ∧ s.size ≤ 64
  · obtain ⟨h1, h2⟩ := hb
    go_enter Try.func25, Try.ntmps25
    go_wp2
    go_loop [3] (fun i => ∃ k : Nat, k ≤ s.size ∧ i = .int .i64 k ∧ ∀ j (h : j < s.size), j < k → okAt j s[j] = true) (fun i => s.size - (intOf i).toNat)
    case atStart => exact ⟨0, Nat.zero_le _, rfl, fun _ _ h => absurd h (by omega)⟩
    case round =>
      obtain ⟨k, hk, rfl, hall⟩ := hrel
      have Hall := Lib.hid hall
      clear hall
      by_cases hlt : k < s.size
      · have hb := byte_lt s[k]
        have hok : ∀ b, okAt k s[k] = b → Hid (okAt k s[k] = b) := fun _ h => Lib.hid h
        by_cases h0 : 0 < k
        all_goals
          go_wp2
          all_goals
            first
            | (go_round
               case rel => exact ⟨k + 1, by omega, by go_num, fun j h hj => by
                 rcases Nat.lt_succ_iff_lt_or_eq.1 hj with h3 | h3
                 · exact Hall.out j h h3
                 · subst h3
                   try simp only [Bool.not_eq_true, Bool.not_eq_false, Bool.not_eq_true', Bool.not_eq_false', Bool.or_eq_true, Bool.or_eq_false_iff, decide_eq_true_eq, decide_eq_false_iff_not, beq_iff_eq, beq_eq_false_iff_ne, ne_eq] at *
                   simp [okAt, nameC, nameX]
                   omega⟩
               case measure => simp [intOf]; omega)
            | (go_ret
               refine ⟨ret_bool (nameB_no fun hp => ?_).symm, rfl⟩
               have := hp.2.2 k hlt
               simp [okAt, nameC, nameX] at this
               try simp only [Bool.not_eq_true, Bool.not_eq_false, Bool.not_eq_true', Bool.not_eq_false', Bool.or_eq_true, Bool.or_eq_false_iff, decide_eq_true_eq, decide_eq_false_iff_not, beq_iff_eq, beq_eq_false_iff_ne, ne_eq] at *
               omega)
      · go_wp2
        go_ret
        exact ⟨ret_bool (nameB_yes ⟨h1, h2, fun j h => Hall.out j h (by omega)⟩).symm, rfl⟩
  · have hn : Hid (nameB s = false) := Lib.hid (nameB_no fun hp => hb ⟨hp.1, hp.2.1⟩)
    rcases Nat.lt_or_ge s.size 1 with h1 | h1
    · go_enter Try.func25, Try.ntmps25
      go_wp2
      go_ret
      exact ⟨ret_bool hn.out.symm, rfl⟩
    · have h2 : 64 < s.size := by omega
      go_enter Try.func25, Try.ntmps25
      go_wp2
      go_ret
      exact ⟨ret_bool hn.out.symm, rfl⟩

set_option maxHeartbeats 400000 in
theorem refName_any (s : ByteArray) (w : World) (hs : s.size ≤ 140737488355328) :
    Calls Try.prog 29 #[.string s] w fun e w' => e = .returned (.bool (nameB s)) ∧ w = w' := by
  by_cases hb : 1 ≤ s.size ∧ s.size ≤ 64
  · obtain ⟨h1, h2⟩ := hb
    have hem : s.toList.isEmpty = false := by rw [ByteArray.toList_eq]; simp; intro he; have : s.size = 0 := by rw [← bs_len, bs, he]; rfl
                                              omega
    by_cases hx : nameX s[0].toNat = true
    · have hn : Hid (nameB s = false) := Lib.hid (nameB_no fun hp => by
        have := hp.2.2 0 (by omega)
        simp [okAt] at this
        simp [nameC, nameX] at this hx
        omega)
      simp only [nameX, Bool.or_eq_true, decide_eq_true_eq] at hx
      have hx' := Lib.hid hx
      clear hx
      rcases hx'.out with (hx | hx) | hx
      all_goals
        clear hx'
        go_enter Try.func29, Try.ntmps29
        go_wp2
        go_ret
        exact ⟨ret_bool hn.out.symm, rfl⟩
    · have HX : Hid (¬ nameX s[0].toNat = true) := Lib.hid hx
      have hx1 : ((s[0].toNat : Int) == 46) = false := by simp [nameX] at hx; simp; omega
      have hx2 : ((s[0].toNat : Int) == 95) = false := by simp [nameX] at hx; simp; omega
      have hx3 : ((s[0].toNat : Int) == 45) = false := by simp [nameX] at hx; simp; omega
      clear hx
      go_enter Try.func29, Try.ntmps29
      go_wp2
      go_loop [3] (fun i => ∃ k : Nat, k ≤ s.size ∧ i = .int .i64 k ∧ ∀ j (h : j < s.size), j < k → okAt j s[j] = true) (fun i => s.size - (intOf i).toNat)
      case atStart => exact ⟨0, Nat.zero_le _, rfl, fun _ _ h => absurd h (by omega)⟩
      case round =>
        obtain ⟨k, hk, rfl, hall⟩ := hrel
        have Hall := Lib.hid hall
        clear hall hx1 hx2 hx3
        by_cases hlt : k < s.size
        · have hb := byte_lt s[k]
          go_wp2
          all_goals
            first
            | (go_round
               case rel => exact ⟨k + 1, by omega, by go_num, fun j h hj => by
                 rcases Nat.lt_succ_iff_lt_or_eq.1 hj with h3 | h3
                 · exact Hall.out j h h3
                 · subst h3
                   rcases Nat.eq_zero_or_pos j with h0 | h0
                   · subst h0
                     have hx := HX.out
                     try simp only [Bool.not_eq_true, Bool.not_eq_false, Bool.not_eq_true', Bool.not_eq_false', Bool.or_eq_true, Bool.or_eq_false_iff, decide_eq_true_eq, decide_eq_false_iff_not, beq_iff_eq, beq_eq_false_iff_ne, ne_eq] at *
                     simp [okAt, nameC, nameX] at *
                     omega
                   · try simp only [Bool.not_eq_true, Bool.not_eq_false, Bool.not_eq_true', Bool.not_eq_false', Bool.or_eq_true, Bool.or_eq_false_iff, decide_eq_true_eq, decide_eq_false_iff_not, beq_iff_eq, beq_eq_false_iff_ne, ne_eq] at *
                     simp [okAt, nameC, nameX]
                     omega⟩
               case measure => simp [intOf]; omega)
            | (go_ret
               refine ⟨ret_bool (nameB_no fun hp => ?_).symm, rfl⟩
               have := hp.2.2 k hlt
               simp [okAt, nameC, nameX] at this
               try simp only [Bool.not_eq_true, Bool.not_eq_false, Bool.not_eq_true', Bool.not_eq_false', Bool.or_eq_true, Bool.or_eq_false_iff, decide_eq_true_eq, decide_eq_false_iff_not, beq_iff_eq, beq_eq_false_iff_ne, ne_eq] at *
               omega)
        · go_wp2
          go_ret
          exact ⟨ret_bool (nameB_yes ⟨h1, h2, fun j h => Hall.out j h (by omega)⟩).symm, rfl⟩
  · have hn : Hid (nameB s = false) := Lib.hid (nameB_no fun hp => hb ⟨hp.1, hp.2.1⟩)
    rcases Nat.lt_or_ge s.size 1 with h1 | h1
    · have hem : s.toList.isEmpty = true := by
        rw [ByteArray.toList_eq, List.eq_nil_of_length_eq_zero (show s.data.toList.length = 0 by have := bs_len s; simp only [bs] at this; omega)]; rfl
      go_enter Try.func29, Try.ntmps29
      go_wp2
      go_ret
      exact ⟨ret_bool hn.out.symm, rfl⟩
    · have h2 : 64 < s.size := by omega
      have hem : s.toList.isEmpty = false := by rw [ByteArray.toList_eq]; simp; intro he; have : s.size = 0 := by rw [← bs_len, bs, he]; rfl
                                                omega
      go_enter Try.func29, Try.ntmps29
      go_wp2
      go_ret
      exact ⟨ret_bool hn.out.symm, rfl⟩
end Go.Proofs.Ytfakjamocpamiaa

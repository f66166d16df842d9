/- The law on numbers: the walk. -/
import Derived.Test.YtgmbonpobgedpaaDoorNum2
import Derived.Test.YtgmbonpobgedpaaDoorNum3
import Derived.Test.YtgmbonpobgedpaaDoorDoc6
set_option linter.unusedSimpArgs false
set_option linter.unusedVariables false
set_option maxRecDepth 100000
namespace Go.Proofs.YtgmbonpobgedpaaDoor
open Go Go.RowKit Go.Adm

theorem bool_eta2 {a b : Bool} (h : a = b) : Ending.returned (.bool a) = .returned (.bool b) := by rw [h]

set_option maxHeartbeats 1600000 in
theorem walkNumbers (n : Int) (s : ByteArray) (w : World) (h0 : -9223372036854775808 ≤ n) (h1 : n ≤ 9223372036854775807) (ht : Lib.TabIs Tryd.prog w "internal/strconv.uint64pow10" .u64 Lib.pow10Tab) :
    Calls Tryd.prog 3 #[.int .i64 n, .string s] w fun e w' => e = .returned (.bool true) ∧ Below w.heap.size w w' := by
  have hg : Tryd.prog.globalNamed "internal/strconv.uint64pow10" = some (Go.Proofs.Tryd.laysM173_ren.g 17) := by kernel_rfl
  by_cases q0 : 300 < s.size
  · have d0 : decide (300 < (s.size : Int)) = true := by simp; omega
    go_enter Tryd.func3, Tryd.ntmps3
    go_wp2
    go_ret
    exact ⟨rfl, Below.refl _ _⟩
  have d0 : decide (300 < (s.size : Int)) = false := by simp; omega
  have hN := parse_num n
  cases hP : parseS s.data.toList with
  | none =>
    by_cases c0 : n < 0
    · rw [if_neg (by omega)] at hN
      have d1 : decide (0 ≤ n) = false := by simp; omega
      go_enter Tryd.func3, Tryd.ntmps3
      go_wp2_with fail
      refine (Parse_any s w).mono ?_
      rintro e w0 ⟨rfl, rfl⟩
      rw [hP]
      go_wp2_with fail
      refine (refParse_any s _).mono ?_
      rintro e w0 ⟨rfl, rfl⟩
      rw [hP]
      go_wp2_with fail
      refine (Number_any n h0 h1 _ ht).mono ?_
      rintro e w1 ⟨rfl, hb1⟩
      have ht1 := tab_below hg ht hb1
      go_wp2_with fail
      refine (refNumber_any n h0 h1 _).mono ?_
      rintro e w2 ⟨rfl, hb2⟩
      have ht2 := tab_below hg ht1 hb2
      have hc2 := hb1.trans (hb2.mono hb1.size)
      go_wp2_with fail
      refine (Number_any n h0 h1 _ ht2).mono ?_
      rintro e w4 ⟨rfl, hb4⟩
      have hc4 := hc2.trans (hb4.mono hc2.size)
      go_wp2_with fail
      refine (Parse_any ⟨(Lib.itoa n).toArray⟩ _).mono ?_
      rintro e w5 ⟨rfl, rfl⟩
      rw [hN]
      go_wp2_with fail
      refine (awake_any _).mono ?_
      rintro e w6 ⟨rfl, hb5⟩
      have hc5 := hc4.trans (hb5.mono hc4.size)
      go_wp2
      go_ret
      exact ⟨rfl, hc5⟩
    by_cases c1 : 1099511627776 < n
    · rw [if_neg (by omega)] at hN
      have d1 : decide (0 ≤ n) = true := by simp; omega
      have d2 : decide (n ≤ 1099511627776) = false := by simp; omega
      go_enter Tryd.func3, Tryd.ntmps3
      go_wp2_with fail
      refine (Parse_any s w).mono ?_
      rintro e w0 ⟨rfl, rfl⟩
      rw [hP]
      go_wp2_with fail
      refine (refParse_any s _).mono ?_
      rintro e w0 ⟨rfl, rfl⟩
      rw [hP]
      go_wp2_with fail
      refine (Number_any n h0 h1 _ ht).mono ?_
      rintro e w1 ⟨rfl, hb1⟩
      have ht1 := tab_below hg ht hb1
      go_wp2_with fail
      refine (refNumber_any n h0 h1 _).mono ?_
      rintro e w2 ⟨rfl, hb2⟩
      have ht2 := tab_below hg ht1 hb2
      have hc2 := hb1.trans (hb2.mono hb1.size)
      go_wp2_with fail
      refine (Number_any n h0 h1 _ ht2).mono ?_
      rintro e w4 ⟨rfl, hb4⟩
      have hc4 := hc2.trans (hb4.mono hc2.size)
      go_wp2_with fail
      refine (Parse_any ⟨(Lib.itoa n).toArray⟩ _).mono ?_
      rintro e w5 ⟨rfl, rfl⟩
      rw [hN]
      go_wp2_with fail
      refine (awake_any _).mono ?_
      rintro e w6 ⟨rfl, hb5⟩
      have hc5 := hc4.trans (hb5.mono hc4.size)
      go_wp2
      go_ret
      exact ⟨rfl, hc5⟩
    rw [if_pos (by omega)] at hN
    have hm : ((n.toNat : Nat) : Int) = n := by omega
    have d1 : decide (0 ≤ n) = true := by simp; omega
    have d2 : decide (n ≤ 1099511627776) = true := by simp; omega
    go_enter Tryd.func3, Tryd.ntmps3
    go_wp2_with fail
    refine (Parse_any s w).mono ?_
    rintro e w0 ⟨rfl, rfl⟩
    rw [hP]
    go_wp2_with fail
    refine (refParse_any s _).mono ?_
    rintro e w0 ⟨rfl, rfl⟩
    rw [hP]
    go_wp2_with fail
    refine (Number_any n h0 h1 _ ht).mono ?_
    rintro e w1 ⟨rfl, hb1⟩
    have ht1 := tab_below hg ht hb1
    go_wp2_with fail
    refine (refNumber_any n h0 h1 _).mono ?_
    rintro e w2 ⟨rfl, hb2⟩
    have ht2 := tab_below hg ht1 hb2
    have hc2 := hb1.trans (hb2.mono hb1.size)
    go_wp2_with fail
    refine (Number_any n h0 h1 _ ht2).mono ?_
    rintro e w4 ⟨rfl, hb4⟩
    have hc4 := hc2.trans (hb4.mono hc2.size)
    go_wp2_with fail
    refine (Parse_any ⟨(Lib.itoa n).toArray⟩ _).mono ?_
    rintro e w5 ⟨rfl, rfl⟩
    rw [hN]
    go_wp2_with fail
    refine (awake_any _).mono ?_
    rintro e w6 ⟨rfl, hb5⟩
    have hc5 := hc4.trans (hb5.mono hc4.size)
    go_wp2
    go_ret
    exact ⟨rfl, hc5⟩
  | some v =>
    obtain ⟨hbk, hvm⟩ := parse_back hP
    have hback : (⟨(Lib.itoa (v : Int)).toArray⟩ : ByteArray) = s := by
      rw [hbk]
    clear hbk
    by_cases c0 : n < 0
    · rw [if_neg (by omega)] at hN
      have d1 : decide (0 ≤ n) = false := by simp; omega
      go_enter Tryd.func3, Tryd.ntmps3
      go_wp2_with fail
      refine (Parse_any s w).mono ?_
      rintro e w0 ⟨rfl, rfl⟩
      rw [hP]
      go_wp2_with fail
      refine (refParse_any s _).mono ?_
      rintro e w0 ⟨rfl, rfl⟩
      rw [hP]
      go_wp2_with fail
      refine (Number_any n h0 h1 _ ht).mono ?_
      rintro e w1 ⟨rfl, hb1⟩
      have ht1 := tab_below hg ht hb1
      go_wp2_with fail
      refine (refNumber_any n h0 h1 _).mono ?_
      rintro e w2 ⟨rfl, hb2⟩
      have ht2 := tab_below hg ht1 hb2
      have hc2 := hb1.trans (hb2.mono hb1.size)
      go_wp2_with fail
      refine (Number_any (v : Int) (by omega) (by omega) _ ht2).mono ?_
      rintro e w3 ⟨rfl, hb3⟩
      rw [hback]
      have ht3 := tab_below hg ht2 hb3
      have hc3 := hc2.trans (hb3.mono hc2.size)
      go_wp2_with fail
      refine (Number_any n h0 h1 _ ht3).mono ?_
      rintro e w4 ⟨rfl, hb4⟩
      have hc4 := hc3.trans (hb4.mono hc3.size)
      go_wp2_with fail
      refine (Parse_any ⟨(Lib.itoa n).toArray⟩ _).mono ?_
      rintro e w5 ⟨rfl, rfl⟩
      rw [hN]
      go_wp2_with fail
      refine (awake_any _).mono ?_
      rintro e w6 ⟨rfl, hb5⟩
      have hc5 := hc4.trans (hb5.mono hc4.size)
      go_wp2
      go_ret
      exact ⟨rfl, hc5⟩
    by_cases c1 : 1099511627776 < n
    · rw [if_neg (by omega)] at hN
      have d1 : decide (0 ≤ n) = true := by simp; omega
      have d2 : decide (n ≤ 1099511627776) = false := by simp; omega
      go_enter Tryd.func3, Tryd.ntmps3
      go_wp2_with fail
      refine (Parse_any s w).mono ?_
      rintro e w0 ⟨rfl, rfl⟩
      rw [hP]
      go_wp2_with fail
      refine (refParse_any s _).mono ?_
      rintro e w0 ⟨rfl, rfl⟩
      rw [hP]
      go_wp2_with fail
      refine (Number_any n h0 h1 _ ht).mono ?_
      rintro e w1 ⟨rfl, hb1⟩
      have ht1 := tab_below hg ht hb1
      go_wp2_with fail
      refine (refNumber_any n h0 h1 _).mono ?_
      rintro e w2 ⟨rfl, hb2⟩
      have ht2 := tab_below hg ht1 hb2
      have hc2 := hb1.trans (hb2.mono hb1.size)
      go_wp2_with fail
      refine (Number_any (v : Int) (by omega) (by omega) _ ht2).mono ?_
      rintro e w3 ⟨rfl, hb3⟩
      rw [hback]
      have ht3 := tab_below hg ht2 hb3
      have hc3 := hc2.trans (hb3.mono hc2.size)
      go_wp2_with fail
      refine (Number_any n h0 h1 _ ht3).mono ?_
      rintro e w4 ⟨rfl, hb4⟩
      have hc4 := hc3.trans (hb4.mono hc3.size)
      go_wp2_with fail
      refine (Parse_any ⟨(Lib.itoa n).toArray⟩ _).mono ?_
      rintro e w5 ⟨rfl, rfl⟩
      rw [hN]
      go_wp2_with fail
      refine (awake_any _).mono ?_
      rintro e w6 ⟨rfl, hb5⟩
      have hc5 := hc4.trans (hb5.mono hc4.size)
      go_wp2
      go_ret
      exact ⟨rfl, hc5⟩
    rw [if_pos (by omega)] at hN
    have hm : ((n.toNat : Nat) : Int) = n := by omega
    have d1 : decide (0 ≤ n) = true := by simp; omega
    have d2 : decide (n ≤ 1099511627776) = true := by simp; omega
    go_enter Tryd.func3, Tryd.ntmps3
    go_wp2_with fail
    refine (Parse_any s w).mono ?_
    rintro e w0 ⟨rfl, rfl⟩
    rw [hP]
    go_wp2_with fail
    refine (refParse_any s _).mono ?_
    rintro e w0 ⟨rfl, rfl⟩
    rw [hP]
    go_wp2_with fail
    refine (Number_any n h0 h1 _ ht).mono ?_
    rintro e w1 ⟨rfl, hb1⟩
    have ht1 := tab_below hg ht hb1
    go_wp2_with fail
    refine (refNumber_any n h0 h1 _).mono ?_
    rintro e w2 ⟨rfl, hb2⟩
    have ht2 := tab_below hg ht1 hb2
    have hc2 := hb1.trans (hb2.mono hb1.size)
    go_wp2_with fail
    refine (Number_any (v : Int) (by omega) (by omega) _ ht2).mono ?_
    rintro e w3 ⟨rfl, hb3⟩
    rw [hback]
    have ht3 := tab_below hg ht2 hb3
    have hc3 := hc2.trans (hb3.mono hc2.size)
    go_wp2_with fail
    refine (Number_any n h0 h1 _ ht3).mono ?_
    rintro e w4 ⟨rfl, hb4⟩
    have hc4 := hc3.trans (hb4.mono hc3.size)
    go_wp2_with fail
    refine (Parse_any ⟨(Lib.itoa n).toArray⟩ _).mono ?_
    rintro e w5 ⟨rfl, rfl⟩
    rw [hN]
    go_wp2_with fail
    refine (awake_any _).mono ?_
    rintro e w6 ⟨rfl, hb5⟩
    have hc5 := hc4.trans (hb5.mono hc4.size)
    go_wp2
    go_ret
    exact ⟨rfl, hc5⟩
end Go.Proofs.YtgmbonpobgedpaaDoor

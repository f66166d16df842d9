/- The decimal form of a number: the reference. -/
import Derived.Test.YtjdinakdkdjocaaGreatDoorNum1
import Derived.Test.YtjdinakdkdjocaaGreatDoorDocA
import Derived.IntWalk
set_option linter.unusedSimpArgs false
set_option linter.unusedVariables false
set_option maxRecDepth 100000
namespace Go.Proofs.YtjdinakdkdjocaaGreatDoor
open Go Go.RowKit Go.Adm Go.Lib
theorem dec_short (u : Nat) : (Lib.decDigits u).length ≤ u / 10 + 1 := by
  induction u using Nat.strongRecOn with
  | _ u ih =>
    by_cases h : u < 10
    · rw [Lib.decDigits, dif_pos h]; simp
    · rw [Lib.decDigits, dif_neg h, List.length_append, List.length_singleton]
      have := ih (u / 10) (by omega)
      omega
/-- the loop of the reference: what it lays from behind -/
theorem refNumber_pos (u0 : Nat) (hu : 0 < u0) : Lib.decDigits u0 = todo u0 ++ [] := by
  unfold todo; rw [if_neg (by omega), List.append_nil]

set_option maxHeartbeats 3200000 in
theorem refNumber_any (n : Int) (h0 : -9223372036854775808 ≤ n) (h1 : n ≤ 9223372036854775807) (w : World) :
    Calls Tryz.prog 14 #[.int .i64 n] w fun e w' => e = .returned (.string ⟨(Lib.itoa n).toArray⟩) ∧ Below w.heap.size w w' := by
  by_cases hz : n = 0
  · subst hz
    go_enter Tryz.func14, Tryz.ntmps14
    go_wp2
    go_ret
    exact ⟨ret_str (by decide +kernel), Below.refl _ _⟩
  · have d0 : (n == 0) = false := by simpa using hz
    cases dneg : decide (n < 0) with
    | true =>
      have hn := of_decide_eq_true dneg
      obtain ⟨u0, hu0⟩ : ∃ u : Nat, n = -(u : Int) := ⟨n.natAbs, by omega⟩
      have hres := Lib.hid (show Lib.itoa n = 45 :: Lib.decDigits u0 by unfold Lib.itoa; rw [if_pos hn, show n.natAbs = u0 from by omega])
      have q1 : IntKind.u64.wrap n = n + 18446744073709551616 := by simp [IntKind.wrap, IntKind.signed, IntKind.bits]; omega
      have q2 : IntKind.u64.wrap (-(n + 18446744073709551616)) = (u0 : Int) := by simp [IntKind.wrap, IntKind.signed, IntKind.bits]; omega
      have hpos := Lib.hid (refNumber_pos u0 (by omega))
      have hlt : u0 < 18446744073709551616 := by omega
      have hpre := Lib.hid (show (⟨#[45]⟩ : ByteArray).data.toList ++ Lib.decDigits u0 = Lib.itoa n by rw [hres.out]; rfl)
      clear hu0 hn hres
      go_enter Tryz.func14, Tryz.ntmps14
      go_wp2
      go_loopw [4, 5] (fun u s wr => ∃ (v : Nat) (a : ByteArray), u = .int .u64 v ∧ s = .string a ∧ v < 18446744073709551616 ∧ Hid (todo v ++ a.data.toList = Lib.decDigits u0) ∧ Below w.heap.size w wr) (fun u _ _ => (intOf u).toNat)
      case atStart => exact ⟨u0, ⟨#[]⟩, rfl, rfl, hlt, Lib.hid hpos.out.symm, Below.refl _ _⟩
      case round =>
        obtain ⟨v, a, rfl, rfl, hv, HA, hb⟩ := hrel
        have hsb := hb.size
        have hsz : a.size ≤ 1844674407370955162 := by
          have e1 := congrArg List.length HA.out
          have e2 := dec_short u0
          have e3 : a.data.toList.length = a.size := Array.length_toList
          rw [List.length_append, e3] at e1
          omega
        by_cases hp : 0 < v
        · have d1 : decide (0 < v) = true := by simp; omega
          obtain ⟨x, hx⟩ : ∃ x : UInt8, x = UInt8.ofNat (48 + v % 10) := ⟨_, rfl⟩
          have hxn : x.toNat = 48 + v % 10 := by rw [hx, UInt8.toNat_ofNat']; omega
          have HS := Lib.hid (todo_step v hp a.data.toList)
          rw [← hx] at HS
          clear hx
          have hxi : 48 + (v : Int) % 10 = (x.toNat : Int) := by omega
          have hconv : (convert 22 9 (.slice (some ⟨wr.heap.size, 0, none⟩) 1 1)).run Tryz.prog (wr.alloc (.cells #[.int .u8 (48 + (v : Int) % 10)] 5)) = .ok (.string ⟨#[x]⟩) (wr.alloc (.cells #[.int .u8 (48 + (v : Int) % 10)] 5)) := by
            rw [hxi]
            exact run_conv (P := Tryz.prog) (l := [x]) _ 22 9 5 el_u8.ht Tryz.underlying5 Tryz.underlying9 (Rd.lit wr #[.int .u8 (x.toNat : Int)] 5 1 rfl)
          clear hp hxi
          go_wp2
          refine ⟨⟨v / 10, ⟨#[x]⟩ ++ a, rfl, rfl, by omega, Lib.hid ?_, hb.alloc (by omega) _⟩, by have := of_decide_eq_true d1; simp [intOf]; omega⟩
          rw [← HA.out, ← HS.out, ByteArray.data_append, Array.toList_append]
          rfl
        · obtain rfl : v = 0 := by omega
          have d1 : decide (0 < (0 : Nat)) = false := by simp
          go_wp2
          go_ret
          refine ⟨?_, hb⟩
          rw [← hpre.out, ← HA.out]
          apply congrArg (fun s => Ending.returned (Value.string s))
          apply ByteArray.ext
          apply Array.ext'
          simp [ByteArray.data_append, todo]
    | false =>
      have hn := of_decide_eq_false dneg
      obtain ⟨u0, hu0⟩ : ∃ u : Nat, n = (u : Int) := ⟨n.toNat, by omega⟩
      subst hu0
      have hres := Lib.hid (show Lib.itoa (u0 : Int) = Lib.decDigits u0 by unfold Lib.itoa; rw [if_neg hn, Int.toNat_natCast])
      have q1 : IntKind.u64.wrap (u0 : Int) = (u0 : Int) := IntWalk.u64_in _ (by omega)
      have hpos := Lib.hid (refNumber_pos u0 (by omega))
      have hlt : u0 < 18446744073709551616 := by omega
      have hpre := Lib.hid (show (⟨#[]⟩ : ByteArray).data.toList ++ Lib.decDigits u0 = Lib.itoa (u0 : Int) by rw [hres.out]; rfl)
      clear hn hres
      go_enter Tryz.func14, Tryz.ntmps14
      go_wp2
      go_loopw [4, 5] (fun u s wr => ∃ (v : Nat) (a : ByteArray), u = .int .u64 v ∧ s = .string a ∧ v < 18446744073709551616 ∧ Hid (todo v ++ a.data.toList = Lib.decDigits u0) ∧ Below w.heap.size w wr) (fun u _ _ => (intOf u).toNat)
      case atStart => exact ⟨u0, ⟨#[]⟩, rfl, rfl, hlt, Lib.hid hpos.out.symm, Below.refl _ _⟩
      case round =>
        obtain ⟨v, a, rfl, rfl, hv, HA, hb⟩ := hrel
        have hsb := hb.size
        have hsz : a.size ≤ 1844674407370955162 := by
          have e1 := congrArg List.length HA.out
          have e2 := dec_short u0
          have e3 : a.data.toList.length = a.size := Array.length_toList
          rw [List.length_append, e3] at e1
          omega
        by_cases hp : 0 < v
        · have d1 : decide (0 < v) = true := by simp; omega
          obtain ⟨x, hx⟩ : ∃ x : UInt8, x = UInt8.ofNat (48 + v % 10) := ⟨_, rfl⟩
          have hxn : x.toNat = 48 + v % 10 := by rw [hx, UInt8.toNat_ofNat']; omega
          have HS := Lib.hid (todo_step v hp a.data.toList)
          rw [← hx] at HS
          clear hx
          have hxi : 48 + (v : Int) % 10 = (x.toNat : Int) := by omega
          have hconv : (convert 22 9 (.slice (some ⟨wr.heap.size, 0, none⟩) 1 1)).run Tryz.prog (wr.alloc (.cells #[.int .u8 (48 + (v : Int) % 10)] 5)) = .ok (.string ⟨#[x]⟩) (wr.alloc (.cells #[.int .u8 (48 + (v : Int) % 10)] 5)) := by
            rw [hxi]
            exact run_conv (P := Tryz.prog) (l := [x]) _ 22 9 5 el_u8.ht Tryz.underlying5 Tryz.underlying9 (Rd.lit wr #[.int .u8 (x.toNat : Int)] 5 1 rfl)
          clear hp hxi
          go_wp2
          refine ⟨⟨v / 10, ⟨#[x]⟩ ++ a, rfl, rfl, by omega, Lib.hid ?_, hb.alloc (by omega) _⟩, by have := of_decide_eq_true d1; simp [intOf]; omega⟩
          rw [← HA.out, ← HS.out, ByteArray.data_append, Array.toList_append]
          rfl
        · obtain rfl : v = 0 := by omega
          have d1 : decide (0 < (0 : Nat)) = false := by simp
          go_wp2
          go_ret
          refine ⟨?_, hb⟩
          rw [← hpre.out, ← HA.out]
          apply congrArg (fun s => Ending.returned (Value.string s))
          apply ByteArray.ext
          apply Array.ext'
          simp [ByteArray.data_append, todo]
end Go.Proofs.YtjdinakdkdjocaaGreatDoor

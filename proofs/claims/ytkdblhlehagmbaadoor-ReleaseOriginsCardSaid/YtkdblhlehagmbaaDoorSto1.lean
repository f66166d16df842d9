/- Digests are compared: both sides. -/
import Derived.Test.YtkdblhlehagmbaaDoorGen2
import Derived.Lib.Bytealg
import Derived.Deep.QuietTactic
import Derived.BigQuiet
import Derived.Deep.RegionHeld3
import Derived.IntWalk
import Derived.Deep.Cut
set_option linter.unusedSimpArgs false
set_option linter.unusedVariables false
set_option maxRecDepth 100000
namespace Go.Adm
open Go Go.RowKit
theorem cmp_pre : ∀ (p a b : List UInt8), Lib.compareBytes (p ++ a) (p ++ b) = Lib.compareBytes a b
  | [], a, b => rfl
  | x :: p, a, b => by
    show (if x < x then -1 else if x < x then 1 else Lib.compareBytes (p ++ a) (p ++ b)) = _
    rw [if_neg (UInt8.lt_irrefl x), if_neg (UInt8.lt_irrefl x)]
    exact cmp_pre p a b
theorem cmp_same (a : List UInt8) : Lib.compareBytes a a = 0 := by
  have := cmp_pre a [] []
  rwa [List.append_nil] at this
theorem cmp_at {x y : List UInt8} {k : Nat} (hx : k < x.length) (hy : k < y.length) (h : x.take k = y.take k) (hne : x[k].toNat ≠ y[k].toNat) : Lib.compareBytes x y = if x[k].toNat < y[k].toNat then -1 else 1 := by
  have ex : x = x.take k ++ x[k] :: x.drop (k + 1) := by rw [← List.drop_eq_getElem_cons hx, List.take_append_drop]
  have ey : y = x.take k ++ y[k] :: y.drop (k + 1) := by rw [h, ← List.drop_eq_getElem_cons hy, List.take_append_drop]
  have e : Lib.compareBytes x y = Lib.compareBytes (x[k] :: x.drop (k + 1)) (y[k] :: y.drop (k + 1)) := by
    rw [← cmp_pre (x.take k) (x[k] :: x.drop (k + 1)) (y[k] :: y.drop (k + 1))]
    exact (congrArg (fun z => Lib.compareBytes z y) ex).trans (congrArg (fun z => Lib.compareBytes _ z) ey)
  rw [e]
  show (if x[k] < y[k] then -1 else if y[k] < x[k] then 1 else _) = _
  by_cases h1 : x[k].toNat < y[k].toNat
  · rw [if_pos (UInt8.lt_iff_toNat_lt.2 h1), if_pos h1]
  · rw [if_neg (fun h2 => h1 (UInt8.lt_iff_toNat_lt.1 h2)), if_pos (UInt8.lt_iff_toNat_lt.2 (by omega)), if_neg h1]
/-- whether a digest comes before another -/
def lessD (x y : List UInt8) : Bool := decide (Lib.compareBytes x y < 0)
theorem lessD_at {x y : List UInt8} {k : Nat} (hx : k < x.length) (hy : k < y.length) (h : x.take k = y.take k) (hne : x[k].toNat ≠ y[k].toNat) : lessD x y = decide (x[k].toNat < y[k].toNat) := by
  unfold lessD
  rw [cmp_at hx hy h hne]
  by_cases h1 : x[k].toNat < y[k].toNat
  · rw [if_pos h1, decide_eq_true h1]; rfl
  · rw [if_neg h1, decide_eq_false h1]; rfl
end Go.Adm
namespace Go.Proofs.YtkdblhlehagmbaaDoor
open Go Go.RowKit Go.Adm

set_option maxHeartbeats 1600000 in
theorem Less_any (w : World) (x y : List UInt8) (hx : x.length = 32) (hy : y.length = 32) :
    Calls Tryd.prog 13 #[.agg (x.map bv).toArray, .agg (y.map bv).toArray] w fun e w' => e = .returned (.bool (lessD x y)) ∧ Below w.heap.size w w' := by
  have hR : All w [.kept w w.heap.size] := ⟨⟨Below.refl _ _, Nat.le_refl _⟩, trivial⟩
  have HX := Lib.hid hx
  have HY := Lib.hid hy
  clear hx hy
  go_enter Tryd.func13, Tryd.ntmps13
  go_upto_region 1 with (fail)
  refine wp_gen ((hR.new (l := x.map bv) _ 23 rfl rfl).new (l := y.map bv) (g := w.heap.size + 1) _ 23 (by simp) rfl) ?_
  intro W1 hW1
  clear hR
  go_wp2
  go_loopw [5] (fun i wr => ∃ k : Nat, k ≤ 32 ∧ i = .int .i64 k ∧ Hid (x.take k = y.take k) ∧ All wr [.cells (w.heap.size + 1) 23 (y.map bv), .cells w.heap.size 23 (x.map bv), .kept w w.heap.size]) (fun i _ => 32 - (intOf i).toNat)
  case atStart => exact ⟨0, by omega, rfl, Lib.hid rfl, hW1⟩
  case round =>
    clear hW1
    obtain ⟨k, hk, rfl, HT, hI⟩ := hrel
    by_cases hlt : k < 32
    · have hkx : k < x.length := by rw [HX.out]; exact hlt
      have hky : k < y.length := by rw [HY.out]; exact hlt
      have d1 : decide ((k : Int) < 32) = true := by simp; omega
      have wk0 : (0 : Int) ≤ (k : Int) := by omega
      have c1 : wr.cell? ⟨w.heap.size, k, none⟩ = some (.int .u8 (x[k].toNat : Int)) := by
        have := Cells.cell (hI.at_ 1 rfl : Cells wr w.heap.size _ _) (i := k) (by rw [List.length_map]; exact hkx)
        rw [this, List.getElem_map]; rfl
      have c2 : wr.cell? ⟨w.heap.size + 1, k, none⟩ = some (.int .u8 (y[k].toNat : Int)) := by
        have := Cells.cell (hI.at_ 0 rfl : Cells wr (w.heap.size + 1) _ _) (i := k) (by rw [List.length_map]; exact hky)
        rw [this, List.getElem_map]; rfl
      have HL : Hid (x[k].toNat ≠ y[k].toNat → lessD x y = decide (x[k].toNat < y[k].toNat)) := Lib.hid (fun h => lessD_at hkx hky HT.out h)
      have HS : Hid (x[k].toNat = y[k].toNat → x.take (k + 1) = y.take (k + 1)) := Lib.hid (fun h => by
        rw [List.take_succ_eq_append_getElem hkx, List.take_succ_eq_append_getElem hky, HT.out, UInt8.toNat_inj.1 h])
      generalize x[k].toNat = p at *
      generalize y[k].toNat = q at *
      clear hkx hky
      by_cases hpq : p = q
      · have HS2 := Lib.hid (HS.out hpq)
        subst hpq
        go_wp2_with fail
        go_quiet (fail)
        have hI1 := hI.drewN nq
        clear c1 c2 hI HS HL
        generalize wr.drewN nq = wq at *
        go_wp2_with fail
        exact ⟨⟨k + 1, by omega, by go_num, HS2, hI1⟩, by simp [intOf]; omega⟩
      · have HL2 := Lib.hid (HL.out hpq)
        have e1 : ((p : Int) != (q : Int)) = true := by simp; omega
        have e2 : (p != q) = true := by simpa using hpq
        clear hpq HS HL
        go_upto_region 4 with (fail)
        go_quiet (fail)
        have hI1 := hI.drewN nq
        have c1' : (wr.drewN nq).cell? ⟨w.heap.size, k, none⟩ = some (.int .u8 (p : Int)) := c1
        have c2' : (wr.drewN nq).cell? ⟨w.heap.size + 1, k, none⟩ = some (.int .u8 (q : Int)) := c2
        clear c1 c2 hI
        generalize wr.drewN nq = wq at *
        cases d3 : decide ((p : Int) < (q : Int)) with
        | true =>
          have d4 : decide (p < q) = true := by have := of_decide_eq_true d3; simp; omega
          have HF : Hid (lessD x y = true) := Lib.hid (by rw [HL2.out, d4])
          go_upto_region 5 with (fail)
          go_quiet (fail)
          go_wp2_with fail
          go_ret
          exact ⟨ret_bool (by rw [HF.out]), ((hI1.drewN _).at_ 2 rfl : _ ∧ _).1⟩
        | false =>
          have d4 : decide (p < q) = false := by have := of_decide_eq_false d3; simp; omega
          have HF : Hid (lessD x y = false) := Lib.hid (by rw [HL2.out, d4])
          go_upto_region 5 with (fail)
          go_quiet (fail)
          go_wp2_with fail
          go_ret
          exact ⟨ret_bool (by rw [HF.out]), ((hI1.drewN _).at_ 2 rfl : _ ∧ _).1⟩
    · have d1 : decide ((k : Int) < 32) = false := by simp; omega
      have HF : Hid (lessD x y = false) := Lib.hid (by
        have : x = y := by
          have := HT.out
          rwa [List.take_of_length_le (by rw [HX.out]; omega), List.take_of_length_le (by rw [HY.out]; omega)] at this
        unfold lessD
        rw [this, cmp_same]; rfl)
      go_wp2_with fail
      go_ret
      exact ⟨ret_bool (by rw [HF.out]), (hI.at_ 2 rfl : _ ∧ _).1⟩
end Go.Proofs.YtkdblhlehagmbaaDoor

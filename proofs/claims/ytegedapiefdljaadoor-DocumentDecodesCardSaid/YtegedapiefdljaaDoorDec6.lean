/- The law DocumentDecodes. -/
import Derived.Test.YtegedapiefdljaaDoorDec5
set_option linter.unusedSimpArgs false
set_option linter.unusedVariables false
set_option maxRecDepth 100000
namespace Go.Proofs.YtegedapiefdljaaDoor
open Go Go.RowKit Go.Adm
theorem cell_lt {w : World} {a : Addr} {v : Value} (h : w.cell? a = some v) : a.block < w.heap.size := by
  by_cases hlt : a.block < w.heap.size
  · exact hlt
  · unfold World.cell? at h
    rw [Array.getElem?_eq_none (by omega)] at h
    cases h

set_option maxHeartbeats 1600000 in
theorem walkDecodes (w : World) (m : Int) (hm : w.cell? ⟨0, 0, none⟩ = some (.int .i64 m)) (A : Option Addr) (n c : Nat) (b : List UInt8) (hb : Rd w w.heap.size 1 A n (b.map bv)) (hnc : n ≤ c) (hcm : c ≤ maxLen) :
    Calls Tryd.prog 4 #[.slice A n c] w fun e w' => e = .returned (.bool true) ∧ Below w.heap.size w w' := by
  have hgm : 0 < w.heap.size := cell_lt hm
  have HM := Lib.hid hm
  have HB := Lib.hid hb
  clear hm hb
  by_cases hbig : 300000 < n
  · have d1 : decide ((300000 : Int) < (n : Int)) = true := by simp; omega
    go_enter Tryd.func4, Tryd.ntmps4
    go_wp2
    go_ret
    exact ⟨rfl, Below.refl _ _⟩
  have d1 : decide ((300000 : Int) < (n : Int)) = false := by simp; omega
  go_enter Tryd.func4, Tryd.ntmps4
  go_wp2_with fail
  refine (Decode_any w w.heap.size A n c b HB.out hnc hcm (Nat.le_refl _)).mono ?_
  rintro e w1 ⟨A1, n1, c1, rfl, hl1, q1, q2, hb1⟩
  have hs1 := hb1.size
  have HL1 := Lib.hid hl1
  clear hl1
  go_wp2_with fail
  refine (refDecode_any w1 m ((hb1.cell hgm).trans HM.out) (by omega) w.heap.size A n c b (HB.out.below hb1 (Nat.le_refl _)) hnc hcm hs1).mono ?_
  rintro e w2 ⟨A2, n2, c2, rfl, hl2, q3, q4, hb2⟩
  have hs2 := hb2.size
  have hn : n1 = n2 := HL1.out.len.symm.trans hl2.len
  subst hn
  have HL1b : Hid (Lines w2 w2.heap.size A1 n1 (decR b).1) := Lib.hid ((HL1.out.below hb2 (Nat.le_refl _)).mono hs2)
  have HL2 := Lib.hid hl2
  have hn1 : n1 ≤ 1000 := by rw [← hl2.len]; exact decR_len b
  have hB2 : Below w.heap.size w w2 := hb1.trans (hb2.mono hs1)
  clear hl2 hb1 hb2
  obtain ⟨z, hz⟩ : ∃ z, (decR b).2 = z := ⟨_, rfl⟩
  rw [hz]
  clear hz
  go_wp2_with fail
  refine (awake_any w2).mono ?_
  rintro e w3 ⟨rfl, hb3⟩
  have hs3 := hb3.size
  have hB3 : Below w.heap.size w w3 := hB2.trans (hb3.mono (by omega))
  have HA : Hid (Lines w3 w3.heap.size A1 n1 (decR b).1) := Lib.hid ((HL1b.out.below hb3 (Nat.le_refl _)).mono hs3)
  have HC : Hid (Lines w3 w3.heap.size A2 n1 (decR b).1) := Lib.hid ((HL2.out.below hb3 (Nat.le_refl _)).mono hs3)
  have hzz : (z == z) = true := beq_self_eq_true z
  clear hb3 hB2
  go_wp2_with fail
  refine (SameLines_true w3 w3.heap.size A1 A2 n1 c1 c2 (decR b).1 HA.out HC.out (Nat.le_refl _) (by omega)).mono ?_
  rintro e w4 ⟨rfl, hb4⟩
  have hB4 : Below w.heap.size w w4 := hB3.trans (hb4.mono (by omega))
  clear hb4
  go_wp2
  go_ret
  exact ⟨rfl, hB4⟩
end Go.Proofs.YtegedapiefdljaaDoor

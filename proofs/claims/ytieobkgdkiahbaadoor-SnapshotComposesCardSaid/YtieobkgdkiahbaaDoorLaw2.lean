/- The law SnapshotComposes. -/
import Derived.Test.YtieobkgdkiahbaaDoorLaw1
set_option linter.unusedSimpArgs false
set_option linter.unusedVariables false
set_option maxRecDepth 100000
namespace Go.Proofs.YtieobkgdkiahbaaDoor
open Go Go.RowKit Go.Adm

set_option maxHeartbeats 3200000 in
theorem walkComposes (w : World) (m : Int) (hm : w.cell? ⟨0, 0, none⟩ = some (.int .i64 m)) (B : Nat) (A1 A2 : Option Addr) (n1 c1 n2 c2 : Nat) (a b : List C) (h1 : Els w B 65 A1 n1 (a.map chgC)) (h2 : Els w B 65 A2 n2 (b.map chgC)) (ha : ∀ e ∈ a, C32 e) (hb : ∀ e ∈ b, C32 e) (e1 : a.length = n1) (e2 : b.length = n2) (hB : B ≤ w.heap.size) :
    Calls Tryd.prog 5 #[.slice A1 n1 c1, .slice A2 n2 c2] w fun e w' => e = .returned (.bool true) ∧ Below w.heap.size w w' := by
  have hR : All w [.low (.els B 65 A1 n1 (a.map chgC)), .low (.els B 65 A2 n2 (b.map chgC)), .kept w w.heap.size] := ⟨⟨h1, hB⟩, ⟨h2, hB⟩, ⟨Below.refl _ _, Nat.le_refl _⟩, trivial⟩
  by_cases q1 : 300 < n1
  · have d1 : decide ((n1 : Int) ≤ 300) = false := by simp; omega
    have hc1 := few_any w A1 n1 c1
    rw [d1] at hc1
    go_enter Tryd.func5, Tryd.ntmps5
    go_wp2_with fail
    refine hc1.mono ?_
    rintro e w1 ⟨rfl, rfl⟩
    go_wp2_with fail
    go_ret
    exact ⟨rfl, Below.refl _ _⟩
  by_cases q2 : 300 < n2
  · have d1 : decide ((n1 : Int) ≤ 300) = true := by simp; omega
    have d2 : decide ((n2 : Int) ≤ 300) = false := by simp; omega
    have hc1 := few_any w A1 n1 c1
    rw [d1] at hc1
    have hc2 := few_any w A2 n2 c2
    rw [d2] at hc2
    go_enter Tryd.func5, Tryd.ntmps5
    go_wp2_with fail
    refine hc1.mono ?_
    rintro e w1 ⟨rfl, hw1⟩
    subst hw1
    go_wp2_with fail
    refine hc2.mono ?_
    rintro e w1 ⟨rfl, hw1⟩
    subst hw1
    go_wp2_with fail
    go_ret
    exact ⟨rfl, Below.refl _ _⟩
  have d1 : decide ((n1 : Int) ≤ 300) = true := by simp; omega
  have d2 : decide ((n2 : Int) ≤ 300) = true := by simp; omega
  have hc1 := few_any w A1 n1 c1
  rw [d1] at hc1
  have hc2 := few_any w A2 n2 c2
  rw [d2] at hc2
  clear d1 d2
  obtain ⟨hr32, hrl⟩ := pComp_ok ha hb
  obtain ⟨hs32, hsl⟩ := invS_ok ha
  have HP1 : Hid (∀ W : World, All W [.low (.els B 65 A1 n1 (a.map chgC)), .low (.els B 65 A2 n2 (b.map chgC)), .kept w w.heap.size] → Calls Tryd.prog 21 #[.slice A1 n1 c1, .slice A2 n2 c2] W (ResPost chgC 65 (pComp a b).1 (pComp a b).2 70 W)) := Lib.hid fun W hW => Compose_any W B A1 A2 n1 c1 n2 c2 a b (hW.at_ 0 rfl : Els W B 65 A1 n1 (a.map chgC) ∧ B ≤ W.heap.size).1 (hW.at_ 1 rfl : Els W B 65 A2 n2 (b.map chgC) ∧ B ≤ W.heap.size).1 ha hb e1 e2 (by omega) (by omega) (hW.at_ 0 rfl : Els W B 65 A1 n1 (a.map chgC) ∧ B ≤ W.heap.size).2
  have HP2 : Hid (∀ W : World, All W [.low (.els B 65 A1 n1 (a.map chgC)), .low (.els B 65 A2 n2 (b.map chgC)), .kept w w.heap.size] → Calls Tryd.prog 22 #[.slice A1 n1 c1, .slice A2 n2 c2] W (ResPost chgC 65 (pComp a b).1 (pComp a b).2 70 W)) := Lib.hid fun W hW => by
    have := refCompose_any W m (glob_keep hm (hW.at_ 2 rfl).1) B A1 A2 n1 c1 n2 c2 a b (hW.at_ 0 rfl : Els W B 65 A1 n1 (a.map chgC) ∧ B ≤ W.heap.size).1 (hW.at_ 1 rfl : Els W B 65 A2 n2 (b.map chgC) ∧ B ≤ W.heap.size).1 ha hb e1 e2 (by omega) (by omega) (hW.at_ 0 rfl : Els W B 65 A1 n1 (a.map chgC) ∧ B ≤ W.heap.size).2
    rwa [pComp_eq] at this
  have HP3 : Hid (∀ W : World, All W [.low (.els B 65 A1 n1 (a.map chgC)), .low (.els B 65 A2 n2 (b.map chgC)), .kept w w.heap.size] → Calls Tryd.prog 23 #[.slice A1 n1 c1] W (ResPost chgC 65 (invS a).1 (invS a).2 70 W)) := Lib.hid fun W hW => Invert_any W B A1 n1 c1 a (hW.at_ 0 rfl : Els W B 65 A1 n1 (a.map chgC) ∧ B ≤ W.heap.size).1 ha e1 (by omega) (hW.at_ 0 rfl : Els W B 65 A1 n1 (a.map chgC) ∧ B ≤ W.heap.size).2
  have HP4 : Hid (∀ W : World, All W [.low (.els B 65 A1 n1 (a.map chgC)), .low (.els B 65 A2 n2 (b.map chgC)), .kept w w.heap.size] → Calls Tryd.prog 24 #[.slice A1 n1 c1] W (ResPost chgC 65 (invS a).1 (invS a).2 70 W)) := Lib.hid fun W hW => refInvert_any W m (glob_keep hm (hW.at_ 2 rfl).1) B A1 n1 c1 a (hW.at_ 0 rfl : Els W B 65 A1 n1 (a.map chgC) ∧ B ≤ W.heap.size).1 ha e1 (by omega) (hW.at_ 0 rfl : Els W B 65 A1 n1 (a.map chgC) ∧ B ≤ W.heap.size).2
  have hrl2 : (pComp a b).1.length ≤ 1000000 := by omega
  have hsl2 : (invS a).1.length ≤ 1000000 := by omega
  have HR32 := Lib.hid hr32
  have HS32 := Lib.hid hs32
  clear hr32 hrl hs32 hsl h1 h2 ha hb
  generalize (pComp a b).1 = r at *
  generalize (pComp a b).2 = er at *
  generalize (invS a).1 = s at *
  generalize (invS a).2 = es at *
  go_enter Tryd.func5, Tryd.ntmps5
  go_wp2_with fail
  refine hc1.mono ?_
  rintro e w1 ⟨rfl, hw1⟩
  rw [hw1]
  clear hw1
  clear hc1
  go_wp2_with fail
  refine hc2.mono ?_
  rintro e w2 ⟨rfl, hw2⟩
  rw [hw2]
  clear hw2
  clear hc2
  go_wp2_with fail
  refine (HP1.out w (hR)).mono ?_
  rintro e v0 ⟨A4, k0, rfl, ho, hb⟩
  have hs0 : w.heap.size ≤ w.heap.size := hR.size_kept 2 rfl
  have hJ0 : All v0 [.own w.heap.size 70 65 A4 r.length k0 (r.map chgC).flatten, .low (.els B 65 A1 n1 (a.map chgC)), .low (.els B 65 A2 n2 (b.map chgC)), .kept w w.heap.size] := ⟨ho.less hs0, hR.call hb⟩
  clear HP1 ho hb hR
  go_wp2_with fail
  refine (HP2.out v0 ((hJ0).erase 0)).mono ?_
  rintro e v1 ⟨A5, k1, rfl, ho, hb⟩
  have hs1 : w.heap.size ≤ v0.heap.size := hJ0.size_kept 3 rfl
  have hJ1 : All v1 [.own w.heap.size 70 65 A5 r.length k1 (r.map chgC).flatten, .own w.heap.size 70 65 A4 r.length k0 (r.map chgC).flatten, .low (.els B 65 A1 n1 (a.map chgC)), .low (.els B 65 A2 n2 (b.map chgC)), .kept w w.heap.size] := ⟨ho.less hs1, hJ0.call hb⟩
  clear HP2 ho hb hJ0
  go_wp2_with fail
  refine (HP3.out v1 (((hJ1).erase 0).erase 0)).mono ?_
  rintro e v2 ⟨A6, k2, rfl, ho, hb⟩
  have hs2 : w.heap.size ≤ v1.heap.size := hJ1.size_kept 4 rfl
  have hJ2 : All v2 [.own w.heap.size 70 65 A6 s.length k2 (s.map chgC).flatten, .own w.heap.size 70 65 A5 r.length k1 (r.map chgC).flatten, .own w.heap.size 70 65 A4 r.length k0 (r.map chgC).flatten, .low (.els B 65 A1 n1 (a.map chgC)), .low (.els B 65 A2 n2 (b.map chgC)), .kept w w.heap.size] := ⟨ho.less hs2, hJ1.call hb⟩
  clear HP3 ho hb hJ1
  go_wp2_with fail
  refine (HP4.out v2 ((((hJ2).erase 0).erase 0).erase 0)).mono ?_
  rintro e v3 ⟨A7, k3, rfl, ho, hb⟩
  have hs3 : w.heap.size ≤ v2.heap.size := hJ2.size_kept 5 rfl
  have hJ3 : All v3 [.own w.heap.size 70 65 A7 s.length k3 (s.map chgC).flatten, .own w.heap.size 70 65 A6 s.length k2 (s.map chgC).flatten, .own w.heap.size 70 65 A5 r.length k1 (r.map chgC).flatten, .own w.heap.size 70 65 A4 r.length k0 (r.map chgC).flatten, .low (.els B 65 A1 n1 (a.map chgC)), .low (.els B 65 A2 n2 (b.map chgC)), .kept w w.heap.size] := ⟨ho.less hs3, hJ2.call hb⟩
  clear HP4 ho hb hJ2
  go_wp2_with fail
  refine (awake_any v3).mono ?_
  rintro e w6 ⟨rfl, hb6⟩
  have hJ6 := hJ3.call hb6
  clear hJ3 hb6
  go_wp2_with fail
  refine (SameChanges_true w6 w6.heap.size A4 A5 r.length k0 k1 r (els_ofC (hJ6.at_ 3 rfl) HR32.out) (els_ofC (hJ6.at_ 2 rfl) HR32.out) HR32.out rfl hrl2 (Nat.le_refl _)).mono ?_
  rintro e w7 ⟨rfl, hb7⟩
  have hJ7 := hJ6.call hb7
  clear hJ6 hb7
  go_wp2_with fail
  refine (SameChanges_true w7 w7.heap.size A6 A7 s.length k2 k3 s (els_ofC (hJ7.at_ 1 rfl) HS32.out) (els_ofC (hJ7.at_ 0 rfl) HS32.out) HS32.out rfl hsl2 (Nat.le_refl _)).mono ?_
  rintro e w8 ⟨rfl, hb8⟩
  have hJ8 := hJ7.call hb8
  clear hJ7 hb8
  go_wp2_with fail
  go_ret
  exact ⟨rfl, (hJ8.at_ 6 rfl).1⟩
end Go.Proofs.YtieobkgdkiahbaaDoor

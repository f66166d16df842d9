/- The law SnapshotDiffs. -/
import Derived.Test.YtieobkgdkiahbaaDoorLaw1
set_option linter.unusedSimpArgs false
set_option linter.unusedVariables false
set_option maxRecDepth 100000
namespace Go.Proofs.YtieobkgdkiahbaaDoor
open Go Go.RowKit Go.Adm

set_option maxHeartbeats 3200000 in
theorem walkDiffs (w : World) (m : Int) (hm : w.cell? ⟨0, 0, none⟩ = some (.int .i64 m)) (B : Nat) (A1 A2 : Option Addr) (n1 c1 n2 c2 : Nat) (a b : List E) (h1 : Els w B 33 A1 n1 (a.map entC)) (h2 : Els w B 33 A2 n2 (b.map entC)) (ha : ∀ e ∈ a, E32 e) (hb : ∀ e ∈ b, E32 e) (e1 : a.length = n1) (e2 : b.length = n2) (A : Option Addr) (nl cl : Nat) (L : List Int) (hL : Rd w B 1 A nl (L.map iv)) (hB : B ≤ w.heap.size) :
    Calls Tryd.prog 4 #[.slice A1 n1 c1, .slice A2 n2 c2, .slice A nl cl] w fun e w' => e = .returned (.bool true) ∧ Below w.heap.size w w' := by
  have hR : All w [.low (.els B 33 A1 n1 (a.map entC)), .low (.els B 33 A2 n2 (b.map entC)), .kept w w.heap.size] := ⟨⟨h1, hB⟩, ⟨h2, hB⟩, ⟨Below.refl _ _, Nat.le_refl _⟩, trivial⟩
  by_cases q1 : 200 < n1
  · have d1 : decide ((n1 : Int) ≤ 200) = false := by simp; omega
    have hc1 := light_any w A1 n1 c1
    rw [d1] at hc1
    go_enter Tryd.func4, Tryd.ntmps4
    go_wp2_with fail
    refine hc1.mono ?_
    rintro e w1 ⟨rfl, rfl⟩
    go_wp2_with fail
    go_ret
    exact ⟨rfl, Below.refl _ _⟩
  by_cases q2 : 200 < n2
  · have d1 : decide ((n1 : Int) ≤ 200) = true := by simp; omega
    have d2 : decide ((n2 : Int) ≤ 200) = false := by simp; omega
    have hc1 := light_any w A1 n1 c1
    rw [d1] at hc1
    have hc2 := light_any w A2 n2 c2
    rw [d2] at hc2
    go_enter Tryd.func4, Tryd.ntmps4
    go_wp2_with fail
    refine hc1.mono ?_
    rintro e w1 ⟨rfl, hw1⟩
    subst hw1
    go_wp2_with fail
    refine hc2.mono ?_
    rintro e w1 ⟨rfl, hw1⟩
    subst hw1
    go_wp2_with fail
    go_ret
    exact ⟨rfl, Below.refl _ _⟩
  have d1 : decide ((n1 : Int) ≤ 200) = true := by simp; omega
  have d2 : decide ((n2 : Int) ≤ 200) = true := by simp; omega
  have hc1 := light_any w A1 n1 c1
  rw [d1] at hc1
  have hc2 := light_any w A2 n2 c2
  rw [d2] at hc2
  clear d1 d2
  obtain ⟨hr32, hrl⟩ := pDiff_ok ha hb
  have HA := Lib.hid ha
  have HB := Lib.hid hb
  have HP1 : Hid (∀ W : World, All W [.low (.els B 33 A1 n1 (a.map entC)), .low (.els B 33 A2 n2 (b.map entC)), .kept w w.heap.size] → Calls Tryd.prog 18 #[.slice A1 n1 c1, .slice A2 n2 c2] W (ResPost chgC 65 (pDiff a b).1 (pDiff a b).2 70 W)) := Lib.hid fun W hW => Diff_any W B A1 A2 n1 c1 n2 c2 a b (hW.at_ 0 rfl : Els W B 33 A1 n1 (a.map entC) ∧ B ≤ W.heap.size).1 (hW.at_ 1 rfl : Els W B 33 A2 n2 (b.map entC) ∧ B ≤ W.heap.size).1 HA.out HB.out e1 e2 (by omega) (by omega) (hW.at_ 0 rfl : Els W B 33 A1 n1 (a.map entC) ∧ B ≤ W.heap.size).2
  have HP2 : Hid (∀ W : World, All W [.low (.els B 33 A1 n1 (a.map entC)), .low (.els B 33 A2 n2 (b.map entC)), .kept w w.heap.size] → Calls Tryd.prog 19 #[.slice A1 n1 c1, .slice A2 n2 c2] W (ResPost chgC 65 (pDiff a b).1 (pDiff a b).2 70 W)) := Lib.hid fun W hW => by
    have := refDiff_any W m (glob_keep hm (hW.at_ 2 rfl).1) B A1 A2 n1 c1 n2 c2 a b (hW.at_ 0 rfl : Els W B 33 A1 n1 (a.map entC) ∧ B ≤ W.heap.size).1 (hW.at_ 1 rfl : Els W B 33 A2 n2 (b.map entC) ∧ B ≤ W.heap.size).1 HA.out HB.out e1 e2 (by omega) (by omega) (hW.at_ 0 rfl : Els W B 33 A1 n1 (a.map entC) ∧ B ≤ W.heap.size).2
    rwa [pDiff_eq] at this
  have hrl2 : (pDiff a b).1.length ≤ 1000000 := by omega
  have HR32 := Lib.hid hr32
  have hc0 : Cells (w.alloc (.cells #[.slice A nl cl, .int .i64 ((0 : Nat) : Int)] 35)) w.heap.size 35 [.slice A nl cl, .int .i64 ((0 : Nat) : Int)] := Cells.new' w _ _ rfl rfl
  have hL1 := hL.alloc hB (.cells #[.slice A nl cl, .int .i64 ((0 : Nat) : Int)] 35)
  have hRn := hR.alloc (.cells #[.slice A nl cl, .int .i64 ((0 : Nat) : Int)] 35)
  have hs0 : (w.alloc (.cells #[.slice A nl cl, .int .i64 ((0 : Nat) : Int)] 35)).heap.size = w.heap.size + 1 := by simp
  clear hr32 hrl h1 h2 ha hb hL hR
  generalize (pDiff a b).1 = r at *
  generalize (pDiff a b).2 = er at *
  go_enter Tryd.func4, Tryd.ntmps4
  go_wp2_with fail
  refine hc1.mono ?_
  rintro e w1 ⟨rfl, hw1⟩
  rw [hw1]
  clear hw1
  clear hc1
  go_wp2_with fail
  refine hc2.mono ?_
  rintro e w2 ⟨rfl, hw2⟩
  rw [hw2]
  clear hw2
  clear hc2
  go_upto_region 4 with (fail)
  refine wp_genP (Pr := fun W => Cells W w.heap.size 35 [.slice A nl cl, .int .i64 ((0 : Nat) : Int)] ∧ Rd W B 1 A nl (L.map iv) ∧ All W [.low (.els B 33 A1 n1 (a.map entC)), .low (.els B 33 A2 n2 (b.map entC)), .kept w w.heap.size] ∧ W.heap.size = w.heap.size + 1) ⟨hc0, hL1, hRn, hs0⟩ ?_
  clear hc0 hL1 hRn hs0
  rintro W0 ⟨hc0, hL0, hR0, hs0⟩
  have HS0 := Lib.hid hs0
  have hs0' : w.heap.size + 1 ≤ W0.heap.size := by omega
  clear hs0
  go_wp2_with fail
  refine (TSnap_any W0 w.heap.size B A nl cl 0 L hc0 hL0 hB (by omega) 6 (by omega)).mono ?_
  rintro e v1 ⟨l1, p1, k1, m1, hl1, hm1, rfl, hg1, ho1, hc1, hgr1⟩
  rw [HS0.out] at ho1
  have HL : Hid (∀ W, W0.grownBy W (some w.heap.size) → Rd W B 1 A nl (L.map iv)) := Lib.hid (fun W hg => hL0.keep fun p hp => World.cell?_of_block (hg.block p.block (by omega) (fun e => by have := Option.some.inj e; omega)))
  have hs1 := hgr1.size
  clear hc0 hL0
  go_wp2_with fail
  refine (TEdit_any v1 w.heap.size B A nl cl (0 + 1 + m1) L hc1 (HL.out _ hgr1) hB (by omega) p1 k1 l1 hg1 ho1 (by omega)).mono ?_
  rintro e v2 ⟨l2, p2, k2, m2, hl2, hm2, rfl, hg2, ho2, hc2, hgr2⟩
  have hgr2' := hgr1.trans hgr2
  have hs2 := hgr2.size
  have hI2 : All v2 [.own (w.heap.size + 1) 72 33 p1 l1.length k1 (l1.map entC).flatten] := All.step hgr2 (⟨ho1, trivial⟩ : All v1 [.own (w.heap.size + 1) 72 33 p1 l1.length k1 (l1.map entC).flatten]) ⟨fun g' e => .inl (by injection e with e; omega), trivial⟩
  have hR2 : All v2 [.low (.els B 33 A1 n1 (a.map entC)), .low (.els B 33 A2 n2 (b.map entC)), .kept w w.heap.size] := All.step hgr2' hR0 ⟨fun g' e => by injection e with e; simp only [Low.els]; omega, fun g' e => by injection e with e; simp only [Low.els]; omega, fun g' e => by injection e with e; omega, trivial⟩
  have hJ0 : All v2 [.own (w.heap.size + 1) 72 33 p1 l1.length k1 (l1.map entC).flatten, .own (w.heap.size + 1) 72 33 p2 l2.length k2 (l2.map entC).flatten, .low (.els B 33 A1 n1 (a.map entC)), .low (.els B 33 A2 n2 (b.map entC)), .kept w w.heap.size] := ⟨hI2.1, ho2, hR2⟩
  clear hI2 hR2 hR0 ho1 ho2 hc1 hc2 HL hgr1 hgr2 hgr2'
  have HQ1 : Hid (∀ W : World, All W [.own (w.heap.size + 1) 72 33 p1 l1.length k1 (l1.map entC).flatten, .own (w.heap.size + 1) 72 33 p2 l2.length k2 (l2.map entC).flatten, .low (.els B 33 A1 n1 (a.map entC)), .low (.els B 33 A2 n2 (b.map entC)), .kept w w.heap.size] → Calls Tryd.prog 18 #[.slice p1 l1.length k1, .slice p2 l2.length k2] W (ResPost chgC 65 (pDiff l1 l2).1 (pDiff l1 l2).2 70 W)) := Lib.hid fun W hW => Diff_any W W.heap.size p1 p2 l1.length k1 l2.length k2 l1 l2 (els_ofE (hW.at_ 0 rfl) hg1.each) (els_ofE (hW.at_ 1 rfl) hg2.each) hg1.each hg2.each rfl rfl (by omega) (by omega) (Nat.le_refl _)
  have HQ2 : Hid (∀ W : World, All W [.own (w.heap.size + 1) 72 33 p1 l1.length k1 (l1.map entC).flatten, .own (w.heap.size + 1) 72 33 p2 l2.length k2 (l2.map entC).flatten, .low (.els B 33 A1 n1 (a.map entC)), .low (.els B 33 A2 n2 (b.map entC)), .kept w w.heap.size] → Calls Tryd.prog 19 #[.slice p1 l1.length k1, .slice p2 l2.length k2] W (ResPost chgC 65 (pDiff l1 l2).1 (pDiff l1 l2).2 70 W)) := Lib.hid fun W hW => by
    have := refDiff_any W m (glob_keep hm (hW.at_ 4 rfl).1) W.heap.size p1 p2 l1.length k1 l2.length k2 l1 l2 (els_ofE (hW.at_ 0 rfl) hg1.each) (els_ofE (hW.at_ 1 rfl) hg2.each) hg1.each hg2.each rfl rfl (by omega) (by omega) (Nat.le_refl _)
    rwa [pDiff_eq] at this
  obtain ⟨hq32, hql⟩ := pDiff_ok hg1.each hg2.each
  have hql2 : (pDiff l1 l2).1.length ≤ 1000000 := by omega
  have HS32 := Lib.hid hq32
  clear hq32 hql
  generalize (pDiff l1 l2).1 = s at *
  generalize (pDiff l1 l2).2 = es at *
  go_wp2_with fail
  refine (HP1.out v2 (((hJ0).erase 0).erase 0)).mono ?_
  rintro e u0 ⟨A4, q0, rfl, ho, hb⟩
  have hz0 : w.heap.size ≤ v2.heap.size := hJ0.size_kept 4 rfl
  have hK0 : All u0 [.own w.heap.size 70 65 A4 r.length q0 (r.map chgC).flatten, .own (w.heap.size + 1) 72 33 p1 l1.length k1 (l1.map entC).flatten, .own (w.heap.size + 1) 72 33 p2 l2.length k2 (l2.map entC).flatten, .low (.els B 33 A1 n1 (a.map entC)), .low (.els B 33 A2 n2 (b.map entC)), .kept w w.heap.size] := ⟨ho.less hz0, hJ0.call hb⟩
  clear HP1 ho hb hJ0
  go_wp2_with fail
  refine (HP2.out u0 ((((hK0).erase 0).erase 0).erase 0)).mono ?_
  rintro e u1 ⟨A5, q1, rfl, ho, hb⟩
  have hz1 : w.heap.size ≤ u0.heap.size := hK0.size_kept 5 rfl
  have hK1 : All u1 [.own w.heap.size 70 65 A5 r.length q1 (r.map chgC).flatten, .own w.heap.size 70 65 A4 r.length q0 (r.map chgC).flatten, .own (w.heap.size + 1) 72 33 p1 l1.length k1 (l1.map entC).flatten, .own (w.heap.size + 1) 72 33 p2 l2.length k2 (l2.map entC).flatten, .low (.els B 33 A1 n1 (a.map entC)), .low (.els B 33 A2 n2 (b.map entC)), .kept w w.heap.size] := ⟨ho.less hz1, hK0.call hb⟩
  clear HP2 ho hb hK0
  go_wp2_with fail
  refine (HQ1.out u1 (((hK1).erase 0).erase 0)).mono ?_
  rintro e u2 ⟨A6, q2, rfl, ho, hb⟩
  have hz2 : w.heap.size ≤ u1.heap.size := hK1.size_kept 6 rfl
  have hK2 : All u2 [.own w.heap.size 70 65 A6 s.length q2 (s.map chgC).flatten, .own w.heap.size 70 65 A5 r.length q1 (r.map chgC).flatten, .own w.heap.size 70 65 A4 r.length q0 (r.map chgC).flatten, .own (w.heap.size + 1) 72 33 p1 l1.length k1 (l1.map entC).flatten, .own (w.heap.size + 1) 72 33 p2 l2.length k2 (l2.map entC).flatten, .low (.els B 33 A1 n1 (a.map entC)), .low (.els B 33 A2 n2 (b.map entC)), .kept w w.heap.size] := ⟨ho.less hz2, hK1.call hb⟩
  clear HQ1 ho hb hK1
  go_wp2_with fail
  refine (HQ2.out u2 ((((hK2).erase 0).erase 0).erase 0)).mono ?_
  rintro e u3 ⟨A7, q3, rfl, ho, hb⟩
  have hz3 : w.heap.size ≤ u2.heap.size := hK2.size_kept 7 rfl
  have hK3 : All u3 [.own w.heap.size 70 65 A7 s.length q3 (s.map chgC).flatten, .own w.heap.size 70 65 A6 s.length q2 (s.map chgC).flatten, .own w.heap.size 70 65 A5 r.length q1 (r.map chgC).flatten, .own w.heap.size 70 65 A4 r.length q0 (r.map chgC).flatten, .own (w.heap.size + 1) 72 33 p1 l1.length k1 (l1.map entC).flatten, .own (w.heap.size + 1) 72 33 p2 l2.length k2 (l2.map entC).flatten, .low (.els B 33 A1 n1 (a.map entC)), .low (.els B 33 A2 n2 (b.map entC)), .kept w w.heap.size] := ⟨ho.less hz3, hK2.call hb⟩
  clear HQ2 ho hb hK2
  go_wp2_with fail
  refine (awake_any u3).mono ?_
  rintro e w6 ⟨rfl, hb6⟩
  have hJ6 := hK3.call hb6
  clear hK3 hb6
  go_wp2_with fail
  refine (SameChanges_true w6 w6.heap.size A4 A5 r.length q0 q1 r (els_ofC (hJ6.at_ 3 rfl) HR32.out) (els_ofC (hJ6.at_ 2 rfl) HR32.out) HR32.out rfl hrl2 (Nat.le_refl _)).mono ?_
  rintro e w7 ⟨rfl, hb7⟩
  have hJ7 := hJ6.call hb7
  clear hJ6 hb7
  go_wp2_with fail
  refine (SameChanges_true w7 w7.heap.size A6 A7 s.length q2 q3 s (els_ofC (hJ7.at_ 1 rfl) HS32.out) (els_ofC (hJ7.at_ 0 rfl) HS32.out) HS32.out rfl hql2 (Nat.le_refl _)).mono ?_
  rintro e w8 ⟨rfl, hb8⟩
  have hJ8 := hJ7.call hb8
  clear hJ7 hb8
  go_wp2_with fail
  go_ret
  exact ⟨rfl, (hJ8.at_ 8 rfl).1⟩
end Go.Proofs.YtieobkgdkiahbaaDoor

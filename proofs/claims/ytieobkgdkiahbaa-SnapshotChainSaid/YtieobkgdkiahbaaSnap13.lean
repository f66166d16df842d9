/- The law SnapshotChain. -/
import Derived.Test.YtieobkgdkiahbaaSnap11
import Derived.Test.YtieobkgdkiahbaaSnap12
set_option linter.unusedSimpArgs false
set_option linter.unusedVariables false
namespace Go.Adm
open Go Go.RowKit
theorem diff_compR {a b c : List E} (ha : GoodL a) (hb : GoodL b) (hc : GoodL c) (la : a.length ≤ 64) (lc : c.length ≤ 64) : compR (diff blt z32 a b) (diff blt z32 b c) = (diff blt z32 a c, 0) := by
  have hl := diff_len (lt := blt) (z := z32) a c
  unfold compR
  rw [diff_comp (lt := blt) (z := z32) sto_blt _ a b c (Nat.le_refl _) ha.asc hb.asc hc.asc ha.non hb.non hc.non]
  simp only
  rw [if_neg (by omega)]
end Go.Adm
namespace Go.Proofs.Ytieobkgdkiahbaa
open Go Go.RowKit Go.Adm
set_option maxRecDepth 100000 in
set_option maxHeartbeats 3200000 in
theorem walkChain (w : World) (B : Nat) (A : Option Addr) (nl cl : Nat) (L : List Int) (hL : Rd w B 1 A nl (L.map iv)) (hB : B ≤ w.heap.size) :
    Calls Try.prog 4 #[.slice A nl cl] w fun e w' => e = .returned (.bool true) ∧ Below w.heap.size w w' := by
  have hc0 : Cells (w.alloc (.cells #[.slice A nl cl, .int .i64 ((0 : Nat) : Int)] 25)) w.heap.size 25 [.slice A nl cl, .int .i64 ((0 : Nat) : Int)] := Cells.new' w _ _ rfl rfl
  have hL1 := hL.alloc hB (.cells #[.slice A nl cl, .int .i64 ((0 : Nat) : Int)] 25)
  have hk0 : Below w.heap.size w (w.alloc (.cells #[.slice A nl cl, .int .i64 ((0 : Nat) : Int)] 25)) := (Below.refl _ _).alloc (Nat.le_refl _) _
  have hs0 : (w.alloc (.cells #[.slice A nl cl, .int .i64 ((0 : Nat) : Int)] 25)).heap.size = w.heap.size + 1 := by simp
  go_enter Try.func4, Try.ntmps4
  go_upto_region 2 with (fail)
  refine wp_genP (Pr := fun W => Cells W w.heap.size 25 [.slice A nl cl, .int .i64 ((0 : Nat) : Int)] ∧ Rd W B 1 A nl (L.map iv) ∧ Below w.heap.size w W ∧ W.heap.size = w.heap.size + 1) ⟨hc0, hL1, hk0, hs0⟩ ?_
  clear hc0 hL1 hk0 hs0 hL
  rintro W0 ⟨hc0, hL0, hk0, hs0⟩
  have HS0 := Lib.hid hs0
  have hs0' : w.heap.size + 1 ≤ W0.heap.size := by omega
  clear hs0
  go_wp2_with fail
  refine (TSnap_any W0 w.heap.size B A nl cl 0 L hc0 hL0 hB (by omega) 6 (by omega)).mono ?_
  rintro e w1 ⟨l1, p1, c1, m1, hl1, hm1, rfl, hg1, ho1, hc1, hgr1⟩
  rw [HS0.out] at ho1
  have HL : Hid (∀ W, W0.grownBy W (some w.heap.size) → Rd W B 1 A nl (L.map iv)) := Lib.hid (fun W hg => hL0.keep fun p hp => World.cell?_of_block (hg.block p.block (by omega) (fun e => by have := Option.some.inj e; omega)))
  have hs1 := hgr1.size
  clear hc0 hL0
  go_wp2_with fail
  refine (TEdit_any w1 w.heap.size B A nl cl (0 + 1 + m1) L hc1 (HL.out _ hgr1) hB (by omega) p1 c1 l1 hg1 ho1 (by omega)).mono ?_
  rintro e w2 ⟨l2, p2, c2, m2, hl2, hm2, rfl, hg2, ho2, hc2, hgr2⟩
  have hgr2' := hgr1.trans hgr2
  have hs2 := hgr2.size
  have hI2 : All w2 [.own (w.heap.size + 1) 48 33 p1 l1.length c1 (l1.map entC).flatten] := All.step hgr2 (⟨ho1, trivial⟩ : All w1 [.own (w.heap.size + 1) 48 33 p1 l1.length c1 (l1.map entC).flatten]) ⟨fun g' e => .inl (by injection e with e; omega), trivial⟩
  clear ho1 hc1
  go_wp2_with fail
  refine (TEdit_any w2 w.heap.size B A nl cl (0 + 1 + m1 + 1 + m2) L hc2 (HL.out _ hgr2') hB (by omega) p2 c2 l2 hg2 ho2 (by omega)).mono ?_
  rintro e w3 ⟨l3, p3, c3, m3, hl3, hm3, rfl, hg3, ho3, hc3, hgr3⟩
  have hgr3' := hgr2'.trans hgr3
  have hs3 := hgr3.size
  have hI2b : All w2 [.own (w.heap.size + 1) 48 33 p1 l1.length c1 (l1.map entC).flatten, .own (w.heap.size + 1) 48 33 p2 l2.length c2 (l2.map entC).flatten] := ⟨hI2.1, ho2, trivial⟩
  have hI3 := All.step hgr3 hI2b ⟨fun g' e => .inl (by injection e with e; omega), fun g' e => .inl (by injection e with e; omega), trivial⟩
  have hk3 : Below w.heap.size w w3 := hk0.grown hgr3' (by omega) (fun k e => by injection e with e; omega)
  have hJ3 : All w3 [.own (w.heap.size + 1) 48 33 p1 l1.length c1 (l1.map entC).flatten, .own (w.heap.size + 1) 48 33 p2 l2.length c2 (l2.map entC).flatten, .own (w.heap.size + 1) 48 33 p3 l3.length c3 (l3.map entC).flatten, .kept w w.heap.size] := ⟨hI3.1, hI3.2.1, ho3, ⟨hk3, by omega⟩, trivial⟩
  clear hI2 hI2b hI3 ho2 ho3 hc2 hc3 hk0 hk3 HL hgr1 hgr2 hgr2' hgr3 hgr3'
  have hv1 := hg1.valid (by omega)
  have hv2 := hg2.valid (by omega)
  have hv3 := hg3.valid (by omega)
  have hd12 := Lib.hid (diff_32 l1 l2 hg1.each hg2.each)
  have hd23 := Lib.hid (diff_32 l2 l3 hg2.each hg3.each)
  have hd13 := Lib.hid (diff_32 l1 l3 hg1.each hg3.each)
  have hdc12 := Lib.hid (diff_changes hg1 hg2 (by omega) (by omega))
  have hdc23 := Lib.hid (diff_changes hg2 hg3 (by omega) (by omega))
  have hcr := Lib.hid (diff_compR hg1 hg2 hg3 (by omega) (by omega))
  have hdl12 := diff_len (lt := blt) (z := z32) l1 l2
  have hdl23 := diff_len (lt := blt) (z := z32) l2 l3
  have hdl13 := diff_len (lt := blt) (z := z32) l1 l3
  have HD12 : Hid (∀ (W : World) (h1 : All W [.own (w.heap.size + 1) 48 33 p1 l1.length c1 (l1.map entC).flatten, .own (w.heap.size + 1) 48 33 p2 l2.length c2 (l2.map entC).flatten, .own (w.heap.size + 1) 48 33 p3 l3.length c3 (l3.map entC).flatten, .kept w w.heap.size]), Calls Try.prog 7 #[.slice p1 l1.length c1, .slice p2 l2.length c2] W (ResPost chgC 65 (diff blt z32 l1 l2) 0 57 W)) := Lib.hid (fun W h => Diff_good W W.heap.size p1 p2 c1 c2 l1 l2 (els_of (h.at_ 0 rfl) hg1) (els_of (h.at_ 1 rfl) hg2) hg1.each hg2.each (by omega) (by omega) (Nat.le_refl _) hv1 hv2)
  have HD23 : Hid (∀ (W : World) (h1 : All W [.own (w.heap.size + 1) 48 33 p1 l1.length c1 (l1.map entC).flatten, .own (w.heap.size + 1) 48 33 p2 l2.length c2 (l2.map entC).flatten, .own (w.heap.size + 1) 48 33 p3 l3.length c3 (l3.map entC).flatten, .kept w w.heap.size]), Calls Try.prog 7 #[.slice p2 l2.length c2, .slice p3 l3.length c3] W (ResPost chgC 65 (diff blt z32 l2 l3) 0 57 W)) := Lib.hid (fun W h => Diff_good W W.heap.size p2 p3 c2 c3 l2 l3 (els_of (h.at_ 1 rfl) hg2) (els_of (h.at_ 2 rfl) hg3) hg2.each hg3.each (by omega) (by omega) (Nat.le_refl _) hv2 hv3)
  have HD13 : Hid (∀ (W : World) (h1 : All W [.own (w.heap.size + 1) 48 33 p1 l1.length c1 (l1.map entC).flatten, .own (w.heap.size + 1) 48 33 p2 l2.length c2 (l2.map entC).flatten, .own (w.heap.size + 1) 48 33 p3 l3.length c3 (l3.map entC).flatten, .kept w w.heap.size]), Calls Try.prog 7 #[.slice p1 l1.length c1, .slice p3 l3.length c3] W (ResPost chgC 65 (diff blt z32 l1 l3) 0 57 W)) := Lib.hid (fun W h => Diff_good W W.heap.size p1 p3 c1 c3 l1 l3 (els_of (h.at_ 0 rfl) hg1) (els_of (h.at_ 2 rfl) hg3) hg1.each hg3.each (by omega) (by omega) (Nat.le_refl _) hv1 hv3)
  generalize diff blt z32 l1 l2 = d1 at *
  generalize diff blt z32 l2 l3 = d2 at *
  generalize diff blt z32 l1 l3 = d3 at *
  go_wp2_with fail
  refine (HD12.out w3 hJ3).mono ?_
  rintro e w4 ⟨A4, q4, rfl, ho4, hb4⟩
  have hs4 := hb4.size
  have hJ4 : All w4 [.own (w.heap.size + 1) 57 65 A4 d1.length q4 (d1.map chgC).flatten, .own (w.heap.size + 1) 48 33 p1 l1.length c1 (l1.map entC).flatten, .own (w.heap.size + 1) 48 33 p2 l2.length c2 (l2.map entC).flatten, .own (w.heap.size + 1) 48 33 p3 l3.length c3 (l3.map entC).flatten, .kept w w.heap.size] := ⟨ho4.less (by omega), hJ3.call hb4⟩
  clear hJ3 ho4 hb4
  go_wp2_with fail
  refine (HD23.out w4 (hJ4.erase 0)).mono ?_
  rintro e w5 ⟨A5, q5, rfl, ho5, hb5⟩
  have hs5 := hb5.size
  have hJ5 : All w5 [.own (w.heap.size + 1) 57 65 A5 d2.length q5 (d2.map chgC).flatten, .own (w.heap.size + 1) 57 65 A4 d1.length q4 (d1.map chgC).flatten, .own (w.heap.size + 1) 48 33 p1 l1.length c1 (l1.map entC).flatten, .own (w.heap.size + 1) 48 33 p2 l2.length c2 (l2.map entC).flatten, .own (w.heap.size + 1) 48 33 p3 l3.length c3 (l3.map entC).flatten, .kept w w.heap.size] := ⟨ho5.less (by omega), hJ4.call hb5⟩
  clear hJ4 ho5 hb5
  go_wp2_with fail
  refine (Compose_good w5 w5.heap.size A4 A5 q4 q5 d1 d2 (elc_of (hJ5.at_ 1 rfl) hd12.out) (elc_of (hJ5.at_ 0 rfl) hd23.out) hd12.out hd23.out (by omega) (by omega) (Nat.le_refl _) hdc12.out hdc23.out).mono ?_
  rw [hcr.out]
  rintro e w6 ⟨A6, q6, rfl, ho6, hb6⟩
  have hs6 := hb6.size
  have hJ6 : All w6 [.own (w.heap.size + 1) 57 65 A6 d3.length q6 (d3.map chgC).flatten, .own (w.heap.size + 1) 48 33 p1 l1.length c1 (l1.map entC).flatten, .own (w.heap.size + 1) 48 33 p2 l2.length c2 (l2.map entC).flatten, .own (w.heap.size + 1) 48 33 p3 l3.length c3 (l3.map entC).flatten, .kept w w.heap.size] := ⟨ho6.less (by omega), ((hJ5.call hb6).erase 0).erase 0⟩
  clear hJ5 ho6 hb6
  go_wp2_with fail
  refine (HD13.out w6 (hJ6.erase 0)).mono ?_
  rintro e w7 ⟨A7, q7, rfl, ho7, hb7⟩
  have hs7 := hb7.size
  have hJ7 : All w7 [.own (w.heap.size + 1) 57 65 A7 d3.length q7 (d3.map chgC).flatten, .own (w.heap.size + 1) 57 65 A6 d3.length q6 (d3.map chgC).flatten, .kept w w.heap.size] := ⟨ho7.less (by omega), (((hJ6.call hb7).erase 1).erase 1).erase 1⟩
  clear hJ6 ho7 hb7
  go_wp2_with fail
  refine (awake_any w7).mono ?_
  rintro e w8 ⟨rfl, hb8⟩
  have hJ8 := hJ7.call hb8
  clear hJ7 hb8
  go_wp2_with fail
  refine (SameChanges_true w8 w8.heap.size A6 A7 d3.length q6 q7 d3 (elc_of (hJ8.at_ 1 rfl) hd13.out) (elc_of (hJ8.at_ 0 rfl) hd13.out) hd13.out rfl (by omega) (Nat.le_refl _)).mono ?_
  rintro e w9 ⟨rfl, hb9⟩
  have hJ9 := hJ8.call hb9
  clear hJ8 hb9
  go_wp2_with fail
  go_ret
  exact ⟨rfl, (hJ9.at_ 2 rfl).1⟩
end Go.Proofs.Ytieobkgdkiahbaa

/- The law SnapshotInverse. -/
import Derived.Test.YtieobkgdkiahbaaSnap10
set_option linter.unusedSimpArgs false
set_option linter.unusedVariables false
namespace Go.Proofs.Ytieobkgdkiahbaa
open Go Go.RowKit Go.Adm

theorem els_of {W : World} {base : Nat} {p : Option Addr} {c : Nat} {l : List E} (h : Go.Adm.Own W base 48 33 p l.length c (l.map entC).flatten) (hg : GoodL l) : Els W W.heap.size 33 p l.length (l.map entC) := Els.of h (ents_len hg.each) (by rw [List.length_map])
theorem elc_of {W : World} {base : Nat} {p : Option Addr} {c : Nat} {l : List C} (h : Go.Adm.Own W base 57 65 p l.length c (l.map chgC).flatten) (hg : ∀ x ∈ l, C32 x) : Els W W.heap.size 65 p l.length (l.map chgC) := Els.of h (chgs_len hg) (by rw [List.length_map])
set_option maxRecDepth 100000 in
set_option maxHeartbeats 3200000 in
theorem walkInverse (w : World) (B : Nat) (A : Option Addr) (nl cl : Nat) (L : List Int) (hL : Rd w B 1 A nl (L.map iv)) (hB : B ≤ w.heap.size) :
    Calls Try.prog 3 #[.slice A nl cl] w fun e w' => e = .returned (.bool true) ∧ Below w.heap.size w w' := by
  have hc0 : Cells (w.alloc (.cells #[.slice A nl cl, .int .i64 ((0 : Nat) : Int)] 25)) w.heap.size 25 [.slice A nl cl, .int .i64 ((0 : Nat) : Int)] := Cells.new' w _ _ rfl rfl
  have hL1 := hL.alloc hB (.cells #[.slice A nl cl, .int .i64 ((0 : Nat) : Int)] 25)
  have hk0 : Below w.heap.size w (w.alloc (.cells #[.slice A nl cl, .int .i64 ((0 : Nat) : Int)] 25)) := (Below.refl _ _).alloc (Nat.le_refl _) _
  have hs0 : (w.alloc (.cells #[.slice A nl cl, .int .i64 ((0 : Nat) : Int)] 25)).heap.size = w.heap.size + 1 := by simp
  go_enter Try.func3, Try.ntmps3
  go_upto_region 2 with (fail)
  refine wp_genP (Pr := fun W => Cells W w.heap.size 25 [.slice A nl cl, .int .i64 ((0 : Nat) : Int)] ∧ Rd W B 1 A nl (L.map iv) ∧ Below w.heap.size w W ∧ W.heap.size = w.heap.size + 1) ⟨hc0, hL1, hk0, hs0⟩ ?_
  clear hc0 hL1 hk0 hs0 hL
  rintro W0 ⟨hc0, hL0, hk0, hs0⟩
  have HS0 := Lib.hid hs0
  have hs0' : w.heap.size + 1 ≤ W0.heap.size := by omega
  clear hs0
  go_wp2_with fail
  refine (TSnap_any W0 w.heap.size B A nl cl 0 L hc0 hL0 hB (by omega) 8 (by omega)).mono ?_
  rintro e w1 ⟨l1, p1, c1, m1, hl1, hm1, rfl, hg1, ho1, hc1, hgr1⟩
  rw [HS0.out] at ho1
  have HL : Hid (∀ W, W0.grownBy W (some w.heap.size) → Rd W B 1 A nl (L.map iv)) := Lib.hid (fun W hg => hL0.keep fun p hp => World.cell?_of_block (hg.block p.block (by omega) (fun e => by have := Option.some.inj e; omega)))
  have hs1 := hgr1.size
  clear hc0 hL0
  go_wp2_with fail
  refine (TEdit_any w1 w.heap.size B A nl cl (0 + 1 + m1) L hc1 (HL.out _ hgr1) hB (by omega) p1 c1 l1 hg1 ho1 (by omega)).mono ?_
  rintro e w2 ⟨l2, p2, c2, m2, hl2, hm2, rfl, hg2, ho2, hc2, hgr2⟩
  have hgr2' := hgr1.trans hgr2
  have hs2 := hgr2.size
  have hI2 : All w2 [.own (w.heap.size + 1) 48 33 p1 l1.length c1 (l1.map entC).flatten] := All.step hgr2 (⟨ho1, trivial⟩ : All w1 [.own (w.heap.size + 1) 48 33 p1 l1.length c1 (l1.map entC).flatten]) ⟨fun g' e => .inl (by injection e with e; omega), trivial⟩
  clear ho1 hc1
  go_wp2_with fail
  refine (TEdit_any w2 w.heap.size B A nl cl (0 + 1 + m1 + 1 + m2) L hc2 (HL.out _ hgr2') hB (by omega) p2 c2 l2 hg2 ho2 (by omega)).mono ?_
  rintro e w3 ⟨l3, p3, c3, m3, hl3, hm3, rfl, hg3, ho3, hc3, hgr3⟩
  have hgr3' := hgr2'.trans hgr3
  have hs3 := hgr3.size
  have hI3 := All.step hgr3 hI2 ⟨fun g' e => .inl (by injection e with e; omega), trivial⟩
  have hk3 : Below w.heap.size w w3 := hk0.grown hgr3' (by omega) (fun k e => by injection e with e; omega)
  have hJ3 : All w3 [.own (w.heap.size + 1) 48 33 p1 l1.length c1 (l1.map entC).flatten, .own (w.heap.size + 1) 48 33 p3 l3.length c3 (l3.map entC).flatten, .kept w w.heap.size] := ⟨hI3.1, ho3, ⟨hk3, by omega⟩, trivial⟩
  clear hI2 hI3 ho2 ho3 hc2 hc3 hk0 hk3 HL hgr1 hgr2 hgr2' hgr3 hgr3'
  have hv1 := hg1.valid (by omega)
  have hv3 := hg3.valid (by omega)
  have hd := Diff_good w3 w3.heap.size p1 p3 c1 c3 l1 l3 (els_of (hJ3.at_ 0 rfl) hg1) (els_of (hJ3.at_ 1 rfl) hg3) hg1.each hg3.each (by omega) (by omega) (Nat.le_refl _) hv1 hv3
  have hd32 := Lib.hid (diff_32 l1 l3 hg1.each hg3.each)
  have hdc := Lib.hid (diff_changes hg1 hg3 (by omega) (by omega))
  have hda := Lib.hid (diff_appR hg1 hg3 (by omega))
  have hdi := Lib.hid (diff_invS hg1 hg3 (by omega) (by omega))
  have hd32' := Lib.hid (diff_32 l3 l1 hg3.each hg1.each)
  have hdc' := Lib.hid (diff_changes hg3 hg1 (by omega) (by omega))
  have hda' := Lib.hid (diff_appR hg3 hg1 (by omega))
  have hdl := diff_len (lt := blt) (z := z32) l1 l3
  have hdl' := diff_len (lt := blt) (z := z32) l3 l1
  have HD' : Hid (∀ (W : World) (h1 : All W [.own (w.heap.size + 1) 48 33 p1 l1.length c1 (l1.map entC).flatten, .own (w.heap.size + 1) 48 33 p3 l3.length c3 (l3.map entC).flatten, .kept w w.heap.size]), Calls Try.prog 7 #[.slice p3 l3.length c3, .slice p1 l1.length c1] W (ResPost chgC 65 (diff blt z32 l3 l1) 0 57 W)) := Lib.hid (fun W h => Diff_good W W.heap.size p3 p1 c3 c1 l3 l1 (els_of (h.at_ 1 rfl) hg3) (els_of (h.at_ 0 rfl) hg1) hg3.each hg1.each (by omega) (by omega) (Nat.le_refl _) hv3 hv1)
  generalize diff blt z32 l1 l3 = d1 at *
  generalize diff blt z32 l3 l1 = d3 at *
  go_wp2_with fail
  refine hd.mono ?_
  rintro e w4 ⟨A4, c4, rfl, ho4, hb4⟩
  have hs4 := hb4.size
  have hJ4 : All w4 [.own (w.heap.size + 1) 57 65 A4 d1.length c4 (d1.map chgC).flatten, .own (w.heap.size + 1) 48 33 p1 l1.length c1 (l1.map entC).flatten, .own (w.heap.size + 1) 48 33 p3 l3.length c3 (l3.map entC).flatten, .kept w w.heap.size] := ⟨ho4.less (by omega), hJ3.call hb4⟩
  clear hd hJ3 ho4 hb4
  go_wp2_with fail
  refine (Apply_good w4 w4.heap.size p1 A4 c1 c4 l1 d1 (els_of (hJ4.at_ 1 rfl) hg1) (elc_of (hJ4.at_ 0 rfl) hd32.out) hg1.each hd32.out (by omega) (by omega) (Nat.le_refl _) hv1 hdc.out).mono ?_
  rw [hda.out]
  rintro e w5 ⟨A5, c5, rfl, ho5, hb5⟩
  have hs5 := hb5.size
  have hJ5 : All w5 [.own (w.heap.size + 1) 48 33 A5 l3.length c5 (l3.map entC).flatten, .own (w.heap.size + 1) 57 65 A4 d1.length c4 (d1.map chgC).flatten, .own (w.heap.size + 1) 48 33 p1 l1.length c1 (l1.map entC).flatten, .own (w.heap.size + 1) 48 33 p3 l3.length c3 (l3.map entC).flatten, .kept w w.heap.size] := ⟨ho5.less (by omega), hJ4.call hb5⟩
  clear hJ4 ho5 hb5
  go_wp2_with fail
  refine (Invert_any w5 w5.heap.size A4 d1.length c4 d1 (elc_of (hJ5.at_ 1 rfl) hd32.out) hd32.out rfl (by omega) (Nat.le_refl _)).mono ?_
  rw [hdi.out]
  rintro e w6 ⟨A6, c6, rfl, ho6, hb6⟩
  have hs6 := hb6.size
  have hJ6 : All w6 [.own (w.heap.size + 1) 57 65 A6 d3.length c6 (d3.map chgC).flatten, .own (w.heap.size + 1) 48 33 A5 l3.length c5 (l3.map entC).flatten, .own (w.heap.size + 1) 48 33 p1 l1.length c1 (l1.map entC).flatten, .own (w.heap.size + 1) 48 33 p3 l3.length c3 (l3.map entC).flatten, .kept w w.heap.size] := ⟨ho6.less (by omega), (hJ5.call hb6).erase 1⟩
  clear hJ5 ho6 hb6
  go_wp2_with fail
  refine (Apply_good w6 w6.heap.size p3 A6 c3 c6 l3 d3 (els_of (hJ6.at_ 3 rfl) hg3) (elc_of (hJ6.at_ 0 rfl) hd32'.out) hg3.each hd32'.out (by omega) (by omega) (Nat.le_refl _) hv3 hdc'.out).mono ?_
  rw [hda'.out]
  rintro e w7 ⟨A7, c7, rfl, ho7, hb7⟩
  have hs7 := hb7.size
  have hJ7 : All w7 [.own (w.heap.size + 1) 48 33 A7 l1.length c7 (l1.map entC).flatten, .own (w.heap.size + 1) 57 65 A6 d3.length c6 (d3.map chgC).flatten, .own (w.heap.size + 1) 48 33 A5 l3.length c5 (l3.map entC).flatten, .own (w.heap.size + 1) 48 33 p1 l1.length c1 (l1.map entC).flatten, .own (w.heap.size + 1) 48 33 p3 l3.length c3 (l3.map entC).flatten, .kept w w.heap.size] := ⟨ho7.less (by omega), hJ6.call hb7⟩
  clear hJ6 ho7 hb7
  go_wp2_with fail
  refine (HD'.out w7 ((hJ7.erase 0).erase 0 |>.erase 0)).mono ?_
  rintro e w8 ⟨A8, c8, rfl, ho8, hb8⟩
  have hs8 := hb8.size
  have hJ8 : All w8 [.own (w.heap.size + 1) 57 65 A8 d3.length c8 (d3.map chgC).flatten, .own (w.heap.size + 1) 48 33 A7 l1.length c7 (l1.map entC).flatten, .own (w.heap.size + 1) 57 65 A6 d3.length c6 (d3.map chgC).flatten, .own (w.heap.size + 1) 48 33 A5 l3.length c5 (l3.map entC).flatten, .own (w.heap.size + 1) 48 33 p1 l1.length c1 (l1.map entC).flatten, .own (w.heap.size + 1) 48 33 p3 l3.length c3 (l3.map entC).flatten, .kept w w.heap.size] := ⟨ho8.less (by omega), hJ7.call hb8⟩
  clear hJ7 ho8 hb8
  go_wp2_with fail
  refine (awake_any w8).mono ?_
  rintro e w9 ⟨rfl, hb9⟩
  have hJ9 := hJ8.call hb9
  clear hJ8 hb9
  go_wp2_with fail
  refine (Same_true w9 w9.heap.size A5 p3 l3.length c5 c3 l3 (els_of (hJ9.at_ 3 rfl) hg3) (els_of (hJ9.at_ 5 rfl) hg3) hg3.each rfl (by omega) (Nat.le_refl _)).mono ?_
  rintro e w10 ⟨rfl, hb10⟩
  have hJ10 := hJ9.call hb10
  clear hJ9 hb10
  go_wp2_with fail
  refine (Same_true w10 w10.heap.size A7 p1 l1.length c7 c1 l1 (els_of (hJ10.at_ 1 rfl) hg1) (els_of (hJ10.at_ 4 rfl) hg1) hg1.each rfl (by omega) (Nat.le_refl _)).mono ?_
  rintro e w11 ⟨rfl, hb11⟩
  have hJ11 := hJ10.call hb11
  clear hJ10 hb11
  go_wp2_with fail
  refine (SameChanges_true w11 w11.heap.size A6 A8 d3.length c6 c8 d3 (elc_of (hJ11.at_ 2 rfl) hd32'.out) (elc_of (hJ11.at_ 0 rfl) hd32'.out) hd32'.out rfl (by omega) (Nat.le_refl _)).mono ?_
  rintro e w12 ⟨rfl, hb12⟩
  have hJ12 := hJ11.call hb12
  clear hJ11 hb12
  go_wp2_with fail
  go_ret
  exact ⟨rfl, (hJ12.at_ 6 rfl).1⟩
end Go.Proofs.Ytieobkgdkiahbaa

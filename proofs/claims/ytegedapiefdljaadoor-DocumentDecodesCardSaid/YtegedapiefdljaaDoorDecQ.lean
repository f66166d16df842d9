/- Equality of documents, where they are alike. -/
import Derived.Test.YtegedapiefdljaaDoorGen2
import Derived.Test.YtegedapiefdljaaDoorDoc3
import Derived.Test.YtegedapiefdljaaDoorDoc8
import Derived.LoopIn
import Derived.Handy
import Derived.BigFrame
import Derived.Deep.Cut
set_option linter.unusedSimpArgs false
set_option linter.unusedVariables false
set_option maxRecDepth 100000
namespace Go.Proofs.YtegedapiefdljaaDoor
open Go Go.RowKit Go.Adm
set_option maxHeartbeats 1600000 in
theorem wSame_true (w : World) (B : Nat) (A1 A2 : Option Addr) (n c1 c2 : Nat) (ss : List ByteArray) (h1 : Strs w B A1 n ss) (h2 : Strs w B A2 n ss) (hB : B ≤ w.heap.size) (hn : n ≤ 9223372036854775807) :
    Calls Tryd.prog 17 #[.slice A1 n c1, .slice A2 n c2] w fun e w' => e = .returned (.bool true) ∧ Below w.heap.size w w' := by
  have HN := Lib.hid h1.len
  have H1 := Lib.hid h1
  have H2 := Lib.hid h2
  clear h1 h2
  go_enter Tryd.func17, Tryd.ntmps17
  go_wp2
  go_loopw [5] (fun i wr => ∃ k : Nat, k ≤ n ∧ i = .int .i64 k ∧ All wr [.kept w w.heap.size]) (fun i _ => n - (intOf i).toNat)
  case atStart => exact ⟨0, by omega, rfl, ⟨Below.refl _ _, Nat.le_refl _⟩, trivial⟩
  case round =>
    obtain ⟨k, hk, rfl, hI⟩ := hrel
    have hkp := (hI.at_ 0 rfl : _ ∧ _).1
    by_cases hlt : k < n
    · have hkl : k < ss.length := by rw [HN.out]; exact hlt
      obtain ⟨a1, rfl, x1, _⟩ := H1.out.at_in hkp hB hkl
      obtain ⟨a2, rfl, x2, _⟩ := H2.out.at_in hkp hB hkl
      generalize ss[k] = x at *
      have d1 : decide ((k : Int) < (n : Int)) = true := by simp; omega
      have wk0 : (0 : Int) ≤ (k : Int) := by omega
      have wk1 : (k : Int) < (n : Int) := by omega
      have wk2 : ((k : Int)).toNat = k := by omega
      have q1 : (x.toList == x.toList) = true := by simp
      go_upto_region 6 with (fail)
      go_quiet (fail)
      have hI1 := hI.drewN nq
      clear x1 x2 hI hkp
      generalize wr.drewN nq = wq at *
      go_wp2_with fail
      exact ⟨⟨k + 1, by omega, by go_num, hI1⟩, by simp [intOf]; omega⟩
    · have d1 : decide ((k : Int) < (n : Int)) = false := by simp; omega
      go_wp2_with fail
      go_ret
      exact ⟨rfl, hkp⟩

set_option maxHeartbeats 1600000 in
theorem SameLines_true (w : World) (B : Nat) (A1 A2 : Option Addr) (n c1 c2 : Nat) (ls : List (List ByteArray)) (h1 : Lines w B A1 n ls) (h2 : Lines w B A2 n ls) (hB : B ≤ w.heap.size) (hn : n ≤ 1000000) :
    Calls Tryd.prog 8 #[.slice A1 n c1, .slice A2 n c2] w fun e w' => e = .returned (.bool true) ∧ Below w.heap.size w w' := by
  have HN := Lib.hid h1.len
  have H1 := Lib.hid h1
  have H2 := Lib.hid h2
  clear h1 h2
  go_enter Tryd.func8, Tryd.ntmps8
  go_wp2
  go_loopw [5] (fun i wr => ∃ k : Nat, k ≤ n ∧ i = .int .i64 k ∧ All wr [.kept w w.heap.size]) (fun i _ => n - (intOf i).toNat)
  case atStart => exact ⟨0, by omega, rfl, ⟨Below.refl _ _, Nat.le_refl _⟩, trivial⟩
  case round =>
    obtain ⟨k, hk, rfl, hI⟩ := hrel
    have hkp := (hI.at_ 0 rfl : _ ∧ _).1
    by_cases hlt : k < n
    · have hkl : k < ls.length := by rw [HN.out]; exact hlt
      obtain ⟨a1, R1, e1, rfl, b1, x1, y1, z1, s1⟩ := H1.out.at_ hkl
      obtain ⟨a2, R2, e2, rfl, b2, x2, y2, z2, s2⟩ := H2.out.at_ hkl
      have HX : Hid (∀ W, Below w.heap.size w W → W.cell? (a1.add k) = some (.slice R1 ls[k].length e1) ∧ W.cell? (a2.add k) = some (.slice R2 ls[k].length e2) ∧ Strs W B R1 ls[k].length ls[k] ∧ Strs W B R2 ls[k].length ls[k]) := Lib.hid (fun W hb => ⟨(hb.cell (by rw [add_block]; omega)).trans x1, (hb.cell (by rw [add_block]; omega)).trans x2, s1.below hb hB, s2.below hb hB⟩)
      have hrl : ls[k].length ≤ 9223372036854775807 := Nat.le_trans y1 z1
      clear x1 x2 s1 s2 y1 y2 z1 z2
      generalize ls[k] = row at *
      have d1 : decide ((k : Int) < (n : Int)) = true := by simp; omega
      have wk0 : (0 : Int) ≤ (k : Int) := by omega
      have wk1 : (k : Int) < (n : Int) := by omega
      have wk2 : ((k : Int)).toNat = k := by omega
      go_upto_region 6 with (fail)
      refine wp_region_hops 9 [17, 18, 19, 20, 21, 22, 23, 24, 25] [.kept w w.heap.size]
        [.eq (.slice (some a1) n c1), .eq (.int .i64 k), .eq (.pointer (some (a1.add k))), .eq (.slice R1 row.length e1), .eq (.slice (some a2) n c2), .eq (.int .i64 k), .eq (.pointer (some (a2.add k))), .eq (.slice R2 row.length e2), .eq (.bool true)]
        (by kernel_rfl) (by kernel_rfl) hI rfl ?hops ?fin
      case hops =>
        refine ⟨?_, ?_, ?_, ?_, ?_, ?_, ?_, ?_, ?_, trivial⟩
        · intro a W hW hb hd K hK
          have b0 := hb 0 rfl
          go_simp
          exact hK _ _ (World.grownBy.refl _ _) rfl
        · intro a W hW hb hd K hK
          have b5 := hb 5 rfl
          go_simp
          exact hK _ _ (World.grownBy.refl _ _) rfl
        · intro a W hW hb hd K hK
          have b17 : a.tmps[17]?.getD undef = _ := hd ⟨0, .data⟩ (by simp) rfl
          have b18 : a.tmps[18]?.getD undef = _ := hd ⟨1, .data⟩ (by simp) rfl
          go_simp
          exact hK _ _ (World.grownBy.refl _ _) rfl
        · intro a W hW hb hd K hK
          have b19 : a.tmps[19]?.getD undef = _ := hd ⟨2, .data⟩ (by simp) rfl
          have q1 : W.cell? (a1.add k) = some (.slice R1 row.length e1) := (HX.out W (hW.at_ 0 rfl : _ ∧ _).1).1
          go_simp
          exact hK _ _ (World.grownBy.refl _ _) rfl
        · intro a W hW hb hd K hK
          have b1 := hb 1 rfl
          go_simp
          exact hK _ _ (World.grownBy.refl _ _) rfl
        · intro a W hW hb hd K hK
          have b5 := hb 5 rfl
          go_simp
          exact hK _ _ (World.grownBy.refl _ _) rfl
        · intro a W hW hb hd K hK
          have b21 : a.tmps[21]?.getD undef = _ := hd ⟨4, .data⟩ (by simp) rfl
          have b22 : a.tmps[22]?.getD undef = _ := hd ⟨5, .data⟩ (by simp) rfl
          go_simp
          exact hK _ _ (World.grownBy.refl _ _) rfl
        · intro a W hW hb hd K hK
          have b23 : a.tmps[23]?.getD undef = _ := hd ⟨6, .data⟩ (by simp) rfl
          have q1 : W.cell? (a2.add k) = some (.slice R2 row.length e2) := (HX.out W (hW.at_ 0 rfl : _ ∧ _).1).2.1
          go_simp
          exact hK _ _ (World.grownBy.refl _ _) rfl
        · intro a W hW hb hd K hK
          have b20 : a.tmps[20]?.getD undef = _ := hd ⟨3, .data⟩ (by simp) rfl
          have b24 : a.tmps[24]?.getD undef = _ := hd ⟨7, .data⟩ (by simp) rfl
          go_simp
          refine (wSame_true W B R1 R2 row.length e1 e2 row (HX.out W (hW.at_ 0 rfl : _ ∧ _).1).2.2.1 (HX.out W (hW.at_ 0 rfl : _ ∧ _).1).2.2.2 (Nat.le_trans hB (hW.at_ 0 rfl : _ ∧ _).2) hrl).mono ?_
          rintro e w' ⟨rfl, hb'⟩
          exact hK _ _ (grown_of_below hb') rfl
      case fin =>
        intro vs V hV hv
        have e8 : vs 8 = _ := hv 8 (by decide)
        clear hv
        simp only [putAll, List.drop_succ_cons, List.drop_zero, e8, Act.put, List.setIfInBounds_toArray, List.set_cons_succ, List.set_cons_zero]
        clear e8
        go_wp2_with fail
        exact ⟨⟨k + 1, by omega, by go_num, hV⟩, by simp [intOf]; omega⟩
    · have d1 : decide ((k : Int) < (n : Int)) = false := by simp; omega
      go_wp2_with fail
      go_ret
      exact ⟨rfl, hkp⟩
end Go.Proofs.YtegedapiefdljaaDoor

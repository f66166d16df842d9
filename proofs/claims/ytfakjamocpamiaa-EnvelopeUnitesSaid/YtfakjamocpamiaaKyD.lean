/- Shaped. Shaped, all cases; equality of halves and digests. -/
import Derived.Test.YtfakjamocpamiaaKyC
import Derived.Test.YtfakjamocpamiaaGen2
set_option linter.unusedSimpArgs false
set_option linter.unusedVariables false
namespace Go.Adm
open Go Go.RowKit
def sgCells (leaf : Int) (Ac : Option Addr) (nc cc : Nat) (Ap : Option Addr) (np cp : Nat) : List Value := [.int .i64 leaf, .slice Ac nc cc, .slice Ap np cp]
theorem pow_cast (h : Nat) (hh : h ≤ 6) : wrap64 ((2 : Int) ^ h) = ((2 ^ h : Nat) : Int) := by
 obtain ⟨hp1, hp2⟩ := pow_le64 h hh
 have e1 : ((2 ^ h : Nat) : Int) = (2 : Int) ^ h := by simp
 have e2 : ((2 ^ h : Nat) : Int) ≤ 64 := by omega
 rw [← e1]
 exact IntWalk.wrap64_in ((2 ^ h : Nat) : Int) ⟨by omega, by omega⟩
end Go.Adm
namespace Go.Proofs.Ytfakjamocpamiaa
open Go Go.RowKit Go.Adm

set_option maxRecDepth 100000 in
set_option maxHeartbeats 3200000 in
theorem Shaped_0 (w : World) (r : List UInt8) (hr : r.length = 16) (leaf : Int) (Ac : Option Addr) (nc cc : Nat) (Ap : Option Addr) (np cp : Nat) (h : Int) (hh : hOk h = false)  :
  Calls Try.prog 26 #[.agg (pkCells h r).toArray, .agg (sgCells leaf Ac nc cc Ap np cp).toArray] w fun e w' => e = .returned (.bool false) ∧ Below w.heap.size w w' := by
 have hR : All w [.kept w w.heap.size] := ⟨⟨Below.refl _ _, Nat.le_refl _⟩, trivial⟩
 have hrl := Lib.hid hr
 have hok := Lib.hid hh
 clear hh
 clear hr
 go_enter Try.func26, Try.ntmps26
 go_wp2
 have hI := (hR.new (pkCells h r).toArray 62 rfl rfl).new (sgCells leaf Ac nc cc Ap np cp).toArray 60 (g := w.heap.size + 1) (by simp) rfl
 refine wp_region_hops 29 [5, 6, 7, 8, 9, 10, 11, 12, 13, 14, 15, 16, 17, 18, 19, 20, 21, 22, 23, 24, 25, 26, 27, 28, 29, 30, 31, 32, 33] _
  [.eq (.agg (pkCells h r).toArray), .eq (.bool false), .eq (.bool false), .eq undef, .eq undef, .eq undef, .eq (.bool false), .eq (.bool false), .eq undef, .eq undef, .eq undef, .eq undef, .eq undef, .eq undef, .eq (.bool false), .eq (.bool false), .eq undef, .eq undef, .eq undef, .eq undef, .eq (.bool false), .eq (.bool false), .eq undef, .eq undef, .eq undef, .eq undef, .eq undef, .eq undef, .eq (.bool false)]
  (by kernel_rfl) (by kernel_rfl) hI rfl ?hops ?fin
 case hops =>
  refine ⟨?_, ?_, ?_, ?_, ?_, ?_, ?_, ?_, ?_, ?_, ?_, ?_, ?_, ?_, ?_, ?_, ?_, ?_, ?_, ?_, ?_, ?_, ?_, ?_, ?_, ?_, ?_, ?_, ?_, trivial⟩
  ·intro a W hW hb hd K hK
   have b2 := hb 2 rfl
   refine wp_load_mid 62 (.tmp 2) rfl w.heap.size 0 (by simp [Act.eval, b2]) (pkCells h r) _ (Cells.range (hW.at_ 1 rfl)) Try.underlying62 rfl (by rw [pk_len _ _ hrl.out]; kernel_rfl) ?_
   exact hK _ _ (World.grownBy.refl _ _) rfl
  ·intro a W hW hb hd K hK
   have b5 : a.tmps[5]?.getD undef = _ := hd ⟨0, .data⟩ (by simp) rfl
   go_simp
   refine (Valid_any W h r).mono ?_
   rintro e w' ⟨rfl, rfl⟩
   exact hK _ _ (grown_alloc _ _) (congrArg Value.bool hok.out)
  ·intro a W hW hb hd K hK
   have b6 : a.tmps[6]?.getD undef = _ := hd ⟨1, .data⟩ (by simp) rfl
   go_simp
   exact hK _ _ (World.grownBy.refl _ _) rfl
  ·exact Or.inr ⟨fun v w h => h, fun w => rfl⟩
  ·exact Or.inr ⟨fun v w h => h, fun w => rfl⟩
  ·exact Or.inr ⟨fun v w h => h, fun w => rfl⟩
  ·intro a W hW hb hd K hK
   have b7 : a.tmps[7]?.getD undef = _ := hd ⟨2, .data⟩ (by simp) rfl
   have b10 : a.tmps[10]?.getD undef = _ := hd ⟨5, .data⟩ (by simp) rfl
   go_simp
   exact hK _ _ (World.grownBy.refl _ _) rfl
  ·intro a W hW hb hd K hK
   have b11 : a.tmps[11]?.getD undef = _ := hd ⟨6, .data⟩ (by simp) rfl
   go_simp
   exact hK _ _ (World.grownBy.refl _ _) rfl
  ·exact Or.inr ⟨fun v w h => h, fun w => rfl⟩
  ·exact Or.inr ⟨fun v w h => h, fun w => rfl⟩
  ·exact Or.inr ⟨fun v w h => h, fun w => rfl⟩
  ·exact Or.inr ⟨fun v w h => h, fun w => rfl⟩
  ·exact Or.inr ⟨fun v w h => h, fun w => rfl⟩
  ·exact Or.inr ⟨fun v w h => h, fun w => rfl⟩
  ·intro a W hW hb hd K hK
   have b12 : a.tmps[12]?.getD undef = _ := hd ⟨7, .data⟩ (by simp) rfl
   have b18 : a.tmps[18]?.getD undef = _ := hd ⟨13, .data⟩ (by simp) rfl
   go_simp
   exact hK _ _ (World.grownBy.refl _ _) rfl
  ·intro a W hW hb hd K hK
   have b19 : a.tmps[19]?.getD undef = _ := hd ⟨14, .data⟩ (by simp) rfl
   go_simp
   exact hK _ _ (World.grownBy.refl _ _) rfl
  ·exact Or.inr ⟨fun v w h => h, fun w => rfl⟩
  ·exact Or.inr ⟨fun v w h => h, fun w => rfl⟩
  ·exact Or.inr ⟨fun v w h => h, fun w => rfl⟩
  ·exact Or.inr ⟨fun v w h => h, fun w => rfl⟩
  ·intro a W hW hb hd K hK
   have b20 : a.tmps[20]?.getD undef = _ := hd ⟨15, .data⟩ (by simp) rfl
   have b24 : a.tmps[24]?.getD undef = _ := hd ⟨19, .data⟩ (by simp) rfl
   go_simp
   exact hK _ _ (World.grownBy.refl _ _) rfl
  ·intro a W hW hb hd K hK
   have b25 : a.tmps[25]?.getD undef = _ := hd ⟨20, .data⟩ (by simp) rfl
   go_simp
   exact hK _ _ (World.grownBy.refl _ _) rfl
  ·exact Or.inr ⟨fun v w h => h, fun w => rfl⟩
  ·exact Or.inr ⟨fun v w h => h, fun w => rfl⟩
  ·exact Or.inr ⟨fun v w h => h, fun w => rfl⟩
  ·exact Or.inr ⟨fun v w h => h, fun w => rfl⟩
  ·exact Or.inr ⟨fun v w h => h, fun w => rfl⟩
  ·exact Or.inr ⟨fun v w h => h, fun w => rfl⟩
  ·intro a W hW hb hd K hK
   have b26 : a.tmps[26]?.getD undef = _ := hd ⟨21, .data⟩ (by simp) rfl
   have b32 : a.tmps[32]?.getD undef = _ := hd ⟨27, .data⟩ (by simp) rfl
   go_simp
   exact hK _ _ (World.grownBy.refl _ _) rfl
 case fin =>
  intro vs W hW hv
  have e28 : vs 28 = _ := hv 28 (by decide)
  have hk := (hW.at_ 2 rfl).1
  clear hv hI hW
  simp only [putAll, List.drop_succ_cons, List.drop_zero, e28, Act.put, List.setIfInBounds_toArray, List.set_cons_succ, List.set_cons_zero]
  clear e28
  go_wp2
  go_ret
  exact ⟨rfl, hk⟩

set_option maxRecDepth 100000 in
set_option maxHeartbeats 3200000 in
theorem Shaped_1 (w : World) (r : List UInt8) (hr : r.length = 16) (leaf : Int) (Ac : Option Addr) (nc cc : Nat) (Ap : Option Addr) (np cp : Nat) (h : Nat) (hh : h ≤ 6) (d1 : decide (0 ≤ leaf) = false) :
  Calls Try.prog 26 #[.agg (pkCells h r).toArray, .agg (sgCells leaf Ac nc cc Ap np cp).toArray] w fun e w' => e = .returned (.bool false) ∧ Below w.heap.size w w' := by
 have hR : All w [.kept w w.heap.size] := ⟨⟨Below.refl _ _, Nat.le_refl _⟩, trivial⟩
 have hrl := Lib.hid hr
 have hok : Hid (hOk h = true) := Lib.hid ((hOk_iff _).2 ⟨by omega, by omega⟩)
 clear hr
 go_enter Try.func26, Try.ntmps26
 go_wp2
 have hI := (hR.new (pkCells h r).toArray 62 rfl rfl).new (sgCells leaf Ac nc cc Ap np cp).toArray 60 (g := w.heap.size + 1) (by simp) rfl
 refine wp_region_hops 29 [5, 6, 7, 8, 9, 10, 11, 12, 13, 14, 15, 16, 17, 18, 19, 20, 21, 22, 23, 24, 25, 26, 27, 28, 29, 30, 31, 32, 33] _
  [.eq (.agg (pkCells h r).toArray), .eq (.bool true), .eq (.bool true), .eq (.pointer (some ⟨w.heap.size + 1, 0, none⟩)), .eq (.int .i64 leaf), .eq (.bool false), .eq (.bool false), .eq (.bool false), .eq undef, .eq undef, .eq undef, .eq undef, .eq undef, .eq undef, .eq (.bool false), .eq (.bool false), .eq undef, .eq undef, .eq undef, .eq undef, .eq (.bool false), .eq (.bool false), .eq undef, .eq undef, .eq undef, .eq undef, .eq undef, .eq undef, .eq (.bool false)]
  (by kernel_rfl) (by kernel_rfl) hI rfl ?hops ?fin
 case hops =>
  refine ⟨?_, ?_, ?_, ?_, ?_, ?_, ?_, ?_, ?_, ?_, ?_, ?_, ?_, ?_, ?_, ?_, ?_, ?_, ?_, ?_, ?_, ?_, ?_, ?_, ?_, ?_, ?_, ?_, ?_, trivial⟩
  ·intro a W hW hb hd K hK
   have b2 := hb 2 rfl
   refine wp_load_mid 62 (.tmp 2) rfl w.heap.size 0 (by simp [Act.eval, b2]) (pkCells h r) _ (Cells.range (hW.at_ 1 rfl)) Try.underlying62 rfl (by rw [pk_len _ _ hrl.out]; kernel_rfl) ?_
   exact hK _ _ (World.grownBy.refl _ _) rfl
  ·intro a W hW hb hd K hK
   have b5 : a.tmps[5]?.getD undef = _ := hd ⟨0, .data⟩ (by simp) rfl
   go_simp
   refine (Valid_any W h r).mono ?_
   rintro e w' ⟨rfl, rfl⟩
   exact hK _ _ (grown_alloc _ _) (congrArg Value.bool hok.out)
  ·intro a W hW hb hd K hK
   have b6 : a.tmps[6]?.getD undef = _ := hd ⟨1, .data⟩ (by simp) rfl
   go_simp
   exact hK _ _ (World.grownBy.refl _ _) rfl
  ·refine Or.inl ⟨fun v w h => h, ?_⟩
   intro a W hW hb hd K hK
   have b3 := hb 3 rfl
   go_simp
   exact hK _ _ (World.grownBy.refl _ _) rfl
  ·refine Or.inl ⟨fun v w h => h, ?_⟩
   intro a W hW hb hd K hK
   have b8 : a.tmps[8]?.getD undef = _ := hd ⟨3, .data⟩ (by simp) rfl
   have cc1 : W.cell? ⟨w.heap.size + 1, 0, none⟩ = some (.int .i64 leaf) := Cells.cell (hW.at_ 0 rfl) (i := 0) (by simp [sgCells])
   go_simp
   exact hK _ _ (World.grownBy.refl _ _) rfl
  ·refine Or.inl ⟨fun v w h => h, ?_⟩
   intro a W hW hb hd K hK
   have b9 : a.tmps[9]?.getD undef = _ := hd ⟨4, .data⟩ (by simp) rfl
   go_simp
   exact hK _ _ (World.grownBy.refl _ _) rfl
  ·intro a W hW hb hd K hK
   have b7 : a.tmps[7]?.getD undef = _ := hd ⟨2, .data⟩ (by simp) rfl
   have b10 : a.tmps[10]?.getD undef = _ := hd ⟨5, .data⟩ (by simp) rfl
   go_simp
   exact hK _ _ (World.grownBy.refl _ _) rfl
  ·intro a W hW hb hd K hK
   have b11 : a.tmps[11]?.getD undef = _ := hd ⟨6, .data⟩ (by simp) rfl
   go_simp
   exact hK _ _ (World.grownBy.refl _ _) rfl
  ·exact Or.inr ⟨fun v w h => h, fun w => rfl⟩
  ·exact Or.inr ⟨fun v w h => h, fun w => rfl⟩
  ·exact Or.inr ⟨fun v w h => h, fun w => rfl⟩
  ·exact Or.inr ⟨fun v w h => h, fun w => rfl⟩
  ·exact Or.inr ⟨fun v w h => h, fun w => rfl⟩
  ·exact Or.inr ⟨fun v w h => h, fun w => rfl⟩
  ·intro a W hW hb hd K hK
   have b12 : a.tmps[12]?.getD undef = _ := hd ⟨7, .data⟩ (by simp) rfl
   have b18 : a.tmps[18]?.getD undef = _ := hd ⟨13, .data⟩ (by simp) rfl
   go_simp
   exact hK _ _ (World.grownBy.refl _ _) rfl
  ·intro a W hW hb hd K hK
   have b19 : a.tmps[19]?.getD undef = _ := hd ⟨14, .data⟩ (by simp) rfl
   go_simp
   exact hK _ _ (World.grownBy.refl _ _) rfl
  ·exact Or.inr ⟨fun v w h => h, fun w => rfl⟩
  ·exact Or.inr ⟨fun v w h => h, fun w => rfl⟩
  ·exact Or.inr ⟨fun v w h => h, fun w => rfl⟩
  ·exact Or.inr ⟨fun v w h => h, fun w => rfl⟩
  ·intro a W hW hb hd K hK
   have b20 : a.tmps[20]?.getD undef = _ := hd ⟨15, .data⟩ (by simp) rfl
   have b24 : a.tmps[24]?.getD undef = _ := hd ⟨19, .data⟩ (by simp) rfl
   go_simp
   exact hK _ _ (World.grownBy.refl _ _) rfl
  ·intro a W hW hb hd K hK
   have b25 : a.tmps[25]?.getD undef = _ := hd ⟨20, .data⟩ (by simp) rfl
   go_simp
   exact hK _ _ (World.grownBy.refl _ _) rfl
  ·exact Or.inr ⟨fun v w h => h, fun w => rfl⟩
  ·exact Or.inr ⟨fun v w h => h, fun w => rfl⟩
  ·exact Or.inr ⟨fun v w h => h, fun w => rfl⟩
  ·exact Or.inr ⟨fun v w h => h, fun w => rfl⟩
  ·exact Or.inr ⟨fun v w h => h, fun w => rfl⟩
  ·exact Or.inr ⟨fun v w h => h, fun w => rfl⟩
  ·intro a W hW hb hd K hK
   have b26 : a.tmps[26]?.getD undef = _ := hd ⟨21, .data⟩ (by simp) rfl
   have b32 : a.tmps[32]?.getD undef = _ := hd ⟨27, .data⟩ (by simp) rfl
   go_simp
   exact hK _ _ (World.grownBy.refl _ _) rfl
 case fin =>
  intro vs W hW hv
  have e28 : vs 28 = _ := hv 28 (by decide)
  have hk := (hW.at_ 2 rfl).1
  clear hv hI hW
  simp only [putAll, List.drop_succ_cons, List.drop_zero, e28, Act.put, List.setIfInBounds_toArray, List.set_cons_succ, List.set_cons_zero]
  clear e28
  go_wp2
  go_ret
  exact ⟨rfl, hk⟩

set_option maxRecDepth 100000 in
set_option maxHeartbeats 3200000 in
theorem Shaped_2 (w : World) (r : List UInt8) (hr : r.length = 16) (leaf : Int) (Ac : Option Addr) (nc cc : Nat) (Ap : Option Addr) (np cp : Nat) (h : Nat) (hh : h ≤ 6) (d1 : decide (0 ≤ leaf) = true) (d2 : decide (leaf < ((2 ^ h : Nat) : Int)) = false) :
  Calls Try.prog 26 #[.agg (pkCells h r).toArray, .agg (sgCells leaf Ac nc cc Ap np cp).toArray] w fun e w' => e = .returned (.bool false) ∧ Below w.heap.size w w' := by
 have hR : All w [.kept w w.heap.size] := ⟨⟨Below.refl _ _, Nat.le_refl _⟩, trivial⟩
 have hrl := Lib.hid hr
 have hok : Hid (hOk h = true) := Lib.hid ((hOk_iff _).2 ⟨by omega, by omega⟩)
 have hsh := pow_cast h hh
 obtain ⟨hp1, hp2⟩ := pow_le64 h hh
 generalize hN : (2 : Nat) ^ h = N at *
 clear hN
 have hsw : IntKind.i64.wrap ((2 : Int) ^ h) = (N : Int) := (IntWalk.i64_left _).trans hsh
 clear hr
 go_enter Try.func26, Try.ntmps26
 go_wp2
 have hI := (hR.new (pkCells h r).toArray 62 rfl rfl).new (sgCells leaf Ac nc cc Ap np cp).toArray 60 (g := w.heap.size + 1) (by simp) rfl
 refine wp_region_hops 29 [5, 6, 7, 8, 9, 10, 11, 12, 13, 14, 15, 16, 17, 18, 19, 20, 21, 22, 23, 24, 25, 26, 27, 28, 29, 30, 31, 32, 33] _
  [.eq (.agg (pkCells h r).toArray), .eq (.bool true), .eq (.bool true), .eq (.pointer (some ⟨w.heap.size + 1, 0, none⟩)), .eq (.int .i64 leaf), .eq (.bool true), .eq (.bool true), .eq (.bool true), .eq (.pointer (some ⟨w.heap.size + 1, 0, none⟩)), .eq (.int .i64 leaf), .eq (.pointer (some ⟨w.heap.size, 0, none⟩)), .eq (.int .i64 h), .eq (.int .i64 (N : Nat)), .eq (.bool false), .eq (.bool false), .eq (.bool false), .eq undef, .eq undef, .eq undef, .eq undef, .eq (.bool false), .eq (.bool false), .eq undef, .eq undef, .eq undef, .eq undef, .eq undef, .eq undef, .eq (.bool false)]
  (by kernel_rfl) (by kernel_rfl) hI rfl ?hops ?fin
 case hops =>
  refine ⟨?_, ?_, ?_, ?_, ?_, ?_, ?_, ?_, ?_, ?_, ?_, ?_, ?_, ?_, ?_, ?_, ?_, ?_, ?_, ?_, ?_, ?_, ?_, ?_, ?_, ?_, ?_, ?_, ?_, trivial⟩
  ·intro a W hW hb hd K hK
   have b2 := hb 2 rfl
   refine wp_load_mid 62 (.tmp 2) rfl w.heap.size 0 (by simp [Act.eval, b2]) (pkCells h r) _ (Cells.range (hW.at_ 1 rfl)) Try.underlying62 rfl (by rw [pk_len _ _ hrl.out]; kernel_rfl) ?_
   exact hK _ _ (World.grownBy.refl _ _) rfl
  ·intro a W hW hb hd K hK
   have b5 : a.tmps[5]?.getD undef = _ := hd ⟨0, .data⟩ (by simp) rfl
   go_simp
   refine (Valid_any W h r).mono ?_
   rintro e w' ⟨rfl, rfl⟩
   exact hK _ _ (grown_alloc _ _) (congrArg Value.bool hok.out)
  ·intro a W hW hb hd K hK
   have b6 : a.tmps[6]?.getD undef = _ := hd ⟨1, .data⟩ (by simp) rfl
   go_simp
   exact hK _ _ (World.grownBy.refl _ _) rfl
  ·refine Or.inl ⟨fun v w h => h, ?_⟩
   intro a W hW hb hd K hK
   have b3 := hb 3 rfl
   go_simp
   exact hK _ _ (World.grownBy.refl _ _) rfl
  ·refine Or.inl ⟨fun v w h => h, ?_⟩
   intro a W hW hb hd K hK
   have b8 : a.tmps[8]?.getD undef = _ := hd ⟨3, .data⟩ (by simp) rfl
   have cc1 : W.cell? ⟨w.heap.size + 1, 0, none⟩ = some (.int .i64 leaf) := Cells.cell (hW.at_ 0 rfl) (i := 0) (by simp [sgCells])
   go_simp
   exact hK _ _ (World.grownBy.refl _ _) rfl
  ·refine Or.inl ⟨fun v w h => h, ?_⟩
   intro a W hW hb hd K hK
   have b9 : a.tmps[9]?.getD undef = _ := hd ⟨4, .data⟩ (by simp) rfl
   go_simp
   exact hK _ _ (World.grownBy.refl _ _) rfl
  ·intro a W hW hb hd K hK
   have b7 : a.tmps[7]?.getD undef = _ := hd ⟨2, .data⟩ (by simp) rfl
   have b10 : a.tmps[10]?.getD undef = _ := hd ⟨5, .data⟩ (by simp) rfl
   go_simp
   exact hK _ _ (World.grownBy.refl _ _) rfl
  ·intro a W hW hb hd K hK
   have b11 : a.tmps[11]?.getD undef = _ := hd ⟨6, .data⟩ (by simp) rfl
   go_simp
   exact hK _ _ (World.grownBy.refl _ _) rfl
  ·refine Or.inl ⟨fun v w h => h, ?_⟩
   intro a W hW hb hd K hK
   have b3 := hb 3 rfl
   go_simp
   exact hK _ _ (World.grownBy.refl _ _) rfl
  ·refine Or.inl ⟨fun v w h => h, ?_⟩
   intro a W hW hb hd K hK
   have b13 : a.tmps[13]?.getD undef = _ := hd ⟨8, .data⟩ (by simp) rfl
   have cc1 : W.cell? ⟨w.heap.size + 1, 0, none⟩ = some (.int .i64 leaf) := Cells.cell (hW.at_ 0 rfl) (i := 0) (by simp [sgCells])
   go_simp
   exact hK _ _ (World.grownBy.refl _ _) rfl
  ·refine Or.inl ⟨fun v w h => h, ?_⟩
   intro a W hW hb hd K hK
   have b2 := hb 2 rfl
   go_simp
   exact hK _ _ (World.grownBy.refl _ _) rfl
  ·refine Or.inl ⟨fun v w h => h, ?_⟩
   intro a W hW hb hd K hK
   have b15 : a.tmps[15]?.getD undef = _ := hd ⟨10, .data⟩ (by simp) rfl
   have cc2 : W.cell? ⟨w.heap.size, 0, none⟩ = some (.int .i64 h) := Cells.cell (hW.at_ 1 rfl) (i := 0) (by simp [pkCells])
   go_simp
   exact hK _ _ (World.grownBy.refl _ _) rfl
  ·refine Or.inl ⟨fun v w h => h, ?_⟩
   intro a W hW hb hd K hK
   have b16 : a.tmps[16]?.getD undef = _ := hd ⟨11, .data⟩ (by simp) rfl
   go_simp
   exact hK _ _ (World.grownBy.refl _ _) rfl
  ·refine Or.inl ⟨fun v w h => h, ?_⟩
   intro a W hW hb hd K hK
   have b14 : a.tmps[14]?.getD undef = _ := hd ⟨9, .data⟩ (by simp) rfl
   have b17 : a.tmps[17]?.getD undef = _ := hd ⟨12, .data⟩ (by simp) rfl
   go_simp
   exact hK _ _ (World.grownBy.refl _ _) rfl
  ·intro a W hW hb hd K hK
   have b12 : a.tmps[12]?.getD undef = _ := hd ⟨7, .data⟩ (by simp) rfl
   have b18 : a.tmps[18]?.getD undef = _ := hd ⟨13, .data⟩ (by simp) rfl
   go_simp
   exact hK _ _ (World.grownBy.refl _ _) rfl
  ·intro a W hW hb hd K hK
   have b19 : a.tmps[19]?.getD undef = _ := hd ⟨14, .data⟩ (by simp) rfl
   go_simp
   exact hK _ _ (World.grownBy.refl _ _) rfl
  ·exact Or.inr ⟨fun v w h => h, fun w => rfl⟩
  ·exact Or.inr ⟨fun v w h => h, fun w => rfl⟩
  ·exact Or.inr ⟨fun v w h => h, fun w => rfl⟩
  ·exact Or.inr ⟨fun v w h => h, fun w => rfl⟩
  ·intro a W hW hb hd K hK
   have b20 : a.tmps[20]?.getD undef = _ := hd ⟨15, .data⟩ (by simp) rfl
   have b24 : a.tmps[24]?.getD undef = _ := hd ⟨19, .data⟩ (by simp) rfl
   go_simp
   exact hK _ _ (World.grownBy.refl _ _) rfl
  ·intro a W hW hb hd K hK
   have b25 : a.tmps[25]?.getD undef = _ := hd ⟨20, .data⟩ (by simp) rfl
   go_simp
   exact hK _ _ (World.grownBy.refl _ _) rfl
  ·exact Or.inr ⟨fun v w h => h, fun w => rfl⟩
  ·exact Or.inr ⟨fun v w h => h, fun w => rfl⟩
  ·exact Or.inr ⟨fun v w h => h, fun w => rfl⟩
  ·exact Or.inr ⟨fun v w h => h, fun w => rfl⟩
  ·exact Or.inr ⟨fun v w h => h, fun w => rfl⟩
  ·exact Or.inr ⟨fun v w h => h, fun w => rfl⟩
  ·intro a W hW hb hd K hK
   have b26 : a.tmps[26]?.getD undef = _ := hd ⟨21, .data⟩ (by simp) rfl
   have b32 : a.tmps[32]?.getD undef = _ := hd ⟨27, .data⟩ (by simp) rfl
   go_simp
   exact hK _ _ (World.grownBy.refl _ _) rfl
 case fin =>
  intro vs W hW hv
  have e28 : vs 28 = _ := hv 28 (by decide)
  have hk := (hW.at_ 2 rfl).1
  clear hv hI hW
  simp only [putAll, List.drop_succ_cons, List.drop_zero, e28, Act.put, List.setIfInBounds_toArray, List.set_cons_succ, List.set_cons_zero]
  clear e28
  go_wp2
  go_ret
  exact ⟨rfl, hk⟩

set_option maxRecDepth 100000 in
set_option maxHeartbeats 3200000 in
theorem Shaped_3 (w : World) (r : List UInt8) (hr : r.length = 16) (leaf : Int) (Ac : Option Addr) (nc cc : Nat) (Ap : Option Addr) (np cp : Nat) (h : Nat) (hh : h ≤ 6) (d1 : decide (0 ≤ leaf) = true) (d2 : decide (leaf < ((2 ^ h : Nat) : Int)) = true) (d3 : ((nc : Int) == 68) = false) :
  Calls Try.prog 26 #[.agg (pkCells h r).toArray, .agg (sgCells leaf Ac nc cc Ap np cp).toArray] w fun e w' => e = .returned (.bool false) ∧ Below w.heap.size w w' := by
 have hR : All w [.kept w w.heap.size] := ⟨⟨Below.refl _ _, Nat.le_refl _⟩, trivial⟩
 have hrl := Lib.hid hr
 have hok : Hid (hOk h = true) := Lib.hid ((hOk_iff _).2 ⟨by omega, by omega⟩)
 have hsh := pow_cast h hh
 obtain ⟨hp1, hp2⟩ := pow_le64 h hh
 generalize hN : (2 : Nat) ^ h = N at *
 clear hN
 have hsw : IntKind.i64.wrap ((2 : Int) ^ h) = (N : Int) := (IntWalk.i64_left _).trans hsh
 clear hr
 go_enter Try.func26, Try.ntmps26
 go_wp2
 have hI := (hR.new (pkCells h r).toArray 62 rfl rfl).new (sgCells leaf Ac nc cc Ap np cp).toArray 60 (g := w.heap.size + 1) (by simp) rfl
 refine wp_region_hops 29 [5, 6, 7, 8, 9, 10, 11, 12, 13, 14, 15, 16, 17, 18, 19, 20, 21, 22, 23, 24, 25, 26, 27, 28, 29, 30, 31, 32, 33] _
  [.eq (.agg (pkCells h r).toArray), .eq (.bool true), .eq (.bool true), .eq (.pointer (some ⟨w.heap.size + 1, 0, none⟩)), .eq (.int .i64 leaf), .eq (.bool true), .eq (.bool true), .eq (.bool true), .eq (.pointer (some ⟨w.heap.size + 1, 0, none⟩)), .eq (.int .i64 leaf), .eq (.pointer (some ⟨w.heap.size, 0, none⟩)), .eq (.int .i64 h), .eq (.int .i64 (N : Nat)), .eq (.bool true), .eq (.bool true), .eq (.bool true), .eq (.pointer (some ⟨w.heap.size + 1, 1, none⟩)), .eq (.slice Ac nc cc), .eq (.int .i64 nc), .eq (.bool false), .eq (.bool false), .eq (.bool false), .eq undef, .eq undef, .eq undef, .eq undef, .eq undef, .eq undef, .eq (.bool false)]
  (by kernel_rfl) (by kernel_rfl) hI rfl ?hops ?fin
 case hops =>
  refine ⟨?_, ?_, ?_, ?_, ?_, ?_, ?_, ?_, ?_, ?_, ?_, ?_, ?_, ?_, ?_, ?_, ?_, ?_, ?_, ?_, ?_, ?_, ?_, ?_, ?_, ?_, ?_, ?_, ?_, trivial⟩
  ·intro a W hW hb hd K hK
   have b2 := hb 2 rfl
   refine wp_load_mid 62 (.tmp 2) rfl w.heap.size 0 (by simp [Act.eval, b2]) (pkCells h r) _ (Cells.range (hW.at_ 1 rfl)) Try.underlying62 rfl (by rw [pk_len _ _ hrl.out]; kernel_rfl) ?_
   exact hK _ _ (World.grownBy.refl _ _) rfl
  ·intro a W hW hb hd K hK
   have b5 : a.tmps[5]?.getD undef = _ := hd ⟨0, .data⟩ (by simp) rfl
   go_simp
   refine (Valid_any W h r).mono ?_
   rintro e w' ⟨rfl, rfl⟩
   exact hK _ _ (grown_alloc _ _) (congrArg Value.bool hok.out)
  ·intro a W hW hb hd K hK
   have b6 : a.tmps[6]?.getD undef = _ := hd ⟨1, .data⟩ (by simp) rfl
   go_simp
   exact hK _ _ (World.grownBy.refl _ _) rfl
  ·refine Or.inl ⟨fun v w h => h, ?_⟩
   intro a W hW hb hd K hK
   have b3 := hb 3 rfl
   go_simp
   exact hK _ _ (World.grownBy.refl _ _) rfl
  ·refine Or.inl ⟨fun v w h => h, ?_⟩
   intro a W hW hb hd K hK
   have b8 : a.tmps[8]?.getD undef = _ := hd ⟨3, .data⟩ (by simp) rfl
   have cc1 : W.cell? ⟨w.heap.size + 1, 0, none⟩ = some (.int .i64 leaf) := Cells.cell (hW.at_ 0 rfl) (i := 0) (by simp [sgCells])
   go_simp
   exact hK _ _ (World.grownBy.refl _ _) rfl
  ·refine Or.inl ⟨fun v w h => h, ?_⟩
   intro a W hW hb hd K hK
   have b9 : a.tmps[9]?.getD undef = _ := hd ⟨4, .data⟩ (by simp) rfl
   go_simp
   exact hK _ _ (World.grownBy.refl _ _) rfl
  ·intro a W hW hb hd K hK
   have b7 : a.tmps[7]?.getD undef = _ := hd ⟨2, .data⟩ (by simp) rfl
   have b10 : a.tmps[10]?.getD undef = _ := hd ⟨5, .data⟩ (by simp) rfl
   go_simp
   exact hK _ _ (World.grownBy.refl _ _) rfl
  ·intro a W hW hb hd K hK
   have b11 : a.tmps[11]?.getD undef = _ := hd ⟨6, .data⟩ (by simp) rfl
   go_simp
   exact hK _ _ (World.grownBy.refl _ _) rfl
  ·refine Or.inl ⟨fun v w h => h, ?_⟩
   intro a W hW hb hd K hK
   have b3 := hb 3 rfl
   go_simp
   exact hK _ _ (World.grownBy.refl _ _) rfl
  ·refine Or.inl ⟨fun v w h => h, ?_⟩
   intro a W hW hb hd K hK
   have b13 : a.tmps[13]?.getD undef = _ := hd ⟨8, .data⟩ (by simp) rfl
   have cc1 : W.cell? ⟨w.heap.size + 1, 0, none⟩ = some (.int .i64 leaf) := Cells.cell (hW.at_ 0 rfl) (i := 0) (by simp [sgCells])
   go_simp
   exact hK _ _ (World.grownBy.refl _ _) rfl
  ·refine Or.inl ⟨fun v w h => h, ?_⟩
   intro a W hW hb hd K hK
   have b2 := hb 2 rfl
   go_simp
   exact hK _ _ (World.grownBy.refl _ _) rfl
  ·refine Or.inl ⟨fun v w h => h, ?_⟩
   intro a W hW hb hd K hK
   have b15 : a.tmps[15]?.getD undef = _ := hd ⟨10, .data⟩ (by simp) rfl
   have cc2 : W.cell? ⟨w.heap.size, 0, none⟩ = some (.int .i64 h) := Cells.cell (hW.at_ 1 rfl) (i := 0) (by simp [pkCells])
   go_simp
   exact hK _ _ (World.grownBy.refl _ _) rfl
  ·refine Or.inl ⟨fun v w h => h, ?_⟩
   intro a W hW hb hd K hK
   have b16 : a.tmps[16]?.getD undef = _ := hd ⟨11, .data⟩ (by simp) rfl
   go_simp
   exact hK _ _ (World.grownBy.refl _ _) rfl
  ·refine Or.inl ⟨fun v w h => h, ?_⟩
   intro a W hW hb hd K hK
   have b14 : a.tmps[14]?.getD undef = _ := hd ⟨9, .data⟩ (by simp) rfl
   have b17 : a.tmps[17]?.getD undef = _ := hd ⟨12, .data⟩ (by simp) rfl
   go_simp
   exact hK _ _ (World.grownBy.refl _ _) rfl
  ·intro a W hW hb hd K hK
   have b12 : a.tmps[12]?.getD undef = _ := hd ⟨7, .data⟩ (by simp) rfl
   have b18 : a.tmps[18]?.getD undef = _ := hd ⟨13, .data⟩ (by simp) rfl
   go_simp
   exact hK _ _ (World.grownBy.refl _ _) rfl
  ·intro a W hW hb hd K hK
   have b19 : a.tmps[19]?.getD undef = _ := hd ⟨14, .data⟩ (by simp) rfl
   go_simp
   exact hK _ _ (World.grownBy.refl _ _) rfl
  ·refine Or.inl ⟨fun v w h => h, ?_⟩
   intro a W hW hb hd K hK
   have b3 := hb 3 rfl
   go_simp
   exact hK _ _ (World.grownBy.refl _ _) rfl
  ·refine Or.inl ⟨fun v w h => h, ?_⟩
   intro a W hW hb hd K hK
   have b21 : a.tmps[21]?.getD undef = _ := hd ⟨16, .data⟩ (by simp) rfl
   have cc3 : W.cell? ⟨w.heap.size + 1, 1, none⟩ = some (.slice Ac nc cc) := Cells.cell (hW.at_ 0 rfl) (i := 1) (by simp [sgCells])
   go_simp
   exact hK _ _ (World.grownBy.refl _ _) rfl
  ·refine Or.inl ⟨fun v w h => h, ?_⟩
   intro a W hW hb hd K hK
   have b22 : a.tmps[22]?.getD undef = _ := hd ⟨17, .data⟩ (by simp) rfl
   go_simp
   exact hK _ _ (World.grownBy.refl _ _) rfl
  ·refine Or.inl ⟨fun v w h => h, ?_⟩
   intro a W hW hb hd K hK
   have b23 : a.tmps[23]?.getD undef = _ := hd ⟨18, .data⟩ (by simp) rfl
   go_simp
   exact hK _ _ (World.grownBy.refl _ _) rfl
  ·intro a W hW hb hd K hK
   have b20 : a.tmps[20]?.getD undef = _ := hd ⟨15, .data⟩ (by simp) rfl
   have b24 : a.tmps[24]?.getD undef = _ := hd ⟨19, .data⟩ (by simp) rfl
   go_simp
   exact hK _ _ (World.grownBy.refl _ _) rfl
  ·intro a W hW hb hd K hK
   have b25 : a.tmps[25]?.getD undef = _ := hd ⟨20, .data⟩ (by simp) rfl
   go_simp
   exact hK _ _ (World.grownBy.refl _ _) rfl
  ·exact Or.inr ⟨fun v w h => h, fun w => rfl⟩
  ·exact Or.inr ⟨fun v w h => h, fun w => rfl⟩
  ·exact Or.inr ⟨fun v w h => h, fun w => rfl⟩
  ·exact Or.inr ⟨fun v w h => h, fun w => rfl⟩
  ·exact Or.inr ⟨fun v w h => h, fun w => rfl⟩
  ·exact Or.inr ⟨fun v w h => h, fun w => rfl⟩
  ·intro a W hW hb hd K hK
   have b26 : a.tmps[26]?.getD undef = _ := hd ⟨21, .data⟩ (by simp) rfl
   have b32 : a.tmps[32]?.getD undef = _ := hd ⟨27, .data⟩ (by simp) rfl
   go_simp
   exact hK _ _ (World.grownBy.refl _ _) rfl
 case fin =>
  intro vs W hW hv
  have e28 : vs 28 = _ := hv 28 (by decide)
  have hk := (hW.at_ 2 rfl).1
  clear hv hI hW
  simp only [putAll, List.drop_succ_cons, List.drop_zero, e28, Act.put, List.setIfInBounds_toArray, List.set_cons_succ, List.set_cons_zero]
  clear e28
  go_wp2
  go_ret
  exact ⟨rfl, hk⟩

set_option maxRecDepth 100000 in
set_option maxHeartbeats 3200000 in
theorem Shaped_4 (w : World) (r : List UInt8) (hr : r.length = 16) (leaf : Int) (Ac : Option Addr) (nc cc : Nat) (Ap : Option Addr) (np cp : Nat) (h : Nat) (hh : h ≤ 6) (d1 : decide (0 ≤ leaf) = true) (d2 : decide (leaf < ((2 ^ h : Nat) : Int)) = true) (d3 : ((nc : Int) == 68) = true) (d4 : ((np : Int) == (h : Int)) = false) :
  Calls Try.prog 26 #[.agg (pkCells h r).toArray, .agg (sgCells leaf Ac nc cc Ap np cp).toArray] w fun e w' => e = .returned (.bool false) ∧ Below w.heap.size w w' := by
 have hR : All w [.kept w w.heap.size] := ⟨⟨Below.refl _ _, Nat.le_refl _⟩, trivial⟩
 have hrl := Lib.hid hr
 have hok : Hid (hOk h = true) := Lib.hid ((hOk_iff _).2 ⟨by omega, by omega⟩)
 have hsh := pow_cast h hh
 obtain ⟨hp1, hp2⟩ := pow_le64 h hh
 generalize hN : (2 : Nat) ^ h = N at *
 clear hN
 have hsw : IntKind.i64.wrap ((2 : Int) ^ h) = (N : Int) := (IntWalk.i64_left _).trans hsh
 clear hr
 go_enter Try.func26, Try.ntmps26
 go_wp2
 have hI := (hR.new (pkCells h r).toArray 62 rfl rfl).new (sgCells leaf Ac nc cc Ap np cp).toArray 60 (g := w.heap.size + 1) (by simp) rfl
 refine wp_region_hops 29 [5, 6, 7, 8, 9, 10, 11, 12, 13, 14, 15, 16, 17, 18, 19, 20, 21, 22, 23, 24, 25, 26, 27, 28, 29, 30, 31, 32, 33] _
  [.eq (.agg (pkCells h r).toArray), .eq (.bool true), .eq (.bool true), .eq (.pointer (some ⟨w.heap.size + 1, 0, none⟩)), .eq (.int .i64 leaf), .eq (.bool true), .eq (.bool true), .eq (.bool true), .eq (.pointer (some ⟨w.heap.size + 1, 0, none⟩)), .eq (.int .i64 leaf), .eq (.pointer (some ⟨w.heap.size, 0, none⟩)), .eq (.int .i64 h), .eq (.int .i64 (N : Nat)), .eq (.bool true), .eq (.bool true), .eq (.bool true), .eq (.pointer (some ⟨w.heap.size + 1, 1, none⟩)), .eq (.slice Ac nc cc), .eq (.int .i64 nc), .eq (.bool true), .eq (.bool true), .eq (.bool true), .eq (.pointer (some ⟨w.heap.size + 1, 2, none⟩)), .eq (.slice Ap np cp), .eq (.int .i64 np), .eq (.pointer (some ⟨w.heap.size, 0, none⟩)), .eq (.int .i64 h), .eq (.bool false), .eq (.bool false)]
  (by kernel_rfl) (by kernel_rfl) hI rfl ?hops ?fin
 case hops =>
  refine ⟨?_, ?_, ?_, ?_, ?_, ?_, ?_, ?_, ?_, ?_, ?_, ?_, ?_, ?_, ?_, ?_, ?_, ?_, ?_, ?_, ?_, ?_, ?_, ?_, ?_, ?_, ?_, ?_, ?_, trivial⟩
  ·intro a W hW hb hd K hK
   have b2 := hb 2 rfl
   refine wp_load_mid 62 (.tmp 2) rfl w.heap.size 0 (by simp [Act.eval, b2]) (pkCells h r) _ (Cells.range (hW.at_ 1 rfl)) Try.underlying62 rfl (by rw [pk_len _ _ hrl.out]; kernel_rfl) ?_
   exact hK _ _ (World.grownBy.refl _ _) rfl
  ·intro a W hW hb hd K hK
   have b5 : a.tmps[5]?.getD undef = _ := hd ⟨0, .data⟩ (by simp) rfl
   go_simp
   refine (Valid_any W h r).mono ?_
   rintro e w' ⟨rfl, rfl⟩
   exact hK _ _ (grown_alloc _ _) (congrArg Value.bool hok.out)
  ·intro a W hW hb hd K hK
   have b6 : a.tmps[6]?.getD undef = _ := hd ⟨1, .data⟩ (by simp) rfl
   go_simp
   exact hK _ _ (World.grownBy.refl _ _) rfl
  ·refine Or.inl ⟨fun v w h => h, ?_⟩
   intro a W hW hb hd K hK
   have b3 := hb 3 rfl
   go_simp
   exact hK _ _ (World.grownBy.refl _ _) rfl
  ·refine Or.inl ⟨fun v w h => h, ?_⟩
   intro a W hW hb hd K hK
   have b8 : a.tmps[8]?.getD undef = _ := hd ⟨3, .data⟩ (by simp) rfl
   have cc1 : W.cell? ⟨w.heap.size + 1, 0, none⟩ = some (.int .i64 leaf) := Cells.cell (hW.at_ 0 rfl) (i := 0) (by simp [sgCells])
   go_simp
   exact hK _ _ (World.grownBy.refl _ _) rfl
  ·refine Or.inl ⟨fun v w h => h, ?_⟩
   intro a W hW hb hd K hK
   have b9 : a.tmps[9]?.getD undef = _ := hd ⟨4, .data⟩ (by simp) rfl
   go_simp
   exact hK _ _ (World.grownBy.refl _ _) rfl
  ·intro a W hW hb hd K hK
   have b7 : a.tmps[7]?.getD undef = _ := hd ⟨2, .data⟩ (by simp) rfl
   have b10 : a.tmps[10]?.getD undef = _ := hd ⟨5, .data⟩ (by simp) rfl
   go_simp
   exact hK _ _ (World.grownBy.refl _ _) rfl
  ·intro a W hW hb hd K hK
   have b11 : a.tmps[11]?.getD undef = _ := hd ⟨6, .data⟩ (by simp) rfl
   go_simp
   exact hK _ _ (World.grownBy.refl _ _) rfl
  ·refine Or.inl ⟨fun v w h => h, ?_⟩
   intro a W hW hb hd K hK
   have b3 := hb 3 rfl
   go_simp
   exact hK _ _ (World.grownBy.refl _ _) rfl
  ·refine Or.inl ⟨fun v w h => h, ?_⟩
   intro a W hW hb hd K hK
   have b13 : a.tmps[13]?.getD undef = _ := hd ⟨8, .data⟩ (by simp) rfl
   have cc1 : W.cell? ⟨w.heap.size + 1, 0, none⟩ = some (.int .i64 leaf) := Cells.cell (hW.at_ 0 rfl) (i := 0) (by simp [sgCells])
   go_simp
   exact hK _ _ (World.grownBy.refl _ _) rfl
  ·refine Or.inl ⟨fun v w h => h, ?_⟩
   intro a W hW hb hd K hK
   have b2 := hb 2 rfl
   go_simp
   exact hK _ _ (World.grownBy.refl _ _) rfl
  ·refine Or.inl ⟨fun v w h => h, ?_⟩
   intro a W hW hb hd K hK
   have b15 : a.tmps[15]?.getD undef = _ := hd ⟨10, .data⟩ (by simp) rfl
   have cc2 : W.cell? ⟨w.heap.size, 0, none⟩ = some (.int .i64 h) := Cells.cell (hW.at_ 1 rfl) (i := 0) (by simp [pkCells])
   go_simp
   exact hK _ _ (World.grownBy.refl _ _) rfl
  ·refine Or.inl ⟨fun v w h => h, ?_⟩
   intro a W hW hb hd K hK
   have b16 : a.tmps[16]?.getD undef = _ := hd ⟨11, .data⟩ (by simp) rfl
   go_simp
   exact hK _ _ (World.grownBy.refl _ _) rfl
  ·refine Or.inl ⟨fun v w h => h, ?_⟩
   intro a W hW hb hd K hK
   have b14 : a.tmps[14]?.getD undef = _ := hd ⟨9, .data⟩ (by simp) rfl
   have b17 : a.tmps[17]?.getD undef = _ := hd ⟨12, .data⟩ (by simp) rfl
   go_simp
   exact hK _ _ (World.grownBy.refl _ _) rfl
  ·intro a W hW hb hd K hK
   have b12 : a.tmps[12]?.getD undef = _ := hd ⟨7, .data⟩ (by simp) rfl
   have b18 : a.tmps[18]?.getD undef = _ := hd ⟨13, .data⟩ (by simp) rfl
   go_simp
   exact hK _ _ (World.grownBy.refl _ _) rfl
  ·intro a W hW hb hd K hK
   have b19 : a.tmps[19]?.getD undef = _ := hd ⟨14, .data⟩ (by simp) rfl
   go_simp
   exact hK _ _ (World.grownBy.refl _ _) rfl
  ·refine Or.inl ⟨fun v w h => h, ?_⟩
   intro a W hW hb hd K hK
   have b3 := hb 3 rfl
   go_simp
   exact hK _ _ (World.grownBy.refl _ _) rfl
  ·refine Or.inl ⟨fun v w h => h, ?_⟩
   intro a W hW hb hd K hK
   have b21 : a.tmps[21]?.getD undef = _ := hd ⟨16, .data⟩ (by simp) rfl
   have cc3 : W.cell? ⟨w.heap.size + 1, 1, none⟩ = some (.slice Ac nc cc) := Cells.cell (hW.at_ 0 rfl) (i := 1) (by simp [sgCells])
   go_simp
   exact hK _ _ (World.grownBy.refl _ _) rfl
  ·refine Or.inl ⟨fun v w h => h, ?_⟩
   intro a W hW hb hd K hK
   have b22 : a.tmps[22]?.getD undef = _ := hd ⟨17, .data⟩ (by simp) rfl
   go_simp
   exact hK _ _ (World.grownBy.refl _ _) rfl
  ·refine Or.inl ⟨fun v w h => h, ?_⟩
   intro a W hW hb hd K hK
   have b23 : a.tmps[23]?.getD undef = _ := hd ⟨18, .data⟩ (by simp) rfl
   go_simp
   exact hK _ _ (World.grownBy.refl _ _) rfl
  ·intro a W hW hb hd K hK
   have b20 : a.tmps[20]?.getD undef = _ := hd ⟨15, .data⟩ (by simp) rfl
   have b24 : a.tmps[24]?.getD undef = _ := hd ⟨19, .data⟩ (by simp) rfl
   go_simp
   exact hK _ _ (World.grownBy.refl _ _) rfl
  ·intro a W hW hb hd K hK
   have b25 : a.tmps[25]?.getD undef = _ := hd ⟨20, .data⟩ (by simp) rfl
   go_simp
   exact hK _ _ (World.grownBy.refl _ _) rfl
  ·refine Or.inl ⟨fun v w h => h, ?_⟩
   intro a W hW hb hd K hK
   have b3 := hb 3 rfl
   go_simp
   exact hK _ _ (World.grownBy.refl _ _) rfl
  ·refine Or.inl ⟨fun v w h => h, ?_⟩
   intro a W hW hb hd K hK
   have b27 : a.tmps[27]?.getD undef = _ := hd ⟨22, .data⟩ (by simp) rfl
   have cc4 : W.cell? ⟨w.heap.size + 1, 2, none⟩ = some (.slice Ap np cp) := Cells.cell (hW.at_ 0 rfl) (i := 2) (by simp [sgCells])
   go_simp
   exact hK _ _ (World.grownBy.refl _ _) rfl
  ·refine Or.inl ⟨fun v w h => h, ?_⟩
   intro a W hW hb hd K hK
   have b28 : a.tmps[28]?.getD undef = _ := hd ⟨23, .data⟩ (by simp) rfl
   go_simp
   exact hK _ _ (World.grownBy.refl _ _) rfl
  ·refine Or.inl ⟨fun v w h => h, ?_⟩
   intro a W hW hb hd K hK
   have b2 := hb 2 rfl
   go_simp
   exact hK _ _ (World.grownBy.refl _ _) rfl
  ·refine Or.inl ⟨fun v w h => h, ?_⟩
   intro a W hW hb hd K hK
   have b30 : a.tmps[30]?.getD undef = _ := hd ⟨25, .data⟩ (by simp) rfl
   have cc2 : W.cell? ⟨w.heap.size, 0, none⟩ = some (.int .i64 h) := Cells.cell (hW.at_ 1 rfl) (i := 0) (by simp [pkCells])
   go_simp
   exact hK _ _ (World.grownBy.refl _ _) rfl
  ·refine Or.inl ⟨fun v w h => h, ?_⟩
   intro a W hW hb hd K hK
   have b29 : a.tmps[29]?.getD undef = _ := hd ⟨24, .data⟩ (by simp) rfl
   have b31 : a.tmps[31]?.getD undef = _ := hd ⟨26, .data⟩ (by simp) rfl
   go_simp
   exact hK _ _ (World.grownBy.refl _ _) rfl
  ·intro a W hW hb hd K hK
   have b26 : a.tmps[26]?.getD undef = _ := hd ⟨21, .data⟩ (by simp) rfl
   have b32 : a.tmps[32]?.getD undef = _ := hd ⟨27, .data⟩ (by simp) rfl
   go_simp
   exact hK _ _ (World.grownBy.refl _ _) rfl
 case fin =>
  intro vs W hW hv
  have e28 : vs 28 = _ := hv 28 (by decide)
  have hk := (hW.at_ 2 rfl).1
  clear hv hI hW
  simp only [putAll, List.drop_succ_cons, List.drop_zero, e28, Act.put, List.setIfInBounds_toArray, List.set_cons_succ, List.set_cons_zero]
  clear e28
  go_wp2
  go_ret
  exact ⟨rfl, hk⟩

set_option maxRecDepth 100000 in
set_option maxHeartbeats 3200000 in
theorem Shaped_5 (w : World) (r : List UInt8) (hr : r.length = 16) (leaf : Int) (Ac : Option Addr) (nc cc : Nat) (Ap : Option Addr) (np cp : Nat) (h : Nat) (hh : h ≤ 6) (d1 : decide (0 ≤ leaf) = true) (d2 : decide (leaf < ((2 ^ h : Nat) : Int)) = true) (d3 : ((nc : Int) == 68) = true) (d4 : ((np : Int) == (h : Int)) = true) :
  Calls Try.prog 26 #[.agg (pkCells h r).toArray, .agg (sgCells leaf Ac nc cc Ap np cp).toArray] w fun e w' => e = .returned (.bool true) ∧ Below w.heap.size w w' := by
 have hR : All w [.kept w w.heap.size] := ⟨⟨Below.refl _ _, Nat.le_refl _⟩, trivial⟩
 have hrl := Lib.hid hr
 have hok : Hid (hOk h = true) := Lib.hid ((hOk_iff _).2 ⟨by omega, by omega⟩)
 have hsh := pow_cast h hh
 obtain ⟨hp1, hp2⟩ := pow_le64 h hh
 generalize hN : (2 : Nat) ^ h = N at *
 clear hN
 have hsw : IntKind.i64.wrap ((2 : Int) ^ h) = (N : Int) := (IntWalk.i64_left _).trans hsh
 clear hr
 go_enter Try.func26, Try.ntmps26
 go_wp2
 have hI := (hR.new (pkCells h r).toArray 62 rfl rfl).new (sgCells leaf Ac nc cc Ap np cp).toArray 60 (g := w.heap.size + 1) (by simp) rfl
 refine wp_region_hops 29 [5, 6, 7, 8, 9, 10, 11, 12, 13, 14, 15, 16, 17, 18, 19, 20, 21, 22, 23, 24, 25, 26, 27, 28, 29, 30, 31, 32, 33] _
  [.eq (.agg (pkCells h r).toArray), .eq (.bool true), .eq (.bool true), .eq (.pointer (some ⟨w.heap.size + 1, 0, none⟩)), .eq (.int .i64 leaf), .eq (.bool true), .eq (.bool true), .eq (.bool true), .eq (.pointer (some ⟨w.heap.size + 1, 0, none⟩)), .eq (.int .i64 leaf), .eq (.pointer (some ⟨w.heap.size, 0, none⟩)), .eq (.int .i64 h), .eq (.int .i64 (N : Nat)), .eq (.bool true), .eq (.bool true), .eq (.bool true), .eq (.pointer (some ⟨w.heap.size + 1, 1, none⟩)), .eq (.slice Ac nc cc), .eq (.int .i64 nc), .eq (.bool true), .eq (.bool true), .eq (.bool true), .eq (.pointer (some ⟨w.heap.size + 1, 2, none⟩)), .eq (.slice Ap np cp), .eq (.int .i64 np), .eq (.pointer (some ⟨w.heap.size, 0, none⟩)), .eq (.int .i64 h), .eq (.bool true), .eq (.bool true)]
  (by kernel_rfl) (by kernel_rfl) hI rfl ?hops ?fin
 case hops =>
  refine ⟨?_, ?_, ?_, ?_, ?_, ?_, ?_, ?_, ?_, ?_, ?_, ?_, ?_, ?_, ?_, ?_, ?_, ?_, ?_, ?_, ?_, ?_, ?_, ?_, ?_, ?_, ?_, ?_, ?_, trivial⟩
  ·intro a W hW hb hd K hK
   have b2 := hb 2 rfl
   refine wp_load_mid 62 (.tmp 2) rfl w.heap.size 0 (by simp [Act.eval, b2]) (pkCells h r) _ (Cells.range (hW.at_ 1 rfl)) Try.underlying62 rfl (by rw [pk_len _ _ hrl.out]; kernel_rfl) ?_
   exact hK _ _ (World.grownBy.refl _ _) rfl
  ·intro a W hW hb hd K hK
   have b5 : a.tmps[5]?.getD undef = _ := hd ⟨0, .data⟩ (by simp) rfl
   go_simp
   refine (Valid_any W h r).mono ?_
   rintro e w' ⟨rfl, rfl⟩
   exact hK _ _ (grown_alloc _ _) (congrArg Value.bool hok.out)
  ·intro a W hW hb hd K hK
   have b6 : a.tmps[6]?.getD undef = _ := hd ⟨1, .data⟩ (by simp) rfl
   go_simp
   exact hK _ _ (World.grownBy.refl _ _) rfl
  ·refine Or.inl ⟨fun v w h => h, ?_⟩
   intro a W hW hb hd K hK
   have b3 := hb 3 rfl
   go_simp
   exact hK _ _ (World.grownBy.refl _ _) rfl
  ·refine Or.inl ⟨fun v w h => h, ?_⟩
   intro a W hW hb hd K hK
   have b8 : a.tmps[8]?.getD undef = _ := hd ⟨3, .data⟩ (by simp) rfl
   have cc1 : W.cell? ⟨w.heap.size + 1, 0, none⟩ = some (.int .i64 leaf) := Cells.cell (hW.at_ 0 rfl) (i := 0) (by simp [sgCells])
   go_simp
   exact hK _ _ (World.grownBy.refl _ _) rfl
  ·refine Or.inl ⟨fun v w h => h, ?_⟩
   intro a W hW hb hd K hK
   have b9 : a.tmps[9]?.getD undef = _ := hd ⟨4, .data⟩ (by simp) rfl
   go_simp
   exact hK _ _ (World.grownBy.refl _ _) rfl
  ·intro a W hW hb hd K hK
   have b7 : a.tmps[7]?.getD undef = _ := hd ⟨2, .data⟩ (by simp) rfl
   have b10 : a.tmps[10]?.getD undef = _ := hd ⟨5, .data⟩ (by simp) rfl
   go_simp
   exact hK _ _ (World.grownBy.refl _ _) rfl
  ·intro a W hW hb hd K hK
   have b11 : a.tmps[11]?.getD undef = _ := hd ⟨6, .data⟩ (by simp) rfl
   go_simp
   exact hK _ _ (World.grownBy.refl _ _) rfl
  ·refine Or.inl ⟨fun v w h => h, ?_⟩
   intro a W hW hb hd K hK
   have b3 := hb 3 rfl
   go_simp
   exact hK _ _ (World.grownBy.refl _ _) rfl
  ·refine Or.inl ⟨fun v w h => h, ?_⟩
   intro a W hW hb hd K hK
   have b13 : a.tmps[13]?.getD undef = _ := hd ⟨8, .data⟩ (by simp) rfl
   have cc1 : W.cell? ⟨w.heap.size + 1, 0, none⟩ = some (.int .i64 leaf) := Cells.cell (hW.at_ 0 rfl) (i := 0) (by simp [sgCells])
   go_simp
   exact hK _ _ (World.grownBy.refl _ _) rfl
  ·refine Or.inl ⟨fun v w h => h, ?_⟩
   intro a W hW hb hd K hK
   have b2 := hb 2 rfl
   go_simp
   exact hK _ _ (World.grownBy.refl _ _) rfl
  ·refine Or.inl ⟨fun v w h => h, ?_⟩
   intro a W hW hb hd K hK
   have b15 : a.tmps[15]?.getD undef = _ := hd ⟨10, .data⟩ (by simp) rfl
   have cc2 : W.cell? ⟨w.heap.size, 0, none⟩ = some (.int .i64 h) := Cells.cell (hW.at_ 1 rfl) (i := 0) (by simp [pkCells])
   go_simp
   exact hK _ _ (World.grownBy.refl _ _) rfl
  ·refine Or.inl ⟨fun v w h => h, ?_⟩
   intro a W hW hb hd K hK
   have b16 : a.tmps[16]?.getD undef = _ := hd ⟨11, .data⟩ (by simp) rfl
   go_simp
   exact hK _ _ (World.grownBy.refl _ _) rfl
  ·refine Or.inl ⟨fun v w h => h, ?_⟩
   intro a W hW hb hd K hK
   have b14 : a.tmps[14]?.getD undef = _ := hd ⟨9, .data⟩ (by simp) rfl
   have b17 : a.tmps[17]?.getD undef = _ := hd ⟨12, .data⟩ (by simp) rfl
   go_simp
   exact hK _ _ (World.grownBy.refl _ _) rfl
  ·intro a W hW hb hd K hK
   have b12 : a.tmps[12]?.getD undef = _ := hd ⟨7, .data⟩ (by simp) rfl
   have b18 : a.tmps[18]?.getD undef = _ := hd ⟨13, .data⟩ (by simp) rfl
   go_simp
   exact hK _ _ (World.grownBy.refl _ _) rfl
  ·intro a W hW hb hd K hK
   have b19 : a.tmps[19]?.getD undef = _ := hd ⟨14, .data⟩ (by simp) rfl
   go_simp
   exact hK _ _ (World.grownBy.refl _ _) rfl
  ·refine Or.inl ⟨fun v w h => h, ?_⟩
   intro a W hW hb hd K hK
   have b3 := hb 3 rfl
   go_simp
   exact hK _ _ (World.grownBy.refl _ _) rfl
  ·refine Or.inl ⟨fun v w h => h, ?_⟩
   intro a W hW hb hd K hK
   have b21 : a.tmps[21]?.getD undef = _ := hd ⟨16, .data⟩ (by simp) rfl
   have cc3 : W.cell? ⟨w.heap.size + 1, 1, none⟩ = some (.slice Ac nc cc) := Cells.cell (hW.at_ 0 rfl) (i := 1) (by simp [sgCells])
   go_simp
   exact hK _ _ (World.grownBy.refl _ _) rfl
  ·refine Or.inl ⟨fun v w h => h, ?_⟩
   intro a W hW hb hd K hK
   have b22 : a.tmps[22]?.getD undef = _ := hd ⟨17, .data⟩ (by simp) rfl
   go_simp
   exact hK _ _ (World.grownBy.refl _ _) rfl
  ·refine Or.inl ⟨fun v w h => h, ?_⟩
   intro a W hW hb hd K hK
   have b23 : a.tmps[23]?.getD undef = _ := hd ⟨18, .data⟩ (by simp) rfl
   go_simp
   exact hK _ _ (World.grownBy.refl _ _) rfl
  ·intro a W hW hb hd K hK
   have b20 : a.tmps[20]?.getD undef = _ := hd ⟨15, .data⟩ (by simp) rfl
   have b24 : a.tmps[24]?.getD undef = _ := hd ⟨19, .data⟩ (by simp) rfl
   go_simp
   exact hK _ _ (World.grownBy.refl _ _) rfl
  ·intro a W hW hb hd K hK
   have b25 : a.tmps[25]?.getD undef = _ := hd ⟨20, .data⟩ (by simp) rfl
   go_simp
   exact hK _ _ (World.grownBy.refl _ _) rfl
  ·refine Or.inl ⟨fun v w h => h, ?_⟩
   intro a W hW hb hd K hK
   have b3 := hb 3 rfl
   go_simp
   exact hK _ _ (World.grownBy.refl _ _) rfl
  ·refine Or.inl ⟨fun v w h => h, ?_⟩
   intro a W hW hb hd K hK
   have b27 : a.tmps[27]?.getD undef = _ := hd ⟨22, .data⟩ (by simp) rfl
   have cc4 : W.cell? ⟨w.heap.size + 1, 2, none⟩ = some (.slice Ap np cp) := Cells.cell (hW.at_ 0 rfl) (i := 2) (by simp [sgCells])
   go_simp
   exact hK _ _ (World.grownBy.refl _ _) rfl
  ·refine Or.inl ⟨fun v w h => h, ?_⟩
   intro a W hW hb hd K hK
   have b28 : a.tmps[28]?.getD undef = _ := hd ⟨23, .data⟩ (by simp) rfl
   go_simp
   exact hK _ _ (World.grownBy.refl _ _) rfl
  ·refine Or.inl ⟨fun v w h => h, ?_⟩
   intro a W hW hb hd K hK
   have b2 := hb 2 rfl
   go_simp
   exact hK _ _ (World.grownBy.refl _ _) rfl
  ·refine Or.inl ⟨fun v w h => h, ?_⟩
   intro a W hW hb hd K hK
   have b30 : a.tmps[30]?.getD undef = _ := hd ⟨25, .data⟩ (by simp) rfl
   have cc2 : W.cell? ⟨w.heap.size, 0, none⟩ = some (.int .i64 h) := Cells.cell (hW.at_ 1 rfl) (i := 0) (by simp [pkCells])
   go_simp
   exact hK _ _ (World.grownBy.refl _ _) rfl
  ·refine Or.inl ⟨fun v w h => h, ?_⟩
   intro a W hW hb hd K hK
   have b29 : a.tmps[29]?.getD undef = _ := hd ⟨24, .data⟩ (by simp) rfl
   have b31 : a.tmps[31]?.getD undef = _ := hd ⟨26, .data⟩ (by simp) rfl
   go_simp
   exact hK _ _ (World.grownBy.refl _ _) rfl
  ·intro a W hW hb hd K hK
   have b26 : a.tmps[26]?.getD undef = _ := hd ⟨21, .data⟩ (by simp) rfl
   have b32 : a.tmps[32]?.getD undef = _ := hd ⟨27, .data⟩ (by simp) rfl
   go_simp
   exact hK _ _ (World.grownBy.refl _ _) rfl
 case fin =>
  intro vs W hW hv
  have e28 : vs 28 = _ := hv 28 (by decide)
  have hk := (hW.at_ 2 rfl).1
  clear hv hI hW
  simp only [putAll, List.drop_succ_cons, List.drop_zero, e28, Act.put, List.setIfInBounds_toArray, List.set_cons_succ, List.set_cons_zero]
  clear e28
  go_wp2
  go_ret
  exact ⟨rfl, hk⟩

set_option maxRecDepth 100000 in
set_option maxHeartbeats 3200000 in
theorem refShaped_0 (w : World) (r : List UInt8) (hr : r.length = 16) (leaf : Int) (Ac : Option Addr) (nc cc : Nat) (Ap : Option Addr) (np cp : Nat) (h : Int) (hh : hOk h = false)  :
  Calls Try.prog 30 #[.agg (pkCells h r).toArray, .agg (sgCells leaf Ac nc cc Ap np cp).toArray] w fun e w' => e = .returned (.bool false) ∧ Below w.heap.size w w' := by
 have hR : All w [.kept w w.heap.size] := ⟨⟨Below.refl _ _, Nat.le_refl _⟩, trivial⟩
 have hrl := Lib.hid hr
 have hok := Lib.hid hh
 clear hh
 clear hr
 go_enter Try.func30, Try.ntmps30
 go_upto_region 1 with (fail)
 refine wp_gen ((hR.new (pkCells h r).toArray 62 rfl rfl).new (sgCells leaf Ac nc cc Ap np cp).toArray 60 (g := w.heap.size + 1) (by simp) rfl) ?_
 intro W hW
 go_wp2_with (refine wl_load_at rfl 62 (.tmp 2) rfl w.heap.size _ _ (hW.at_ 1 rfl) rfl _ Try.underlying62 rfl (by rw [pk_len _ _ hrl.out]; kernel_rfl) ?_)
 refine (refValid_any W h r).mono ?_
 rintro e V ⟨rfl, hVe⟩
 rw [hok.out]
 have hV := hW.alloc (.cells (pkCells h r).toArray 62)
 rw [← hVe] at hV
 clear hVe hW
 have cc1 : V.cell? ⟨w.heap.size + 1, 0, none⟩ = some (.int .i64 leaf) := Cells.cell (hV.at_ 0 rfl) (i := 0) (by simp [sgCells])
 have cc2 : V.cell? ⟨w.heap.size, 0, none⟩ = some (.int .i64 h) := Cells.cell (hV.at_ 1 rfl) (i := 0) (by simp [pkCells])
 have cc3 : V.cell? ⟨w.heap.size + 1, 1, none⟩ = some (.slice Ac nc cc) := Cells.cell (hV.at_ 0 rfl) (i := 1) (by simp [sgCells])
 have cc4 : V.cell? ⟨w.heap.size + 1, 2, none⟩ = some (.slice Ap np cp) := Cells.cell (hV.at_ 0 rfl) (i := 2) (by simp [sgCells])
 go_wp2
 go_ret
 exact ⟨rfl, (hV.at_ 2 rfl).1⟩

set_option maxRecDepth 100000 in
set_option maxHeartbeats 3200000 in
theorem refShaped_1 (w : World) (r : List UInt8) (hr : r.length = 16) (leaf : Int) (Ac : Option Addr) (nc cc : Nat) (Ap : Option Addr) (np cp : Nat) (h : Nat) (hh : h ≤ 6) (d1 : decide (0 ≤ leaf) = false) :
  Calls Try.prog 30 #[.agg (pkCells h r).toArray, .agg (sgCells leaf Ac nc cc Ap np cp).toArray] w fun e w' => e = .returned (.bool false) ∧ Below w.heap.size w w' := by
 have hR : All w [.kept w w.heap.size] := ⟨⟨Below.refl _ _, Nat.le_refl _⟩, trivial⟩
 have hrl := Lib.hid hr
 have hok : Hid (hOk h = true) := Lib.hid ((hOk_iff _).2 ⟨by omega, by omega⟩)
 clear hr
 go_enter Try.func30, Try.ntmps30
 go_upto_region 1 with (fail)
 refine wp_gen ((hR.new (pkCells h r).toArray 62 rfl rfl).new (sgCells leaf Ac nc cc Ap np cp).toArray 60 (g := w.heap.size + 1) (by simp) rfl) ?_
 intro W hW
 go_wp2_with (refine wl_load_at rfl 62 (.tmp 2) rfl w.heap.size _ _ (hW.at_ 1 rfl) rfl _ Try.underlying62 rfl (by rw [pk_len _ _ hrl.out]; kernel_rfl) ?_)
 refine (refValid_any W h r).mono ?_
 rintro e V ⟨rfl, hVe⟩
 rw [hok.out]
 have hV := hW.alloc (.cells (pkCells h r).toArray 62)
 rw [← hVe] at hV
 clear hVe hW
 have cc1 : V.cell? ⟨w.heap.size + 1, 0, none⟩ = some (.int .i64 leaf) := Cells.cell (hV.at_ 0 rfl) (i := 0) (by simp [sgCells])
 have cc2 : V.cell? ⟨w.heap.size, 0, none⟩ = some (.int .i64 h) := Cells.cell (hV.at_ 1 rfl) (i := 0) (by simp [pkCells])
 have cc3 : V.cell? ⟨w.heap.size + 1, 1, none⟩ = some (.slice Ac nc cc) := Cells.cell (hV.at_ 0 rfl) (i := 1) (by simp [sgCells])
 have cc4 : V.cell? ⟨w.heap.size + 1, 2, none⟩ = some (.slice Ap np cp) := Cells.cell (hV.at_ 0 rfl) (i := 2) (by simp [sgCells])
 go_wp2
 go_ret
 exact ⟨rfl, (hV.at_ 2 rfl).1⟩

set_option maxRecDepth 100000 in
set_option maxHeartbeats 3200000 in
theorem refShaped_2 (w : World) (r : List UInt8) (hr : r.length = 16) (leaf : Int) (Ac : Option Addr) (nc cc : Nat) (Ap : Option Addr) (np cp : Nat) (h : Nat) (hh : h ≤ 6) (d1 : decide (0 ≤ leaf) = true) (d2 : decide (leaf < ((2 ^ h : Nat) : Int)) = false) :
  Calls Try.prog 30 #[.agg (pkCells h r).toArray, .agg (sgCells leaf Ac nc cc Ap np cp).toArray] w fun e w' => e = .returned (.bool false) ∧ Below w.heap.size w w' := by
 have hR : All w [.kept w w.heap.size] := ⟨⟨Below.refl _ _, Nat.le_refl _⟩, trivial⟩
 have hrl := Lib.hid hr
 have hok : Hid (hOk h = true) := Lib.hid ((hOk_iff _).2 ⟨by omega, by omega⟩)
 have hsh := pow_cast h hh
 obtain ⟨hp1, hp2⟩ := pow_le64 h hh
 generalize hN : (2 : Nat) ^ h = N at *
 clear hN
 have hsw : IntKind.i64.wrap ((2 : Int) ^ h) = (N : Int) := (IntWalk.i64_left _).trans hsh
 clear hr
 go_enter Try.func30, Try.ntmps30
 go_upto_region 1 with (fail)
 refine wp_gen ((hR.new (pkCells h r).toArray 62 rfl rfl).new (sgCells leaf Ac nc cc Ap np cp).toArray 60 (g := w.heap.size + 1) (by simp) rfl) ?_
 intro W hW
 go_wp2_with (refine wl_load_at rfl 62 (.tmp 2) rfl w.heap.size _ _ (hW.at_ 1 rfl) rfl _ Try.underlying62 rfl (by rw [pk_len _ _ hrl.out]; kernel_rfl) ?_)
 refine (refValid_any W h r).mono ?_
 rintro e V ⟨rfl, hVe⟩
 rw [hok.out]
 have hV := hW.alloc (.cells (pkCells h r).toArray 62)
 rw [← hVe] at hV
 clear hVe hW
 have cc1 : V.cell? ⟨w.heap.size + 1, 0, none⟩ = some (.int .i64 leaf) := Cells.cell (hV.at_ 0 rfl) (i := 0) (by simp [sgCells])
 have cc2 : V.cell? ⟨w.heap.size, 0, none⟩ = some (.int .i64 h) := Cells.cell (hV.at_ 1 rfl) (i := 0) (by simp [pkCells])
 have cc3 : V.cell? ⟨w.heap.size + 1, 1, none⟩ = some (.slice Ac nc cc) := Cells.cell (hV.at_ 0 rfl) (i := 1) (by simp [sgCells])
 have cc4 : V.cell? ⟨w.heap.size + 1, 2, none⟩ = some (.slice Ap np cp) := Cells.cell (hV.at_ 0 rfl) (i := 2) (by simp [sgCells])
 go_wp2
 go_ret
 exact ⟨rfl, (hV.at_ 2 rfl).1⟩

set_option maxRecDepth 100000 in
set_option maxHeartbeats 3200000 in
theorem refShaped_3 (w : World) (r : List UInt8) (hr : r.length = 16) (leaf : Int) (Ac : Option Addr) (nc cc : Nat) (Ap : Option Addr) (np cp : Nat) (h : Nat) (hh : h ≤ 6) (d1 : decide (0 ≤ leaf) = true) (d2 : decide (leaf < ((2 ^ h : Nat) : Int)) = true) (d3 : ((nc : Int) == 68) = false) :
  Calls Try.prog 30 #[.agg (pkCells h r).toArray, .agg (sgCells leaf Ac nc cc Ap np cp).toArray] w fun e w' => e = .returned (.bool false) ∧ Below w.heap.size w w' := by
 have hR : All w [.kept w w.heap.size] := ⟨⟨Below.refl _ _, Nat.le_refl _⟩, trivial⟩
 have hrl := Lib.hid hr
 have hok : Hid (hOk h = true) := Lib.hid ((hOk_iff _).2 ⟨by omega, by omega⟩)
 have hsh := pow_cast h hh
 obtain ⟨hp1, hp2⟩ := pow_le64 h hh
 generalize hN : (2 : Nat) ^ h = N at *
 clear hN
 have hsw : IntKind.i64.wrap ((2 : Int) ^ h) = (N : Int) := (IntWalk.i64_left _).trans hsh
 clear hr
 go_enter Try.func30, Try.ntmps30
 go_upto_region 1 with (fail)
 refine wp_gen ((hR.new (pkCells h r).toArray 62 rfl rfl).new (sgCells leaf Ac nc cc Ap np cp).toArray 60 (g := w.heap.size + 1) (by simp) rfl) ?_
 intro W hW
 go_wp2_with (refine wl_load_at rfl 62 (.tmp 2) rfl w.heap.size _ _ (hW.at_ 1 rfl) rfl _ Try.underlying62 rfl (by rw [pk_len _ _ hrl.out]; kernel_rfl) ?_)
 refine (refValid_any W h r).mono ?_
 rintro e V ⟨rfl, hVe⟩
 rw [hok.out]
 have hV := hW.alloc (.cells (pkCells h r).toArray 62)
 rw [← hVe] at hV
 clear hVe hW
 have cc1 : V.cell? ⟨w.heap.size + 1, 0, none⟩ = some (.int .i64 leaf) := Cells.cell (hV.at_ 0 rfl) (i := 0) (by simp [sgCells])
 have cc2 : V.cell? ⟨w.heap.size, 0, none⟩ = some (.int .i64 h) := Cells.cell (hV.at_ 1 rfl) (i := 0) (by simp [pkCells])
 have cc3 : V.cell? ⟨w.heap.size + 1, 1, none⟩ = some (.slice Ac nc cc) := Cells.cell (hV.at_ 0 rfl) (i := 1) (by simp [sgCells])
 have cc4 : V.cell? ⟨w.heap.size + 1, 2, none⟩ = some (.slice Ap np cp) := Cells.cell (hV.at_ 0 rfl) (i := 2) (by simp [sgCells])
 go_wp2
 go_ret
 exact ⟨rfl, (hV.at_ 2 rfl).1⟩

set_option maxRecDepth 100000 in
set_option maxHeartbeats 3200000 in
theorem refShaped_4 (w : World) (r : List UInt8) (hr : r.length = 16) (leaf : Int) (Ac : Option Addr) (nc cc : Nat) (Ap : Option Addr) (np cp : Nat) (h : Nat) (hh : h ≤ 6) (d1 : decide (0 ≤ leaf) = true) (d2 : decide (leaf < ((2 ^ h : Nat) : Int)) = true) (d3 : ((nc : Int) == 68) = true) (d4 : ((np : Int) == (h : Int)) = false) :
  Calls Try.prog 30 #[.agg (pkCells h r).toArray, .agg (sgCells leaf Ac nc cc Ap np cp).toArray] w fun e w' => e = .returned (.bool false) ∧ Below w.heap.size w w' := by
 have hR : All w [.kept w w.heap.size] := ⟨⟨Below.refl _ _, Nat.le_refl _⟩, trivial⟩
 have hrl := Lib.hid hr
 have hok : Hid (hOk h = true) := Lib.hid ((hOk_iff _).2 ⟨by omega, by omega⟩)
 have hsh := pow_cast h hh
 obtain ⟨hp1, hp2⟩ := pow_le64 h hh
 generalize hN : (2 : Nat) ^ h = N at *
 clear hN
 have hsw : IntKind.i64.wrap ((2 : Int) ^ h) = (N : Int) := (IntWalk.i64_left _).trans hsh
 clear hr
 go_enter Try.func30, Try.ntmps30
 go_upto_region 1 with (fail)
 refine wp_gen ((hR.new (pkCells h r).toArray 62 rfl rfl).new (sgCells leaf Ac nc cc Ap np cp).toArray 60 (g := w.heap.size + 1) (by simp) rfl) ?_
 intro W hW
 go_wp2_with (refine wl_load_at rfl 62 (.tmp 2) rfl w.heap.size _ _ (hW.at_ 1 rfl) rfl _ Try.underlying62 rfl (by rw [pk_len _ _ hrl.out]; kernel_rfl) ?_)
 refine (refValid_any W h r).mono ?_
 rintro e V ⟨rfl, hVe⟩
 rw [hok.out]
 have hV := hW.alloc (.cells (pkCells h r).toArray 62)
 rw [← hVe] at hV
 clear hVe hW
 have cc1 : V.cell? ⟨w.heap.size + 1, 0, none⟩ = some (.int .i64 leaf) := Cells.cell (hV.at_ 0 rfl) (i := 0) (by simp [sgCells])
 have cc2 : V.cell? ⟨w.heap.size, 0, none⟩ = some (.int .i64 h) := Cells.cell (hV.at_ 1 rfl) (i := 0) (by simp [pkCells])
 have cc3 : V.cell? ⟨w.heap.size + 1, 1, none⟩ = some (.slice Ac nc cc) := Cells.cell (hV.at_ 0 rfl) (i := 1) (by simp [sgCells])
 have cc4 : V.cell? ⟨w.heap.size + 1, 2, none⟩ = some (.slice Ap np cp) := Cells.cell (hV.at_ 0 rfl) (i := 2) (by simp [sgCells])
 go_wp2
 go_ret
 exact ⟨rfl, (hV.at_ 2 rfl).1⟩

set_option maxRecDepth 100000 in
set_option maxHeartbeats 3200000 in
theorem refShaped_5 (w : World) (r : List UInt8) (hr : r.length = 16) (leaf : Int) (Ac : Option Addr) (nc cc : Nat) (Ap : Option Addr) (np cp : Nat) (h : Nat) (hh : h ≤ 6) (d1 : decide (0 ≤ leaf) = true) (d2 : decide (leaf < ((2 ^ h : Nat) : Int)) = true) (d3 : ((nc : Int) == 68) = true) (d4 : ((np : Int) == (h : Int)) = true) :
  Calls Try.prog 30 #[.agg (pkCells h r).toArray, .agg (sgCells leaf Ac nc cc Ap np cp).toArray] w fun e w' => e = .returned (.bool true) ∧ Below w.heap.size w w' := by
 have hR : All w [.kept w w.heap.size] := ⟨⟨Below.refl _ _, Nat.le_refl _⟩, trivial⟩
 have hrl := Lib.hid hr
 have hok : Hid (hOk h = true) := Lib.hid ((hOk_iff _).2 ⟨by omega, by omega⟩)
 have hsh := pow_cast h hh
 obtain ⟨hp1, hp2⟩ := pow_le64 h hh
 generalize hN : (2 : Nat) ^ h = N at *
 clear hN
 have hsw : IntKind.i64.wrap ((2 : Int) ^ h) = (N : Int) := (IntWalk.i64_left _).trans hsh
 clear hr
 go_enter Try.func30, Try.ntmps30
 go_upto_region 1 with (fail)
 refine wp_gen ((hR.new (pkCells h r).toArray 62 rfl rfl).new (sgCells leaf Ac nc cc Ap np cp).toArray 60 (g := w.heap.size + 1) (by simp) rfl) ?_
 intro W hW
 go_wp2_with (refine wl_load_at rfl 62 (.tmp 2) rfl w.heap.size _ _ (hW.at_ 1 rfl) rfl _ Try.underlying62 rfl (by rw [pk_len _ _ hrl.out]; kernel_rfl) ?_)
 refine (refValid_any W h r).mono ?_
 rintro e V ⟨rfl, hVe⟩
 rw [hok.out]
 have hV := hW.alloc (.cells (pkCells h r).toArray 62)
 rw [← hVe] at hV
 clear hVe hW
 have cc1 : V.cell? ⟨w.heap.size + 1, 0, none⟩ = some (.int .i64 leaf) := Cells.cell (hV.at_ 0 rfl) (i := 0) (by simp [sgCells])
 have cc2 : V.cell? ⟨w.heap.size, 0, none⟩ = some (.int .i64 h) := Cells.cell (hV.at_ 1 rfl) (i := 0) (by simp [pkCells])
 have cc3 : V.cell? ⟨w.heap.size + 1, 1, none⟩ = some (.slice Ac nc cc) := Cells.cell (hV.at_ 0 rfl) (i := 1) (by simp [sgCells])
 have cc4 : V.cell? ⟨w.heap.size + 1, 2, none⟩ = some (.slice Ap np cp) := Cells.cell (hV.at_ 0 rfl) (i := 2) (by simp [sgCells])
 go_wp2
 go_ret
 exact ⟨rfl, (hV.at_ 2 rfl).1⟩

end Go.Proofs.Ytfakjamocpamiaa
set_option linter.unusedSimpArgs false
set_option linter.unusedVariables false
namespace Go.Adm
open Go Go.RowKit
def shapedB (h leaf : Int) (nc np : Nat) : Bool := hOk h && (decide (0 ≤ leaf) && (decide (leaf < ((2 ^ h.toNat : Nat) : Int)) && (((nc : Int) == 68) && ((np : Int) == h))))
theorem shapedB_iff (h leaf : Int) (nc np : Nat) : shapedB h leaf nc np = true ↔ (0 ≤ h ∧ h ≤ 6) ∧ 0 ≤ leaf ∧ leaf < ((2 ^ h.toNat : Nat) : Int) ∧ nc = 68 ∧ (np : Int) = h := by
 simp only [shapedB, Bool.and_eq_true, hOk_iff, decide_eq_true_eq, beq_iff_eq]
 constructor
 ·rintro ⟨h1, h2, h3, h4, h5⟩; exact ⟨h1, h2, h3, by omega, h5⟩
 ·rintro ⟨h1, h2, h3, h4, h5⟩; exact ⟨h1, h2, h3, by omega, h5⟩
end Go.Adm
namespace Go.Proofs.Ytfakjamocpamiaa
open Go Go.RowKit Go.Adm

theorem Shaped_any (w : World) (r : List UInt8) (hr : r.length = 16) (leaf : Int) (Ac : Option Addr) (nc cc : Nat) (Ap : Option Addr) (np cp : Nat) (h : Int) :
  Calls Try.prog 26 #[.agg (pkCells h r).toArray, .agg (sgCells leaf Ac nc cc Ap np cp).toArray] w fun e w' => e = .returned (.bool (shapedB h leaf nc np)) ∧ Below w.heap.size w w' := by
 cases c0 : hOk h with
 | false =>
  have e : shapedB h leaf nc np = false := by simp [shapedB, c0]
  rw [e]; exact Shaped_0 w r hr leaf Ac nc cc Ap np cp h c0
 | true =>
  obtain ⟨h0, h6⟩ := (hOk_iff h).1 c0
  obtain ⟨k, rfl⟩ := Int.eq_ofNat_of_zero_le h0
  have hk : k ≤ 6 := by omega
  cases c1 : decide (0 ≤ leaf) with
  | false =>
   have e : shapedB (k : Nat) leaf nc np = false := by simp [shapedB, c1]
   rw [e]; exact Shaped_1 w r hr leaf Ac nc cc Ap np cp k hk c1
  | true =>
   cases c2 : decide (leaf < ((2 ^ k : Nat) : Int)) with
   | false =>
    have e : shapedB (k : Nat) leaf nc np = false := by unfold shapedB; rw [Int.toNat_natCast, c2]; simp
    rw [e]; exact Shaped_2 w r hr leaf Ac nc cc Ap np cp k hk c1 c2
   | true =>
    cases c3 : ((nc : Int) == 68) with
    | false =>
     have e : shapedB (k : Nat) leaf nc np = false := by unfold shapedB; rw [c3]; simp
     rw [e]; exact Shaped_3 w r hr leaf Ac nc cc Ap np cp k hk c1 c2 c3
    | true =>
     cases c4 : ((np : Int) == (k : Int)) with
     | false =>
      have e : shapedB (k : Nat) leaf nc np = false := by unfold shapedB; rw [c4]; simp
      rw [e]; exact Shaped_4 w r hr leaf Ac nc cc Ap np cp k hk c1 c2 c3 c4
     | true =>
      have e : shapedB (k : Nat) leaf nc np = true := by unfold shapedB; rw [Int.toNat_natCast, c0, c1, c2, c3, c4]; rfl
      rw [e]; exact Shaped_5 w r hr leaf Ac nc cc Ap np cp k hk c1 c2 c3 c4
theorem refShaped_any (w : World) (r : List UInt8) (hr : r.length = 16) (leaf : Int) (Ac : Option Addr) (nc cc : Nat) (Ap : Option Addr) (np cp : Nat) (h : Int) :
  Calls Try.prog 30 #[.agg (pkCells h r).toArray, .agg (sgCells leaf Ac nc cc Ap np cp).toArray] w fun e w' => e = .returned (.bool (shapedB h leaf nc np)) ∧ Below w.heap.size w w' := by
 cases c0 : hOk h with
 | false =>
  have e : shapedB h leaf nc np = false := by simp [shapedB, c0]
  rw [e]; exact refShaped_0 w r hr leaf Ac nc cc Ap np cp h c0
 | true =>
  obtain ⟨h0, h6⟩ := (hOk_iff h).1 c0
  obtain ⟨k, rfl⟩ := Int.eq_ofNat_of_zero_le h0
  have hk : k ≤ 6 := by omega
  cases c1 : decide (0 ≤ leaf) with
  | false =>
   have e : shapedB (k : Nat) leaf nc np = false := by simp [shapedB, c1]
   rw [e]; exact refShaped_1 w r hr leaf Ac nc cc Ap np cp k hk c1
  | true =>
   cases c2 : decide (leaf < ((2 ^ k : Nat) : Int)) with
   | false =>
    have e : shapedB (k : Nat) leaf nc np = false := by unfold shapedB; rw [Int.toNat_natCast, c2]; simp
    rw [e]; exact refShaped_2 w r hr leaf Ac nc cc Ap np cp k hk c1 c2
   | true =>
    cases c3 : ((nc : Int) == 68) with
    | false =>
     have e : shapedB (k : Nat) leaf nc np = false := by unfold shapedB; rw [c3]; simp
     rw [e]; exact refShaped_3 w r hr leaf Ac nc cc Ap np cp k hk c1 c2 c3
    | true =>
     cases c4 : ((np : Int) == (k : Int)) with
     | false =>
      have e : shapedB (k : Nat) leaf nc np = false := by unfold shapedB; rw [c4]; simp
      rw [e]; exact refShaped_4 w r hr leaf Ac nc cc Ap np cp k hk c1 c2 c3 c4
     | true =>
      have e : shapedB (k : Nat) leaf nc np = true := by unfold shapedB; rw [Int.toNat_natCast, c0, c1, c2, c3, c4]; rfl
      rw [e]; exact refShaped_5 w r hr leaf Ac nc cc Ap np cp k hk c1 c2 c3 c4
theorem eq_half (w : World) (x y : List UInt8) (hx : x.length = 16) (hy : y.length = 16) : (binOp .eql 41 (.agg (x.map bv).toArray) (.agg (y.map bv).toArray)).run Try.prog w = .ok (.bool (decide (x = y))) w :=
 run_eq_deep w 2 41 (by decide) (by kernel_rfl) (by simp only [Value.formed, Try.underlying41, List.size_toArray, List.length_map, hx]; kernel_rfl) (by simp only [Value.formed, Try.underlying41, List.size_toArray, List.length_map, hy]; kernel_rfl)
  (kl_bytes Try.underlying41 Try.underlying5 (by kernel_rfl) (by kernel_rfl) x hx) (kl_bytes Try.underlying41 Try.underlying5 (by kernel_rfl) (by kernel_rfl) y hy) _ (by
   rw [decide_eq_true_eq]
   exact ⟨fun h => by rw [h], map_bl_inj⟩)
end Go.Proofs.Ytfakjamocpamiaa

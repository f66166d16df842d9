/- Same of lists of halves (ref 08) and low. low. Same of signatures (ref 09). Sign: the signer's cells, its results. Sign refused. Sign exhausted. -/
import Derived.Test.YtlnbeglelhdjfaaKey18
import Derived.StillTailTactics
set_option linter.unusedSimpArgs false
set_option linter.unusedVariables false
namespace Go.Proofs.Ytlnbeglelhdjfaa
open Go Go.RowKit Go.Adm

theorem ne_half (w : World) (x y : List UInt8) (hx : x.length = 16) (hy : y.length = 16) : (binOp .neq 23 (.agg (x.map bv).toArray) (.agg (y.map bv).toArray)).run Try.prog w = .ok (.bool (!decide (x = y))) w := by
  have h := eq_half w x y hx hy
  rw [run_eql_struct] at h
  rw [run_neq_struct]
  revert h
  generalize (Op.equalIn 10000 23 (.agg (x.map bv).toArray) (.agg (y.map bv).toArray)).run Try.prog w = q
  intro h
  cases q with
  | ok b w' =>
    simp only [Result.andThen, Result.ok.injEq, Value.bool.injEq] at h ⊢
    exact ⟨by rw [h.1], h.2⟩
  | _ => simp [Result.andThen] at h
set_option maxRecDepth 100000 in
set_option maxHeartbeats 3200000 in
theorem refSame_els (w : World) (B : Nat) (A1 A2 : Option Addr) (c1 c2 : Nat) (xs ys : List (List UInt8)) (h1 : Els w B 16 A1 xs.length (hvs xs)) (hx : ∀ x ∈ xs, x.length = 16) (h2 : Els w B 16 A2 ys.length (hvs ys)) (hy : ∀ x ∈ ys, x.length = 16) (hn : xs.length < 1000) (hB : B ≤ w.heap.size) :
    Calls Try.prog 31 #[.slice A1 xs.length c1, .slice A2 ys.length c2] w fun e w' => e = .returned (.bool (decide (xs = ys))) ∧ Below w.heap.size w w' := by
  have hR : All w [.low (.els B 16 A1 xs.length (hvs xs)), .low (.els B 16 A2 ys.length (hvs ys)), .kept w w.heap.size] := ⟨⟨h1, hB⟩, ⟨h2, hB⟩, ⟨Below.refl _ _, Nat.le_refl _⟩, trivial⟩
  have HX := Lib.hid hx
  have HY := Lib.hid hy
  clear h1 h2 hx hy
  go_enter Try.func31, Try.ntmps31
  by_cases hl : xs.length = ys.length
  · have db : (((xs.length : Int)) != (ys.length : Int)) = false := by simp; omega
    have HL := Lib.hid hl
    clear hl
    go_wp2
    go_loopw [5] (fun i wr => ∃ k : Nat, k ≤ xs.length ∧ i = .int .i64 k ∧ Hid (∀ j, j < k → xs[j]? = ys[j]?) ∧ All wr [.low (.els B 16 A1 xs.length (hvs xs)), .low (.els B 16 A2 ys.length (hvs ys)), .kept w w.heap.size]) (fun i _ => xs.length - (intOf i).toNat)
    case atStart => exact ⟨0, by omega, rfl, Lib.hid (fun j hj => absurd hj (by omega)), hR⟩
    case round =>
      obtain ⟨k, hk, rfl, HP, hI⟩ := hrel
      by_cases hlt : k < xs.length
      · have hlt2 : k < ys.length := by rw [← HL.out]; exact hlt
        obtain ⟨ad, rfl, _, hcs⟩ := Els.half (hI.1.1 : Els wr B 16 _ xs.length (hvs xs)) hlt
        obtain ⟨ae, rfl, _, hct⟩ := Els.half (hI.2.1.1 : Els wr B 16 _ ys.length (hvs ys)) hlt2
        have HCS := Lib.hid hcs
        have HCT := Lib.hid hct
        have hx16 : Hid (xs[k].length = 16) := Lib.hid (HX.out _ (List.getElem_mem hlt))
        have hy16 : Hid (ys[k].length = 16) := Lib.hid (HY.out _ (List.getElem_mem hlt2))
        have ex : Hid (xs[k]? = some xs[k]) := Lib.hid (List.getElem?_eq_getElem hlt)
        have ey : Hid (ys[k]? = some ys[k]) := Lib.hid (List.getElem?_eq_getElem hlt2)
        have wk0 : (0 : Int) ≤ (k : Int) := by omega
        have wk1 : (k : Int) < (xs.length : Int) := by omega
        have wk3 : (k : Int) < (ys.length : Int) := by omega
        have wk2 : ((k : Int)).toNat = k := by omega
        clear hcs hct
        generalize xs[k] = x at *
        generalize ys[k] = y at *
        go_wp2
        have hD := hI.drew
        refine wp_region_still_tail 8 (by kernel_rfl) (by kernel_rfl) ?_
        simp only [List.take_succ_cons, List.take_zero, List.drop_succ_cons, List.drop_zero]
        repeat first | (refine still_load_any rfl 23 _ rfl (ad.add (k * 16)) rfl (x.map bv) _ HCS.out Try.underlying23 rfl (by rw [List.length_map, hx16.out]; kernel_rfl) ?_) | (refine still_load_any rfl 23 _ rfl (ae.add (k * 16)) rfl (y.map bv) _ HCT.out Try.underlying23 rfl (by rw [List.length_map, hy16.out]; kernel_rfl) ?_) | still_step
        refine wpStill_nil ?_
        change wpList _ _ _ _ _ wr.drew
        have heq := fun W => ne_half W x y hx16.out hy16.out
        clear hI HCS HCT
        generalize wr.drew = w6 at *
        by_cases hxy : x = y
        · have dxy : decide (x = y) = true := by simp [hxy]
          have HP' : Hid (∀ j, j < k + 1 → xs[j]? = ys[j]?) := Lib.hid (fun j hj => by
            by_cases e : j = k
            · subst e; rw [ex.out, ey.out, hxy]
            · exact HP.out j (by omega))
          clear hxy
          go_wp2
          exact ⟨⟨k + 1, by omega, by go_num, HP', hD⟩, by simp [intOf]; omega⟩
        · have dxy : decide (x = y) = false := by simp [hxy]
          have hv : Hid (decide (xs = ys) = false) := Lib.hid (by
            simp only [decide_eq_false_iff_not]
            intro e
            have := ex.out
            rw [e, ey.out] at this
            injection this with this
            exact hxy this.symm)
          clear hxy
          go_wp2
          go_ret
          exact ⟨by rw [hv.out]; rfl, hD.2.2.1.1⟩
      · have hv : Hid (decide (xs = ys) = true) := Lib.hid (by
          simp only [decide_eq_true_eq]
          refine List.ext_getElem? fun j => ?_
          by_cases hj : j < k
          · exact HP.out j hj
          · rw [List.getElem?_eq_none (by omega), List.getElem?_eq_none (by have := HL.out; omega)])
        go_wp2
        go_ret
        exact ⟨by rw [hv.out]; rfl, hI.2.2.1.1⟩
  · have db : (((xs.length : Int)) != (ys.length : Int)) = true := by simp; omega
    have hv : Hid (decide (xs = ys) = false) := Lib.hid (by
      simp only [decide_eq_false_iff_not]
      intro e
      exact hl (by rw [e]))
    clear hl
    go_wp2
    go_ret
    exact ⟨by rw [hv.out]; rfl, hR.2.2.1.1⟩

end Go.Proofs.Ytlnbeglelhdjfaa
namespace Go.Proofs.Ytlnbeglelhdjfaa
open Go Go.RowKit Go.Adm

theorem tmod3 (x : Int) : -3 < x.tmod 3 ∧ x.tmod 3 < 3 := ⟨Int.lt_tmod_of_pos x (by decide), Int.tmod_lt_of_pos x (by decide)⟩
theorem low3 (x : Int) : (x.tmod 3 + 3).tmod 3 = x % 3 := by
  have h := tmod3 x
  have d := Int.tmod_def x 3
  rw [Int.tmod_eq_emod_of_nonneg (by omega)]
  omega
set_option maxRecDepth 100000 in
set_option maxHeartbeats 3200000 in
theorem low_any (w : World) (x : Int) :
    Calls Try.prog 12 #[.int .i64 x] w fun e w' => e = .returned (.int .i64 (x % 3)) ∧ Below w.heap.size w w' := by
  have hR : All w [.kept w w.heap.size] := ⟨⟨Below.refl _ _, Nat.le_refl _⟩, trivial⟩
  have h3 := tmod3 x
  have h4 := tmod3 (x.tmod 3 + 3)
  have e1 : IntKind.i64.wrap (x.tmod 3) = x.tmod 3 := IntWalk.i64_in _ (by omega)
  have e2 : IntKind.i64.wrap (x.tmod 3 + 3) = x.tmod 3 + 3 := IntWalk.i64_in _ (by omega)
  have e3 : IntKind.i64.wrap ((x.tmod 3 + 3).tmod 3) = (x.tmod 3 + 3).tmod 3 := IntWalk.i64_in _ (by omega)
  go_enter Try.func12, Try.ntmps12
  go_wp2
  go_ret
  exact ⟨congrArg (fun z => Ending.returned (Value.int .i64 z)) (show (x.tmod 3 + 3) % 3 = x % 3 from by have d := Int.tmod_def x 3; omega), hR.1.1⟩

end Go.Proofs.Ytlnbeglelhdjfaa
namespace Go.Proofs.Ytlnbeglelhdjfaa
open Go Go.RowKit Go.Adm

set_option maxRecDepth 100000 in
set_option maxHeartbeats 3200000 in
theorem refSame_sig (w : World) (B : Nat) (l1 l2 : Int) (A1 A2 P1 P2 : Option Addr) (c1 c2 p1 p2 : Nat) (xs ys us vs : List (List UInt8))
    (hx : Els w B 16 A1 xs.length (hvs xs)) (hx16 : ∀ x ∈ xs, x.length = 16) (hy : Els w B 16 A2 ys.length (hvs ys)) (hy16 : ∀ x ∈ ys, x.length = 16)
    (hu : Els w B 16 P1 us.length (hvs us)) (hu16 : ∀ x ∈ us, x.length = 16) (hv : Els w B 16 P2 vs.length (hvs vs)) (hv16 : ∀ x ∈ vs, x.length = 16) (hn : xs.length < 1000) (hm : us.length < 1000) (hB : B ≤ w.heap.size) :
    Calls Try.prog 11 #[.agg (sgCells l1 A1 xs.length c1 P1 us.length p1).toArray, .agg (sgCells l2 A2 ys.length c2 P2 vs.length p2).toArray] w fun e w' => e = .returned (.bool (decide (l1 = l2) && (decide (xs = ys) && decide (us = vs)))) ∧ Below w.heap.size w w' := by
  have hR : All w [.low (.els B 16 A1 xs.length (hvs xs)), .low (.els B 16 A2 ys.length (hvs ys)), .low (.els B 16 P1 us.length (hvs us)), .low (.els B 16 P2 vs.length (hvs vs)), .kept w w.heap.size] := ⟨⟨hx, hB⟩, ⟨hy, hB⟩, ⟨hu, hB⟩, ⟨hv, hB⟩, ⟨Below.refl _ _, Nat.le_refl _⟩, trivial⟩
  clear hx hy hu hv
  have HX := Lib.hid hx16
  have HY := Lib.hid hy16
  have HU := Lib.hid hu16
  have HV := Lib.hid hv16
  clear hx16 hy16 hu16 hv16
  go_enter Try.func11, Try.ntmps11
  go_upto_region 1 with (fail)
  refine wp_gen ((hR.new (sgCells l1 A1 xs.length c1 P1 us.length p1).toArray 30 rfl rfl).new (sgCells l2 A2 ys.length c2 P2 vs.length p2).toArray 30 (g := w.heap.size + 1) (by simp) rfl) ?_
  intro W hW
  have a00 : W.cell? ⟨w.heap.size, 0, none⟩ = some (.int .i64 l1) := Cells.cell (hW.at_ 1 rfl) (i := 0) (by simp [sgCells])
  have a01 : W.cell? ⟨w.heap.size, 1, none⟩ = some (.slice A1 xs.length c1) := Cells.cell (hW.at_ 1 rfl) (i := 1) (by simp [sgCells])
  have a02 : W.cell? ⟨w.heap.size, 2, none⟩ = some (.slice P1 us.length p1) := Cells.cell (hW.at_ 1 rfl) (i := 2) (by simp [sgCells])
  have a10 : W.cell? ⟨w.heap.size + 1, 0, none⟩ = some (.int .i64 l2) := Cells.cell (hW.at_ 0 rfl) (i := 0) (by simp [sgCells])
  have a11 : W.cell? ⟨w.heap.size + 1, 1, none⟩ = some (.slice A2 ys.length c2) := Cells.cell (hW.at_ 0 rfl) (i := 1) (by simp [sgCells])
  have a12 : W.cell? ⟨w.heap.size + 1, 2, none⟩ = some (.slice P2 vs.length p2) := Cells.cell (hW.at_ 0 rfl) (i := 2) (by simp [sgCells])
  by_cases hl : l1 = l2
  · have dl : (l1 == l2) = true := by simp [hl]
    have dl' : Hid (decide (l1 = l2) = true) := Lib.hid (by simp [hl])
    clear hl
    go_wp2_with fail
    refine (refSame_els W B A1 A2 c1 c2 xs ys (hW.at_ 2 rfl).1 HX.out (hW.at_ 3 rfl).1 HY.out hn (hW.at_ 2 rfl).2).mono ?_
    rintro e V ⟨rfl, hb⟩
    have hV := hW.call hb
    clear hW hb a00 a01 a02 a10 a11 a12
    have b00 : V.cell? ⟨w.heap.size, 0, none⟩ = some (.int .i64 l1) := Cells.cell (hV.at_ 1 rfl) (i := 0) (by simp [sgCells])
    have b01 : V.cell? ⟨w.heap.size, 1, none⟩ = some (.slice A1 xs.length c1) := Cells.cell (hV.at_ 1 rfl) (i := 1) (by simp [sgCells])
    have b02 : V.cell? ⟨w.heap.size, 2, none⟩ = some (.slice P1 us.length p1) := Cells.cell (hV.at_ 1 rfl) (i := 2) (by simp [sgCells])
    have b10 : V.cell? ⟨w.heap.size + 1, 0, none⟩ = some (.int .i64 l2) := Cells.cell (hV.at_ 0 rfl) (i := 0) (by simp [sgCells])
    have b11 : V.cell? ⟨w.heap.size + 1, 1, none⟩ = some (.slice A2 ys.length c2) := Cells.cell (hV.at_ 0 rfl) (i := 1) (by simp [sgCells])
    have b12 : V.cell? ⟨w.heap.size + 1, 2, none⟩ = some (.slice P2 vs.length p2) := Cells.cell (hV.at_ 0 rfl) (i := 2) (by simp [sgCells])
    cases hq : decide (xs = ys) with
    | true =>
      go_wp2_with fail
      refine (refSame_els V B P1 P2 p1 p2 us vs (hV.at_ 4 rfl).1 HU.out (hV.at_ 5 rfl).1 HV.out hm (hV.at_ 4 rfl).2).mono ?_
      rintro e V2 ⟨rfl, hb2⟩
      have hV2 := hV.call hb2
      cases hq2 : decide (us = vs) with
      | true =>
        go_wp2
        go_ret
        exact ⟨by rw [dl'.out, hq, hq2]; rfl, (hV2.at_ 6 rfl).1⟩
      | false =>
        go_wp2
        go_ret
        exact ⟨by rw [dl'.out, hq, hq2]; rfl, (hV2.at_ 6 rfl).1⟩
    | false =>
      go_wp2
      go_ret
      exact ⟨by rw [dl'.out, hq]; rfl, (hV.at_ 6 rfl).1⟩
  · have dl : (l1 == l2) = false := by simp [hl]
    have dl' : Hid (decide (l1 = l2) = false) := Lib.hid (by simp [hl])
    clear hl
    go_wp2
    go_ret
    exact ⟨by rw [dl'.out]; rfl, (hW.at_ 6 rfl).1⟩

end Go.Proofs.Ytlnbeglelhdjfaa
namespace Go.Adm
open Go Go.RowKit
theorem results_row_row_tmp {P : Program} {fn : Func} {p p2 q : Tmp} {ty ty2 : TypeId} (h : fn.results = #[.cell p ty, .cell p2 ty2, .tmp q]) (tmps : Array Value) (w : World)
    (g : Nat) (t : TypeId) (cs : Array Value) (fr : Nat × Nat) (d : TypeDesc) (hp : tmps.getD p undef = .pointer (some ⟨g, 0, none⟩)) (hg : w.heap[g]? = some (.cells cs t fr))
    (hu : P.underlying ty = some d) (hd : (match d with | .struct _ | .array _ _ => true | _ => false) = true) (hi : (P.info? ty).map (·.size) = some cs.size)
    (g2 : Nat) (t2 : TypeId) (cs2 : Array Value) (fr2 : Nat × Nat) (d2 : TypeDesc) (hp2 : tmps.getD p2 undef = .pointer (some ⟨g2, 0, none⟩)) (hg2 : w.heap[g2]? = some (.cells cs2 t2 fr2))
    (hu2 : P.underlying ty2 = some d2) (hd2 : (match d2 with | .struct _ | .array _ _ => true | _ => false) = true) (hi2 : (P.info? ty2).map (·.size) = some cs2.size) :
    (results fn tmps).run P w = .ok (.tuple #[.agg cs, .agg cs2, tmps.getD q undef]) w := by
  have hp' : tmps[p]?.getD undef = .pointer (some ⟨g, 0, none⟩) := by simpa using hp
  have hp2' : tmps[p2]?.getD undef = .pointer (some ⟨g2, 0, none⟩) := by simpa using hp2
  simp [results, h, hp', hp2', asAddr, run_loadVar_row w g t ty cs fr d hg hu hd hi, run_loadVar_row w g2 t2 ty2 cs2 fr2 d2 hg2 hu2 hd2 hi2]
/-- a signer's cells: seed, height, next -/
def siCells (seed : List UInt8) (h n : Int) : List Value := seed.map bv ++ [.int .i64 h, .int .i64 n]
theorem si_len (seed : List UInt8) (h n : Int) (hs : seed.length = 16) : (siCells seed h n).length = 18 := by simp [siCells, hs]
def siz : List Value := List.replicate 16 (Value.int .u8 0) ++ [.int .i64 0, .int .i64 0]
def sgz : List Value := [.int .i64 0, .slice none 0 0, .slice none 0 0]
end Go.Adm
namespace Go.Proofs.Ytlnbeglelhdjfaa
open Go Go.RowKit Go.Adm
theorem zero_si (W : World) : (zeroValue 25).run Try.prog W = .ok (.agg siz.toArray) W := by kernel_rfl
theorem zero_sg (W : World) : (zeroValue 30).run Try.prog W = .ok (.agg sgz.toArray) W := by kernel_rfl
end Go.Proofs.Ytlnbeglelhdjfaa
namespace Go.Proofs.Ytlnbeglelhdjfaa
open Go Go.RowKit Go.Adm

set_option maxRecDepth 100000 in
set_option maxHeartbeats 3200000 in
theorem Sign_bad (w : World) (seed d : List UInt8) (h n : Int) (hs : seed.length = 16) (hd : d.length = 32) (hb : hOk h = false ∨ n < 0) :
    Calls Try.prog 8 #[.agg (siCells seed h n).toArray, .agg (d.map bv).toArray] w fun e w' => e = .returned (.tuple #[.agg siz.toArray, .agg sgz.toArray, .int .i64 1]) ∧ Below w.heap.size w w' := by
  have hR : All w [.kept w w.heap.size] := ⟨⟨Below.refl _ _, Nat.le_refl _⟩, trivial⟩
  have hsl := Lib.hid hs
  have hbb := Lib.hid hb
  clear hs hd hb
  go_enter Try.func8, Try.ntmps8
  go_upto_region 1 with (fail)
  refine wp_gen ((((hR.new (l := siCells seed h n) _ 25 rfl rfl).new (l := d.map bv) _ 27 (g := w.heap.size + 1) (by simp) rfl).new (l := siz) _ 25 (g := w.heap.size + 1 + 1) (by simp) rfl).new (l := sgz) _ 30 (g := w.heap.size + 1 + 1 + 1) (by simp) rfl) ?_
  intro W hW
  have c1 : W.cell? ⟨w.heap.size, 16, none⟩ = some (.int .i64 h) := (Cells.cell (hW.at_ 3 rfl) (i := 16) (by simp [siCells, hsl.out])).trans (by simp [siCells, List.getElem_append, hsl.out])
  have c2 : W.cell? ⟨w.heap.size, 17, none⟩ = some (.int .i64 n) := (Cells.cell (hW.at_ 3 rfl) (i := 17) (by simp [siCells, hsl.out])).trans (by simp [siCells, List.getElem_append, hsl.out])
  go_wp2_with fail
  refine (height_any W h).mono ?_
  rintro e w' ⟨rfl, rfl⟩
  cases hx : hOk h with
  | false =>
    go_wp2_with (first | (refine wl_build rfl 25 [] rfl _ _ #[(0, 16), (16, 1), (17, 1)] siz.toArray zero_si Try.underlying25 (fun w => by kernel_rfl) rfl ?_) | (refine wl_build rfl 30 [] rfl _ _ #[(0, 1), (1, 1), (2, 1)] sgz.toArray zero_sg Try.underlying30 (fun w => by kernel_rfl) rfl ?_) | (refine wl_store_at hW 1 rfl 25 (.tmp 4) _ rfl (w.heap.size + 1 + 1) _ _ siz rfl rfl rfl rfl (by kernel_rfl) (by decide) (by simp [Apart, Res.apart, Low.parts, Low.els, Low.rd] <;> omega) ?_; intro w8 hI8 hs8) | (refine wl_store_at hI8 0 rfl 30 (.tmp 5) _ rfl (w.heap.size + 1 + 1 + 1) _ _ sgz rfl rfl rfl rfl (by kernel_rfl) (by decide) (by simp [Apart, Res.apart, Low.parts, Low.els, Low.rd] <;> omega) ?_; intro w9 hI9 hs9))
    refine bodyPost_ret (v := .tuple #[.agg siz.toArray, .agg sgz.toArray, .int .i64 1]) ?_ rfl ⟨rfl, (hI9.at_ 4 rfl).1⟩
    exact results_row_row_tmp (p := 4) (p2 := 5) (q := 6) rfl _ _ (w.heap.size + 1 + 1) 25 siz.toArray (0, 0) _ rfl (hI9.at_ 1 rfl) Try.underlying25 rfl (by kernel_rfl) (w.heap.size + 1 + 1 + 1) 30 sgz.toArray (0, 0) _ rfl (hI9.at_ 0 rfl) Try.underlying30 rfl (by kernel_rfl)

  | true =>
    have hn : decide (n < 0) = true := by
      rcases hbb.out with e | e
      · rw [hx] at e; cases e
      · simp [e]
    go_wp2_with (first | (refine wl_build rfl 25 [] rfl _ _ #[(0, 16), (16, 1), (17, 1)] siz.toArray zero_si Try.underlying25 (fun w => by kernel_rfl) rfl ?_) | (refine wl_build rfl 30 [] rfl _ _ #[(0, 1), (1, 1), (2, 1)] sgz.toArray zero_sg Try.underlying30 (fun w => by kernel_rfl) rfl ?_) | (refine wl_store_at hW 1 rfl 25 (.tmp 4) _ rfl (w.heap.size + 1 + 1) _ _ siz rfl rfl rfl rfl (by kernel_rfl) (by decide) (by simp [Apart, Res.apart, Low.parts, Low.els, Low.rd] <;> omega) ?_; intro w8 hI8 hs8) | (refine wl_store_at hI8 0 rfl 30 (.tmp 5) _ rfl (w.heap.size + 1 + 1 + 1) _ _ sgz rfl rfl rfl rfl (by kernel_rfl) (by decide) (by simp [Apart, Res.apart, Low.parts, Low.els, Low.rd] <;> omega) ?_; intro w9 hI9 hs9))
    refine bodyPost_ret (v := .tuple #[.agg siz.toArray, .agg sgz.toArray, .int .i64 1]) ?_ rfl ⟨rfl, (hI9.at_ 4 rfl).1⟩
    exact results_row_row_tmp (p := 4) (p2 := 5) (q := 6) rfl _ _ (w.heap.size + 1 + 1) 25 siz.toArray (0, 0) _ rfl (hI9.at_ 1 rfl) Try.underlying25 rfl (by kernel_rfl) (w.heap.size + 1 + 1 + 1) 30 sgz.toArray (0, 0) _ rfl (hI9.at_ 0 rfl) Try.underlying30 rfl (by kernel_rfl)


end Go.Proofs.Ytlnbeglelhdjfaa
namespace Go.Proofs.Ytlnbeglelhdjfaa
open Go Go.RowKit Go.Adm

set_option maxRecDepth 100000 in
set_option maxHeartbeats 3200000 in
theorem Sign_full (w : World) (seed d : List UInt8) (kh kn : Nat) (hs : seed.length = 16) (hd : d.length = 32) (hk : kh ≤ 6) (hb : 2 ^ kh ≤ kn) :
    Calls Try.prog 8 #[.agg (siCells seed kh kn).toArray, .agg (d.map bv).toArray] w fun e w' => e = .returned (.tuple #[.agg siz.toArray, .agg sgz.toArray, .int .i64 13]) ∧ Below w.heap.size w w' := by
  have hR : All w [.kept w w.heap.size] := ⟨⟨Below.refl _ _, Nat.le_refl _⟩, trivial⟩
  have hsl := Lib.hid hs
  have h64 := (pow_le64 kh hk)
  have hx : hOk (kh : Int) = true := by unfold hOk; simp; omega
  have hn : decide ((kn : Int) < 0) = false := by simp
  have p1 : IntKind.i64.wrap (2 ^ kh) = ((2 ^ kh : Nat) : Int) := by rw [IntWalk.i64_in _ (by have := h64.2; have : ((2 ^ kh : Nat) : Int) = 2 ^ kh := by simp
                                                                                              omega)]; simp
  have p2 : wrap64 (2 ^ kh) = ((2 ^ kh : Nat) : Int) := by have := pow_cast kh hk; simpa using this
  have hg : decide (((2 ^ kh : Nat) : Int) ≤ (kn : Int)) = true := by simp only [decide_eq_true_eq]; omega
  have hg2 : decide ((2 : Int) ^ kh ≤ (kn : Int)) = true := by
    simp only [decide_eq_true_eq]; exact_mod_cast hb
  clear hs hd hb
  go_enter Try.func8, Try.ntmps8
  go_upto_region 1 with (fail)
  refine wp_gen ((((hR.new (l := siCells seed kh kn) _ 25 rfl rfl).new (l := d.map bv) _ 27 (g := w.heap.size + 1) (by simp) rfl).new (l := siz) _ 25 (g := w.heap.size + 1 + 1) (by simp) rfl).new (l := sgz) _ 30 (g := w.heap.size + 1 + 1 + 1) (by simp) rfl) ?_
  intro W hW
  have c1 : W.cell? ⟨w.heap.size, 16, none⟩ = some (.int .i64 kh) := (Cells.cell (hW.at_ 3 rfl) (i := 16) (by simp [siCells, hsl.out])).trans (by simp [siCells, List.getElem_append, hsl.out])
  have c2 : W.cell? ⟨w.heap.size, 17, none⟩ = some (.int .i64 kn) := (Cells.cell (hW.at_ 3 rfl) (i := 17) (by simp [siCells, hsl.out])).trans (by simp [siCells, List.getElem_append, hsl.out])
  go_wp2_with fail
  refine (height_any W kh).mono ?_
  rintro e w' ⟨rfl, rfl⟩
  rw [hx]
  go_wp2_with fail
  go_quiet (fail)
  have hW' := fun n => hW.drewN n
  go_wp2_with (first | (refine wl_build rfl 25 [] rfl _ _ #[(0, 16), (16, 1), (17, 1)] siz.toArray zero_si Try.underlying25 (fun w => by kernel_rfl) rfl ?_) | (refine wl_build rfl 30 [] rfl _ _ #[(0, 1), (1, 1), (2, 1)] sgz.toArray zero_sg Try.underlying30 (fun w => by kernel_rfl) rfl ?_) | (refine wl_store_at (hW' _) 1 rfl 25 (.tmp 4) _ rfl (w.heap.size + 1 + 1) _ _ siz rfl rfl rfl rfl (by kernel_rfl) (by decide) (by simp [Apart, Res.apart, Low.parts, Low.els, Low.rd] <;> omega) ?_; intro w8 hI8 hs8) | (refine wl_store_at hI8 0 rfl 30 (.tmp 5) _ rfl (w.heap.size + 1 + 1 + 1) _ _ sgz rfl rfl rfl rfl (by kernel_rfl) (by decide) (by simp [Apart, Res.apart, Low.parts, Low.els, Low.rd] <;> omega) ?_; intro w9 hI9 hs9))
  refine bodyPost_ret (v := .tuple #[.agg siz.toArray, .agg sgz.toArray, .int .i64 13]) ?_ rfl ⟨rfl, (hI9.at_ 4 rfl).1⟩
  exact results_row_row_tmp (p := 4) (p2 := 5) (q := 6) rfl _ _ (w.heap.size + 1 + 1) 25 siz.toArray (0, 0) _ rfl (hI9.at_ 1 rfl) Try.underlying25 rfl (by kernel_rfl) (w.heap.size + 1 + 1 + 1) 30 sgz.toArray (0, 0) _ rfl (hI9.at_ 0 rfl) Try.underlying30 rfl (by kernel_rfl)


end Go.Proofs.Ytlnbeglelhdjfaa

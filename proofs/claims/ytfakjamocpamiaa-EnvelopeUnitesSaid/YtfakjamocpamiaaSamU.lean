/- Equality of lists of digests that are equal. -/
import Derived.Test.YtfakjamocpamiaaSto15
set_option linter.unusedSimpArgs false
set_option linter.unusedVariables false
set_option maxRecDepth 100000
namespace Go.Proofs.Ytfakjamocpamiaa
open Go Go.RowKit Go.Adm
theorem eqIn_dgU (w : World) (x y : List UInt8) (hx : x.length = 32) (hy : y.length = 32) : (Op.equalIn 10000 37 (.agg (x.map bv).toArray) (.agg (y.map bv).toArray)).run Try.prog w = .ok (decide (x = y)) w := by
 have h := eq_dg w x y hx hy
 rw [run_eql_struct] at h
 revert h
 generalize (Op.equalIn 10000 37 (.agg (x.map bv).toArray) (.agg (y.map bv).toArray)).run Try.prog w = q
 intro h
 cases q with
 | ok b w' =>
  simp only [Result.andThen, Result.ok.injEq, Value.bool.injEq] at h ⊢
  exact ⟨h.1, h.2⟩
 | _ => simp [Result.andThen] at h
set_option maxHeartbeats 3200000 in
theorem SameDigsU_true (w : World) (B : Nat) (A1 A2 : Option Addr) (n c1 c2 : Nat) (xs : List (List UInt8)) (h1 : Digs w B A1 n xs) (h2 : Digs w B A2 n xs) (hn2 : n ≤ 1000000000) (hB : B ≤ w.heap.size) :
  Calls Try.prog 13 #[.slice A1 n c1, .slice A2 n c2] w fun e w' => e = .returned (.bool true) ∧ Below w.heap.size w w' := by
 have hR : All w [.low (.digs B A1 n xs), .low (.digs B A2 n xs), .kept w w.heap.size] := ⟨⟨h1, hB⟩, ⟨h2, hB⟩, ⟨Below.refl _ _, Nat.le_refl _⟩, trivial⟩
 have HN := Lib.hid h1.len
 clear h1 h2
 go_enter Try.func13, Try.ntmps13
 go_upto_region 1 with (fail)
 have d0 : ((n : Int) != (n : Int)) = false := by simp
 have hI0 := hR
 clear hR
 go_wp2
 clear d0
 go_loopw [5] (fun i wr => ∃ k : Nat, k ≤ n ∧ i = .int .i64 k ∧ All wr [.low (.digs B A1 n xs), .low (.digs B A2 n xs), .kept w w.heap.size]) (fun i _ => n - (intOf i).toNat)
 case atStart => exact ⟨0, by omega, rfl, hI0⟩
 case round =>
  clear hI0
  obtain ⟨k, hk, rfl, hI⟩ := hrel
  by_cases hlt : k < n
  ·have hkl : k < xs.length := by rw [HN.out]; exact hlt
   have hg1 := (hI.at_ 0 rfl : Digs wr B A1 n xs ∧ _).1
   have hg2 := (hI.at_ 1 rfl : Digs wr B A2 n xs ∧ _).1
   obtain ⟨a1, rfl, -, -⟩ := Digs.elem hg1 hkl
   obtain ⟨a2, rfl, -, -⟩ := Digs.elem hg2 hkl
   have HX1 : Hid (∀ W, All W [.low (.digs B (some a1) n xs), .low (.digs B (some a2) n xs), .kept w w.heap.size] → ∀ q s, (xs[k].map bv)[q]? = some s → W.cell? ((a1.add (k * 32)).add q) = some s) := Lib.hid (fun W hW => by
    obtain ⟨ad', e, _, hc⟩ := Digs.elem (hW.at_ 0 rfl : Digs W B (some a1) n xs ∧ B ≤ W.heap.size).1 hkl
    obtain rfl := Option.some.inj e
    exact hc)
   have HX2 : Hid (∀ W, All W [.low (.digs B (some a1) n xs), .low (.digs B (some a2) n xs), .kept w w.heap.size] → ∀ q s, (xs[k].map bv)[q]? = some s → W.cell? ((a2.add (k * 32)).add q) = some s) := Lib.hid (fun W hW => by
    obtain ⟨ad', e, _, hc⟩ := Digs.elem (hW.at_ 1 rfl : Digs W B (some a2) n xs ∧ B ≤ W.heap.size).1 hkl
    obtain rfl := Option.some.inj e
    exact hc)
   have HD := Lib.hid (hg1.each _ (List.getElem_mem hkl))
   clear hg1 hg2
   generalize xs[k] = d at *
   have d1 : decide ((k : Int) < (n : Int)) = true := by simp; omega
   have wk0 : (0 : Int) ≤ (k : Int) := by omega
   have wk1 : (k : Int) < (n : Int) := by omega
   have wk2 : ((k : Int)).toNat = k := by omega
   go_upto_region 6 with (fail)
   refine wp_region_hops 8 [17, 18, 19, 20, 21, 22, 23, 24] [.low (.digs B (some a1) n xs), .low (.digs B (some a2) n xs), .kept w w.heap.size]
    [.eq (.slice (some a1) n c1), .eq (.int .i64 k), .eq (.pointer (some (a1.add (k * 32)))), .eq (.agg (d.map bv).toArray), .eq (.slice (some a2) n c2), .eq (.int .i64 k), .eq (.pointer (some (a2.add (k * 32)))), .eq (.agg (d.map bv).toArray)]
    (by kernel_rfl) (by kernel_rfl) hI rfl ?hops ?fin
   case hops =>
    refine ⟨?_, ?_, ?_, ?_, ?_, ?_, ?_, ?_, trivial⟩
    ·intro a W hW hb hd K hK
     have b0 := hb 0 rfl
     go_simp
     exact hK _ _ (World.grownBy.refl _ _) rfl
    ·intro a W hW hb hd K hK
     have b5 := hb 5 rfl
     go_simp
     exact hK _ _ (World.grownBy.refl _ _) rfl
    ·intro a W hW hb hd K hK
     have b17 : a.tmps[17]?.getD undef = _ := hd ⟨0, .data⟩ (by simp) rfl
     have b18 : a.tmps[18]?.getD undef = _ := hd ⟨1, .data⟩ (by simp) rfl
     go_simp
     exact hK _ _ (World.grownBy.refl _ _) rfl
    ·intro a W hW hb hd K hK
     have b19 : a.tmps[19]?.getD undef = _ := hd ⟨2, .data⟩ (by simp) rfl
     refine wp_load_any 37 (.tmp 19) rfl (a1.add (k * 32)) (show a.eval (.tmp 19) = _ from by simp only [Act.eval, Array.getD_eq_getD_getElem?]; exact b19) (d.map bv) _ (HX1.out W hW) Try.underlying37 rfl (by rw [List.length_map, HD.out]; kernel_rfl) ?_
     exact hK _ _ (World.grownBy.refl _ _) rfl
    ·intro a W hW hb hd K hK
     have b1 := hb 1 rfl
     go_simp
     exact hK _ _ (World.grownBy.refl _ _) rfl
    ·intro a W hW hb hd K hK
     have b5 := hb 5 rfl
     go_simp
     exact hK _ _ (World.grownBy.refl _ _) rfl
    ·intro a W hW hb hd K hK
     have b21 : a.tmps[21]?.getD undef = _ := hd ⟨4, .data⟩ (by simp) rfl
     have b22 : a.tmps[22]?.getD undef = _ := hd ⟨5, .data⟩ (by simp) rfl
     go_simp
     exact hK _ _ (World.grownBy.refl _ _) rfl
    ·intro a W hW hb hd K hK
     have b23 : a.tmps[23]?.getD undef = _ := hd ⟨6, .data⟩ (by simp) rfl
     refine wp_load_any 37 (.tmp 23) rfl (a2.add (k * 32)) (show a.eval (.tmp 23) = _ from by simp only [Act.eval, Array.getD_eq_getD_getElem?]; exact b23) (d.map bv) _ (HX2.out W hW) Try.underlying37 rfl (by rw [List.length_map, HD.out]; kernel_rfl) ?_
     exact hK _ _ (World.grownBy.refl _ _) rfl
   case fin =>
    intro vs V hV hv
    have e3 : vs 3 = _ := hv 3 (by decide)
    have e7 : vs 7 = _ := hv 7 (by decide)
    clear hv hI
    simp only [putAll, List.drop_succ_cons, List.drop_zero, e3, e7, Act.put, List.setIfInBounds_toArray, List.set_cons_succ, List.set_cons_zero]
    clear e3 e7
    have q1 := fun W => eqIn_dgU W d d HD.out HD.out
    rw [decide_eq_true (rfl : d = d)] at q1
    go_wp2_with fail
    exact ⟨⟨k + 1, by omega, by go_num, hV⟩, by simp [intOf]; omega⟩
  ·obtain rfl : n = k := by omega
   have d1 : decide ((n : Int) < (n : Int)) = false := by simp
   clear hlt
   go_wp2_with fail
   go_ret
   exact ⟨rfl, (hI.at_ 2 rfl : _ ∧ _).1⟩

end Go.Proofs.Ytfakjamocpamiaa

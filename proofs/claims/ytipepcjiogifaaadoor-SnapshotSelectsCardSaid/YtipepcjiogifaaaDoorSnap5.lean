/- Equality of lists of entries and of changes that are equal. -/
import Derived.Test.YtipepcjiogifaaaDoorSnap4
set_option linter.unusedSimpArgs false
set_option linter.unusedVariables false
namespace Go.Adm
open Go Go.RowKit
theorem wl_neq {P : Program} {ops : Array Oper} {rest : List Oper} {o : Oper} {a : Act} {w : World} {Q : Exit → Act → World → Prop} {t t2 : TypeId} (x y : Operand) (hgd : o.guard = none) (ho : o.op = .binOp .neq t x y t2) (v : Value)
    (h : (binOp .neq t (a.eval x) (a.eval y)).run P w = .ok v w) (hg : (eqGuard .neq t x y (a.eval x) (a.eval y)).run P w = .ok () w) (hk : wpList P ops Q rest (a.put o.dst v) w) : wpList P ops Q (o :: rest) a w :=
  wpList_plain hgd fun _ hK => by
    unfold Oper.wp execOp
    simp only [ho, Sem.run_bind, hg, h, Result.andThen_ok]
    exact hK _ _ hk
end Go.Adm
namespace Go.Proofs.YtipepcjiogifaaaDoor
open Go Go.RowKit Go.Adm

set_option maxRecDepth 100000 in
set_option maxHeartbeats 3200000 in
theorem Same_true (w : World) (B : Nat) (A1 A2 : Option Addr) (n c1 c2 : Nat) (l : List E) (h1 : Els w B 33 A1 n (l.map entC)) (h2 : Els w B 33 A2 n (l.map entC)) (h32 : ∀ e ∈ l, E32 e) (hn : l.length = n) (hn2 : n ≤ 1000000) (hB : B ≤ w.heap.size) :
    Calls Tryd.prog 11 #[.slice A1 n c1, .slice A2 n c2] w fun e w' => e = .returned (.bool true) ∧ Below w.heap.size w w' := by
  have hR : All w [.low (.els B 33 A1 n (l.map entC)), .low (.els B 33 A2 n (l.map entC)), .kept w w.heap.size] := ⟨⟨h1, hB⟩, ⟨h2, hB⟩, ⟨Below.refl _ _, Nat.le_refl _⟩, trivial⟩
  have HN := Lib.hid hn
  have H32 := Lib.hid h32
  clear h1 h2 h32 hn
  go_enter Tryd.func11, Tryd.ntmps11
  go_upto_region 1 with (fail)
  have hI0 := hR
  clear hR
  go_wp2
  go_loopw [5] (fun i wr => ∃ (k : Nat), k ≤ n ∧ i = .int .i64 k ∧ All wr [.low (.els B 33 A1 n (l.map entC)), .low (.els B 33 A2 n (l.map entC)), .kept w w.heap.size]) (fun i _ => n - (intOf i).toNat)
  case atStart => exact ⟨0, by omega, rfl, hI0⟩
  case round =>
    obtain ⟨k, hk, rfl, hI⟩ := hrel
    by_cases hlt : k < n
    · have hkl : k < l.length := by rw [HN.out]; exact hlt
      obtain ⟨a1, rfl, -, -⟩ := Els.elem (hI.at_ 0 rfl : Els wr B 33 A1 n (l.map entC) ∧ B ≤ wr.heap.size).1 hkl
      obtain ⟨a2, rfl, -, -⟩ := Els.elem (hI.at_ 1 rfl : Els wr B 33 A2 n (l.map entC) ∧ B ≤ wr.heap.size).1 hkl
      have HC1 : Hid (∀ W, All W [.low (.els B 33 (some a1) n (l.map entC)), .low (.els B 33 (some a2) n (l.map entC)), .kept w w.heap.size] → ∀ j u, (entC l[k])[j]? = some u → W.cell? ((a1.add (k * 33)).add j) = some u) := Lib.hid (fun W hW => by
        obtain ⟨a', e, -, hc⟩ := Els.elem (hW.at_ 0 rfl : Els W B 33 (some a1) n (l.map entC) ∧ B ≤ W.heap.size).1 hkl
        obtain rfl := Option.some.inj e
        exact hc)
      have HC2 : Hid (∀ W, All W [.low (.els B 33 (some a1) n (l.map entC)), .low (.els B 33 (some a2) n (l.map entC)), .kept w w.heap.size] → ∀ j u, (entC l[k])[j]? = some u → W.cell? ((a2.add (k * 33)).add j) = some u) := Lib.hid (fun W hW => by
        obtain ⟨a', e, -, hc⟩ := Els.elem (hW.at_ 1 rfl : Els W B 33 (some a2) n (l.map entC) ∧ B ≤ W.heap.size).1 hkl
        obtain rfl := Option.some.inj e
        exact hc)
      have hx := Lib.hid (H32.out _ (List.getElem_mem hkl))
      generalize l[k] = x at *
      have d1 : decide ((k : Int) < (n : Int)) = true := by simp; omega
      have wk0 : (0 : Int) ≤ (k : Int) := by omega
      have wk1 : (k : Int) < (n : Int) := by omega
      have wk2 : ((k : Int)).toNat = k := by omega
      have hne : ∀ W, (binOp .neq 50 (.agg (entC x).toArray) (.agg (entC x).toArray)).run Tryd.prog W = .ok (.bool false) W := fun W => by rw [ne_ent W x x hx.out hx.out, (entEq_iff x x).2 rfl]; rfl
      go_upto_region 6 with (fail)
      refine wp_region_hopsH 8 [17, 18, 19, 20, 21, 22, 23, 24] _
        [.eq (.slice (some a1) n c1), .eq (.int .i64 k), .eq (.pointer (some (a1.add (k * 33)))), .eq (.agg (entC x).toArray), .eq (.slice (some a2) n c2), .eq (.int .i64 k), .eq (.pointer (some (a2.add (k * 33)))), .eq (.agg (entC x).toArray)]
        (by kernel_rfl) (by kernel_rfl) hI rfl ?hops ?fin
      case hops =>
        refine ⟨?_, ?_, ?_, ?_, ?_, ?_, ?_, ?_, trivial⟩
        · intro a W hW hb hd K hK
          have b0 := hb 0 rfl
          go_simp
          exact hK _ _ (World.grownBy.refl _ _) rfl
        · intro a W hW hb hd K hK
          have b5 := hb 5 rfl
          go_simp
          exact hK _ _ (World.grownBy.refl _ _) rfl
        · intro a W hW hb hd K hK
          have b17 : a.tmps[17]?.getD undef = _ := hd ⟨0, .data⟩ (by simp) rfl
          have b18 : a.tmps[18]?.getD undef = _ := hd ⟨1, .data⟩ (by simp) rfl
          go_simp
          exact hK _ _ (World.grownBy.refl _ _) rfl
        · intro a W hW hb hd K hK
          have b19 : a.tmps[19]?.getD undef = _ := hd ⟨2, .data⟩ (by simp) rfl
          refine wp_load_any 50 (.tmp 19) rfl (a1.add (k * 33)) (by simp [Act.eval, b19]) (entC x) _ (HC1.out W hW) Tryd.underlying50 rfl (by rw [entC_len hx.out]; kernel_rfl) ?_
          exact hK _ _ (World.grownBy.refl _ _) rfl
        · intro a W hW hb hd K hK
          have b1 := hb 1 rfl
          go_simp
          exact hK _ _ (World.grownBy.refl _ _) rfl
        · intro a W hW hb hd K hK
          have b5 := hb 5 rfl
          go_simp
          exact hK _ _ (World.grownBy.refl _ _) rfl
        · intro a W hW hb hd K hK
          have b21 : a.tmps[21]?.getD undef = _ := hd ⟨4, .data⟩ (by simp) rfl
          have b22 : a.tmps[22]?.getD undef = _ := hd ⟨5, .data⟩ (by simp) rfl
          go_simp
          exact hK _ _ (World.grownBy.refl _ _) rfl
        · intro a W hW hb hd K hK
          have b23 : a.tmps[23]?.getD undef = _ := hd ⟨6, .data⟩ (by simp) rfl
          refine wp_load_any 50 (.tmp 23) rfl (a2.add (k * 33)) (by simp [Act.eval, b23]) (entC x) _ (HC2.out W hW) Tryd.underlying50 rfl (by rw [entC_len hx.out]; kernel_rfl) ?_
          exact hK _ _ (World.grownBy.refl _ _) rfl
      case fin =>
        intro vs W hW hv
        have e3 : vs 3 = _ := hv 3 (by decide)
        have e7 : vs 7 = _ := hv 7 (by decide)
        clear hv HC1 HC2
        simp only [putAll, List.drop_succ_cons, List.drop_zero, e3, e7, Act.put, List.setIfInBounds_toArray, List.set_cons_succ, List.set_cons_zero]
        clear e3 e7
        go_wp2_with (refine wl_neq (.tmp 20) (.tmp 24) rfl rfl _ (hne _) (by go_simp) ?_)
        exact ⟨⟨k + 1, by omega, by go_num, hW⟩, by simp [intOf]; omega⟩
    · obtain rfl : k = n := by omega
      have d1 : decide ((k : Int) < (k : Int)) = false := by simp
      go_wp2
      go_ret
      exact ⟨rfl, (hI.at_ 2 rfl).1⟩
end Go.Proofs.YtipepcjiogifaaaDoor

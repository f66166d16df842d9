/- Equality of records and of their parts, where they are equal. Records that are equal are found equal. -/
import Derived.Test.YtjdinakdkdjocaaGreatDoorRec6
import Derived.Test.YtjdinakdkdjocaaGreatDoorRec2
import Derived.Test.YtjdinakdkdjocaaGreatDoorTapA
import Derived.Test.YtjdinakdkdjocaaGreatDoorLit2
import Derived.Test.YtjdinakdkdjocaaGreatDoorSnpB
import Derived.Test.YtjdinakdkdjocaaGreatDoorDoc8
import Derived.LoopIn
import Derived.Handy
import Derived.BigFrame
import Derived.Deep.Cut
set_option linter.unusedSimpArgs false
set_option linter.unusedVariables false
set_option maxRecDepth 100000
namespace Go.Adm
open Go Go.RowKit
theorem wl_neq {P : Program} {ops : Array Oper} {rest : List Oper} {o : Oper} {a : Act} {w : World} {Q : Exit → Act → World → Prop} {t t2 : TypeId} (x y : Operand) (hgd : o.guard = none) (ho : o.op = .binOp .neq t x y t2) (v : Value)
    (h : (binOp .neq t (a.eval x) (a.eval y)).run P w = .ok v w) (hg : (eqGuard .neq t x y (a.eval x) (a.eval y)).run P w = .ok () w) (hk : wpList P ops Q rest (a.put o.dst v) w) : wpList P ops Q (o :: rest) a w :=
  wpList_plain hgd fun _ hK => by
    unfold Oper.wp execOp
    simp only [ho, Sem.run_bind, hg, h, Result.andThen_ok]
    exact hK _ _ hk
end Go.Adm
namespace Go.Proofs.YtjdinakdkdjocaaGreatDoor
open Go Go.RowKit Go.Adm

set_option maxRecDepth 100000 in
set_option maxHeartbeats 3200000 in
theorem Same_true (w : World) (B : Nat) (A1 A2 : Option Addr) (n c1 c2 : Nat) (l : List E) (h1 : Els w B 33 A1 n (l.map entC)) (h2 : Els w B 33 A2 n (l.map entC)) (h32 : ∀ e ∈ l, E32 e) (hn : l.length = n) (hn2 : n ≤ 1000000) (hB : B ≤ w.heap.size) :
    Calls Tryz.prog 64 #[.slice A1 n c1, .slice A2 n c2] w fun e w' => e = .returned (.bool true) ∧ Below w.heap.size w w' := by
  have hR : All w [.low (.els B 33 A1 n (l.map entC)), .low (.els B 33 A2 n (l.map entC)), .kept w w.heap.size] := ⟨⟨h1, hB⟩, ⟨h2, hB⟩, ⟨Below.refl _ _, Nat.le_refl _⟩, trivial⟩
  have HN := Lib.hid hn
  have H32 := Lib.hid h32
  clear h1 h2 h32 hn
  go_enter Tryz.func64, Tryz.ntmps64
  go_upto_region 1 with (fail)
  have hI0 := hR
  clear hR
  go_wp2
  go_loopw [5] (fun i wr => ∃ (k : Nat), k ≤ n ∧ i = .int .i64 k ∧ All wr [.low (.els B 33 A1 n (l.map entC)), .low (.els B 33 A2 n (l.map entC)), .kept w w.heap.size]) (fun i _ => n - (intOf i).toNat)
  case atStart => exact ⟨0, by omega, rfl, hI0⟩
  case round =>
    obtain ⟨k, hk, rfl, hI⟩ := hrel
    by_cases hlt : k < n
    · have hkl : k < l.length := by rw [HN.out]; exact hlt
      obtain ⟨a1, rfl, -, -⟩ := Els.elem (hI.at_ 0 rfl : Els wr B 33 A1 n (l.map entC) ∧ B ≤ wr.heap.size).1 hkl
      obtain ⟨a2, rfl, -, -⟩ := Els.elem (hI.at_ 1 rfl : Els wr B 33 A2 n (l.map entC) ∧ B ≤ wr.heap.size).1 hkl
      have HC1 : Hid (∀ W, All W [.low (.els B 33 (some a1) n (l.map entC)), .low (.els B 33 (some a2) n (l.map entC)), .kept w w.heap.size] → ∀ j u, (entC l[k])[j]? = some u → W.cell? ((a1.add (k * 33)).add j) = some u) := Lib.hid (fun W hW => by
        obtain ⟨a', e, -, hc⟩ := Els.elem (hW.at_ 0 rfl : Els W B 33 (some a1) n (l.map entC) ∧ B ≤ W.heap.size).1 hkl
        obtain rfl := Option.some.inj e
        exact hc)
      have HC2 : Hid (∀ W, All W [.low (.els B 33 (some a1) n (l.map entC)), .low (.els B 33 (some a2) n (l.map entC)), .kept w w.heap.size] → ∀ j u, (entC l[k])[j]? = some u → W.cell? ((a2.add (k * 33)).add j) = some u) := Lib.hid (fun W hW => by
        obtain ⟨a', e, -, hc⟩ := Els.elem (hW.at_ 1 rfl : Els W B 33 (some a2) n (l.map entC) ∧ B ≤ W.heap.size).1 hkl
        obtain rfl := Option.some.inj e
        exact hc)
      have hx := Lib.hid (H32.out _ (List.getElem_mem hkl))
      generalize l[k] = x at *
      have d1 : decide ((k : Int) < (n : Int)) = true := by simp; omega
      have wk0 : (0 : Int) ≤ (k : Int) := by omega
      have wk1 : (k : Int) < (n : Int) := by omega
      have wk2 : ((k : Int)).toNat = k := by omega
      have hne : ∀ W, (binOp .neq 70 (.agg (entC x).toArray) (.agg (entC x).toArray)).run Tryz.prog W = .ok (.bool false) W := fun W => by rw [ne_ent W x x hx.out hx.out, (entEq_iff x x).2 rfl]; rfl
      go_upto_region 6 with (fail)
      refine wp_region_hopsH 8 [17, 18, 19, 20, 21, 22, 23, 24] _
        [.eq (.slice (some a1) n c1), .eq (.int .i64 k), .eq (.pointer (some (a1.add (k * 33)))), .eq (.agg (entC x).toArray), .eq (.slice (some a2) n c2), .eq (.int .i64 k), .eq (.pointer (some (a2.add (k * 33)))), .eq (.agg (entC x).toArray)]
        (by kernel_rfl) (by kernel_rfl) hI rfl ?hops ?fin
      case hops =>
        refine ⟨?_, ?_, ?_, ?_, ?_, ?_, ?_, ?_, trivial⟩
        · intro a W hW hb hd K hK
          have b0 := hb 0 rfl
          go_simp
          exact hK _ _ (World.grownBy.refl _ _) rfl
        · intro a W hW hb hd K hK
          have b5 := hb 5 rfl
          go_simp
          exact hK _ _ (World.grownBy.refl _ _) rfl
        · intro a W hW hb hd K hK
          have b17 : a.tmps[17]?.getD undef = _ := hd ⟨0, .data⟩ (by simp) rfl
          have b18 : a.tmps[18]?.getD undef = _ := hd ⟨1, .data⟩ (by simp) rfl
          go_simp
          exact hK _ _ (World.grownBy.refl _ _) rfl
        · intro a W hW hb hd K hK
          have b19 : a.tmps[19]?.getD undef = _ := hd ⟨2, .data⟩ (by simp) rfl
          refine wp_load_any 70 (.tmp 19) rfl (a1.add (k * 33)) (by simp [Act.eval, b19]) (entC x) _ (HC1.out W hW) Tryz.underlying70 rfl (by rw [entC_len hx.out]; kernel_rfl) ?_
          exact hK _ _ (World.grownBy.refl _ _) rfl
        · intro a W hW hb hd K hK
          have b1 := hb 1 rfl
          go_simp
          exact hK _ _ (World.grownBy.refl _ _) rfl
        · intro a W hW hb hd K hK
          have b5 := hb 5 rfl
          go_simp
          exact hK _ _ (World.grownBy.refl _ _) rfl
        · intro a W hW hb hd K hK
          have b21 : a.tmps[21]?.getD undef = _ := hd ⟨4, .data⟩ (by simp) rfl
          have b22 : a.tmps[22]?.getD undef = _ := hd ⟨5, .data⟩ (by simp) rfl
          go_simp
          exact hK _ _ (World.grownBy.refl _ _) rfl
        · intro a W hW hb hd K hK
          have b23 : a.tmps[23]?.getD undef = _ := hd ⟨6, .data⟩ (by simp) rfl
          refine wp_load_any 70 (.tmp 23) rfl (a2.add (k * 33)) (by simp [Act.eval, b23]) (entC x) _ (HC2.out W hW) Tryz.underlying70 rfl (by rw [entC_len hx.out]; kernel_rfl) ?_
          exact hK _ _ (World.grownBy.refl _ _) rfl
      case fin =>
        intro vs W hW hv
        have e3 : vs 3 = _ := hv 3 (by decide)
        have e7 : vs 7 = _ := hv 7 (by decide)
        clear hv HC1 HC2
        simp only [putAll, List.drop_succ_cons, List.drop_zero, e3, e7, Act.put, List.setIfInBounds_toArray, List.set_cons_succ, List.set_cons_zero]
        clear e3 e7
        go_wp2_with (refine wl_neq (.tmp 20) (.tmp 24) rfl rfl _ (hne _) (by go_simp) ?_)
        exact ⟨⟨k + 1, by omega, by go_num, hW⟩, by simp [intOf]; omega⟩
    · obtain rfl : k = n := by omega
      have d1 : decide ((k : Int) < (k : Int)) = false := by simp
      go_wp2
      go_ret
      exact ⟨rfl, (hI.at_ 2 rfl).1⟩
end Go.Proofs.YtjdinakdkdjocaaGreatDoor
namespace Go.Proofs.YtjdinakdkdjocaaGreatDoor
open Go Go.RowKit Go.Adm
set_option maxHeartbeats 1600000 in
theorem wSame_true (w : World) (B : Nat) (A1 A2 : Option Addr) (n c1 c2 : Nat) (ss : List ByteArray) (h1 : Strs w B A1 n ss) (h2 : Strs w B A2 n ss) (hB : B ≤ w.heap.size) (hn : n ≤ 9223372036854775807) :
    Calls Tryz.prog 30 #[.slice A1 n c1, .slice A2 n c2] w fun e w' => e = .returned (.bool true) ∧ Below w.heap.size w w' := by
  have HN := Lib.hid h1.len
  have H1 := Lib.hid h1
  have H2 := Lib.hid h2
  clear h1 h2
  go_enter Tryz.func30, Tryz.ntmps30
  go_wp2
  go_loopw [5] (fun i wr => ∃ k : Nat, k ≤ n ∧ i = .int .i64 k ∧ All wr [.kept w w.heap.size]) (fun i _ => n - (intOf i).toNat)
  case atStart => exact ⟨0, by omega, rfl, ⟨Below.refl _ _, Nat.le_refl _⟩, trivial⟩
  case round =>
    obtain ⟨k, hk, rfl, hI⟩ := hrel
    have hkp := (hI.at_ 0 rfl : _ ∧ _).1
    by_cases hlt : k < n
    · have hkl : k < ss.length := by rw [HN.out]; exact hlt
      obtain ⟨a1, rfl, x1, _⟩ := H1.out.at_in hkp hB hkl
      obtain ⟨a2, rfl, x2, _⟩ := H2.out.at_in hkp hB hkl
      generalize ss[k] = x at *
      have d1 : decide ((k : Int) < (n : Int)) = true := by simp; omega
      have wk0 : (0 : Int) ≤ (k : Int) := by omega
      have wk1 : (k : Int) < (n : Int) := by omega
      have wk2 : ((k : Int)).toNat = k := by omega
      have q1 : (x.toList == x.toList) = true := by simp
      go_upto_region 6 with (fail)
      go_quiet (fail)
      have hI1 := hI.drewN nq
      clear x1 x2 hI hkp
      generalize wr.drewN nq = wq at *
      go_wp2_with fail
      exact ⟨⟨k + 1, by omega, by go_num, hI1⟩, by simp [intOf]; omega⟩
    · have d1 : decide ((k : Int) < (n : Int)) = false := by simp; omega
      go_wp2_with fail
      go_ret
      exact ⟨rfl, hkp⟩

end Go.Proofs.YtjdinakdkdjocaaGreatDoor
namespace Go.AdR
open Go Go.RowKit Go.Adm
def lnkC (s : ByteArray) (sm sp : Sl) : List Value := [.string s, sm.v, sp.v]
theorem lnkC_one (s : ByteArray) (sm sp : Sl) : ∀ v ∈ lnkC s sm sp, v.oneCell' = true := by
  intro v hv
  simp only [lnkC, List.mem_cons, List.mem_nil_iff, or_false] at hv
  rcases hv with rfl | rfl | rfl <;> rfl
theorem entsC_one (l : List E) : ∀ u ∈ (l.map entC).flatten, u.oneCell' = true := by
  intro u hu
  obtain ⟨cs, hcs, hu⟩ := List.mem_flatten.1 hu
  obtain ⟨e, _, rfl⟩ := List.mem_map.1 hcs
  rcases List.mem_cons.1 hu with rfl | h
  · rfl
  · obtain ⟨b, _, rfl⟩ := List.mem_map.1 h
    rfl
end Go.AdR
namespace Go.Proofs.YtjdinakdkdjocaaGreatDoor
open Go Go.RowKit Go.Adm Go.AdR
/-- what was returned: a link with lists of the call's own -/
def LinkPost (x : Rec) (sm sp : Sl) (w : World) (e : Ending) (w' : World) : Prop := ∃ (sa sb : Sl), sa.n = sm.n ∧ sb.n = sp.n ∧ e = .returned (.agg (lnkC x.step sa sb).toArray) ∧ Below w.heap.size w w' ∧ Els w' w'.heap.size 33 sa.A sa.n (x.mat.map entC) ∧ Els w' w'.heap.size 33 sb.A sb.n (x.prod.map entC)
set_option maxHeartbeats 1600000 in
theorem rLink_any (w : World) (x : Rec) (sc se sm sp : Sl) :
    Calls Tryz.prog 32 #[.agg (recC x sc se sm sp).toArray] w fun e w' => e = .returned (.agg (lnkC x.step sm sp).toArray) ∧ Below w.heap.size w w' := by
  have hR : All w [.kept w w.heap.size] := ⟨⟨Below.refl _ _, Nat.le_refl _⟩, trivial⟩
  have hzr := zero_link
  go_enter Tryz.func32, Tryz.ntmps32
  go_upto_region 1 with (fail)
  refine wp_gen ((hR.new (l := recC x sc se sm sp) _ 31 rfl rfl).new (l := linkZ) linkZ.toArray 53 (g := w.heap.size + 1) (by simp) rfl) ?_
  intro W hW
  clear hR hzr
  have c2 := cell_of (hW.at_ 1 rfl) (i := 2) rfl
  have c6 := cell_of (hW.at_ 1 rfl) (i := 6) rfl
  have c7 := cell_of (hW.at_ 1 rfl) (i := 7) rfl
  go_wp2_with (first
    | (refine wl_build rfl 53 [(0, .tmp 4), (1, .tmp 6), (2, .tmp 8)] rfl _ _ #[(0, 1), (1, 1), (2, 1)] #[.string x.step, .slice sm.A sm.n sm.c, .slice sp.A sp.n sp.c] zero_link Tryz.underlying53 (fun w => by kernel_rfl) ?_ ?_; exact fill_link x.step _ _ rfl rfl)
    | (refine wl_store_at hW 0 rfl 53 (.tmp 2) (.tmp 9) rfl (w.heap.size + 1) _ linkZ [.string x.step, .slice sm.A sm.n sm.c, .slice sp.A sp.n sp.c] rfl rfl rfl rfl (by kernel_rfl) (lnkC_one x.step sm sp) ⟨fun e => by injection e with e; omega, fun g e => by injection e with e; omega, trivial⟩ ?_; intro w4 hW4 hs4))
  simp only [List.set_cons_zero] at hW4
  have hc4 : Cells w4 (w.heap.size + 1) 53 [.string x.step, .slice sm.A sm.n sm.c, .slice sp.A sp.n sp.c] := hW4.at_ 0 rfl
  refine bodyPost_ret (results_cell_row rfl _ _ (w.heap.size + 1) 53 #[Value.string x.step, Value.slice sm.A sm.n sm.c, Value.slice sp.A sp.n sp.c] (0, 0) _ rfl hc4 Tryz.underlying53 rfl (by kernel_rfl)) rfl ?_
  exact ⟨rfl, (hW4.at_ 2 rfl : _ ∧ _).1⟩
set_option maxHeartbeats 1600000 in
theorem SameLink_true (w : World) (B : Nat) (s : ByteArray) (sa sb sm sp : Sl) (a b : List E) (h1 : Els w B 33 sa.A sa.n (a.map entC)) (h2 : Els w B 33 sb.A sb.n (b.map entC)) (h3 : Els w B 33 sm.A sa.n (a.map entC)) (h4 : Els w B 33 sp.A sb.n (b.map entC)) (hm : sm.n = sa.n) (hp : sp.n = sb.n) (ha : ∀ e ∈ a, E32 e) (hb : ∀ e ∈ b, E32 e) (e1 : a.length = sa.n) (e2 : b.length = sb.n) (hn1 : sa.n ≤ 400000) (hn2 : sb.n ≤ 400000) (hB : B ≤ w.heap.size) :
    Calls Tryz.prog 31 #[.agg (lnkC s sa sb).toArray, .agg (lnkC s sm sp).toArray] w fun e w' => e = .returned (.bool true) ∧ Below w.heap.size w w' := by
  obtain ⟨mA, mn, mc⟩ := sm
  obtain ⟨pA, pn, pc⟩ := sp
  simp only at hm hp h3 h4
  subst hm hp
  have hR : All w [.low (.els B 33 sa.A sa.n (a.map entC)), .low (.els B 33 sb.A sb.n (b.map entC)), .low (.els B 33 mA sa.n (a.map entC)), .low (.els B 33 pA sb.n (b.map entC)), .kept w w.heap.size] := ⟨⟨h1, hB⟩, ⟨h2, hB⟩, ⟨h3, hB⟩, ⟨h4, hB⟩, ⟨Below.refl _ _, Nat.le_refl _⟩, trivial⟩
  have HS1 : Hid (∀ W, All W [.low (.els B 33 sa.A sa.n (a.map entC)), .low (.els B 33 sb.A sb.n (b.map entC)), .low (.els B 33 mA sa.n (a.map entC)), .low (.els B 33 pA sb.n (b.map entC)), .kept w w.heap.size] → Calls Tryz.prog 64 #[.slice sa.A sa.n sa.c, .slice mA sa.n mc] W fun e w' => e = .returned (.bool true) ∧ Below W.heap.size W w') := Lib.hid (fun W hW => Same_true W B sa.A mA sa.n sa.c mc a (hW.at_ 0 rfl : _ ∧ _).1 (hW.at_ 2 rfl : _ ∧ _).1 ha e1 (by omega) (hW.at_ 0 rfl : _ ∧ _).2)
  have HS2 : Hid (∀ W, All W [.low (.els B 33 sa.A sa.n (a.map entC)), .low (.els B 33 sb.A sb.n (b.map entC)), .low (.els B 33 mA sa.n (a.map entC)), .low (.els B 33 pA sb.n (b.map entC)), .kept w w.heap.size] → Calls Tryz.prog 64 #[.slice sb.A sb.n sb.c, .slice pA sb.n pc] W fun e w' => e = .returned (.bool true) ∧ Below W.heap.size W w') := Lib.hid (fun W hW => Same_true W B sb.A pA sb.n sb.c pc b (hW.at_ 1 rfl : _ ∧ _).1 (hW.at_ 3 rfl : _ ∧ _).1 hb e2 (by omega) (hW.at_ 0 rfl : _ ∧ _).2)
  clear h1 h2 h3 h4 ha hb e1 e2 hn1 hn2 hB
  go_enter Tryz.func31, Tryz.ntmps31
  go_upto_region 1 with (fail)
  refine wp_gen ((hR.new (l := lnkC s sa sb) _ 53 rfl rfl).new (l := lnkC s ⟨mA, sa.n, mc⟩ ⟨pA, sb.n, pc⟩) _ 53 (g := w.heap.size + 1) (by simp) rfl) ?_
  intro W hW
  clear hR
  have p0 := cell_of (hW.at_ 0 rfl) (i := 0) rfl
  have p1 := cell_of (hW.at_ 0 rfl) (i := 1) rfl
  have p2 := cell_of (hW.at_ 0 rfl) (i := 2) rfl
  have q0 := cell_of (hW.at_ 1 rfl) (i := 0) rfl
  have q1 := cell_of (hW.at_ 1 rfl) (i := 1) rfl
  have q2 := cell_of (hW.at_ 1 rfl) (i := 2) rfl
  have hs1 := HS1.out W hW.2.2
  clear HS1
  go_wp2_with (first
    | (go_at_call 64; have z9 := hs1; clear z9; refine hs1.mono ?_; clear hs1; rintro e w3 ⟨rfl, hb3⟩; have hW3 := hW.call hb3; have hs2 := HS2.out w3 hW3.2.2; have p2 := cell_of (hW3.at_ 0 rfl) (i := 2) rfl; have q2 := cell_of (hW3.at_ 1 rfl) (i := 2) rfl; clear HS2)
    | (go_at_call 64; refine hs2.mono ?_; clear hs2; rintro e w4 ⟨rfl, hb4⟩; have hW4 := hW3.call hb4))
  go_ret
  exact ⟨ret_bool (by simp), (hW4.at_ 6 rfl : _ ∧ _).1⟩
end Go.Proofs.YtjdinakdkdjocaaGreatDoor
set_option linter.unusedSimpArgs false
set_option linter.unusedVariables false
set_option maxRecDepth 100000
namespace Go.Proofs.YtjdinakdkdjocaaGreatDoor
open Go Go.RowKit Go.Adm Go.AdR
theorem kl_var (x : Var) (h : VarOk x) : Tryz.prog.keyLits 3 49 (varC x) = some [.string x.n.data.toList, .string x.v.data.toList] := by
  have k1 := kl_str (P := Tryz.prog) Tryz.underlying9 x.n h.1 1
  have k2 := kl_str (P := Tryz.prog) Tryz.underlying9 x.v h.2 1
  have c1 : Tryz.prog.cellsOf 49 = 2 := by kernel_rfl
  have c3 : Tryz.prog.cellsOf 9 = 1 := by kernel_rfl
  unfold Program.keyLits
  rw [Tryz.underlying49]
  simp [varC, c1, c3, List.mapM_cons, k1, k2, sv] at *
theorem fm_var (x : Var) : (Value.agg (varC x).toArray).formed Tryz.prog 49 = true := by
  have hl : (varC x).length = 2 := rfl
  generalize varC x = l at *
  have hc : Tryz.prog.cellsOf 49 = 2 := by kernel_rfl
  simp [Value.formed, Tryz.underlying49, hl, hc]
theorem ne_var (w : World) (x : Var) (hx : VarOk x) : (binOp .neq 49 (.agg (varC x).toArray) (.agg (varC x).toArray)).run Tryz.prog w = .ok (.bool false) w := by
  have h := run_eq_deep w 3 49 (by decide) (by kernel_rfl) (fm_var x) (fm_var x) (kl_var x hx) (kl_var x hx) true (by simp)
  rw [run_eql_struct] at h
  rw [run_neq_struct]
  revert h
  generalize (Op.equalIn 10000 49 _ _).run Tryz.prog w = q
  intro h
  cases q with
  | ok b w' =>
    simp only [Result.andThen, Result.ok.injEq, Value.bool.injEq] at h ⊢
    exact ⟨by rw [h.1]; rfl, h.2⟩
  | _ => simp [Result.andThen] at h
set_option maxHeartbeats 6400000 in
theorem rSame_true (w : World) (B : Nat) (x : Rec) (sc se sm sp sc2 se2 sm2 sp2 : Sl) (h1 : RecIn w B x sc se sm sp) (h2 : RecIn w B x sc2 se2 sm2 sp2) (ho : RecOk x) (hs1 : x.mat.length ≤ 400000) (hs2 : x.prod.length ≤ 400000) (hB : B ≤ w.heap.size) :
    Calls Tryz.prog 9 #[.agg (recC x sc se sm sp).toArray, .agg (recC x sc2 se2 sm2 sp2).toArray] w fun e w' => e = .returned (.bool true) ∧ Below w.heap.size w w' := by
  have hR : All w [.low (Go.AdR.Low.recd B x sc se sm sp), .low (Go.AdR.Low.recd B x sc2 se2 sm2 sp2), .kept w w.heap.size] := ⟨⟨h1, hB⟩, ⟨h2, hB⟩, ⟨Below.refl _ _, Nat.le_refl _⟩, trivial⟩
  have HEL : Hid (x.env.length = se.n) := Lib.hid (by have := h1.env.len; simpa using this)
  have HEN : Hid (se2.n = se.n) := Lib.hid (by have a := h1.env.len; have b := h2.env.len; simp at a b; omega)
  have HCN : Hid (sc2.n = sc.n) := Lib.hid (by have a := h1.cmd.len; have b := h2.cmd.len; omega)
  have hcn : sc.n ≤ 1000000 := by have a := h1.cmd.len; have := ho.ncmd; omega
  have hen : se.n ≤ 1000000 := by have a := HEL.out; have := ho.nenv; omega
  have HCS : Hid (∀ W, RecIn W B x sc se sm sp → RecIn W B x sc2 se2 sm2 sp2 → B ≤ W.heap.size → Calls Tryz.prog 30 #[.slice sc.A sc.n sc.c, .slice sc2.A sc.n sc2.c] W fun e w' => e = .returned (.bool true) ∧ Below W.heap.size W w') := Lib.hid (fun W a b hs => wSame_true W B sc.A sc2.A sc.n sc.c sc2.c x.cmd a.cmd (by rw [← HCN.out]; exact b.cmd) hs (by omega))
  have HLS : Hid (∀ W, RecIn W B x sc se sm sp → RecIn W B x sc2 se2 sm2 sp2 → B ≤ W.heap.size → Calls Tryz.prog 31 #[.agg (lnkC x.step sm sp).toArray, .agg (lnkC x.step sm2 sp2).toArray] W fun e w' => e = .returned (.bool true) ∧ Below W.heap.size W w') := Lib.hid (fun W a b hs => by
    have m1 := a.mat.len; have m2 := b.mat.len; have p1 := a.prod.len; have p2 := b.prod.len
    rw [List.length_map] at m1 m2 p1 p2
    exact SameLink_true W B x.step sm sp sm2 sp2 x.mat x.prod a.mat a.prod (by rw [← m1, m2]; exact b.mat) (by rw [← p1, p2]; exact b.prod) (by omega) (by omega) ho.mat ho.prod m1 p1 (by omega) (by omega) hs)
  have HVO := Lib.hid ho.env
  clear h1 h2 ho hs1 hs2 hB
  go_enter Tryz.func9, Tryz.ntmps9
  go_upto_region 1 with (fail)
  refine wp_gen ((hR.new (l := recC x sc se sm sp) _ 31 rfl rfl).new (l := recC x sc2 se2 sm2 sp2) _ 31 (g := w.heap.size + 1) (by simp) rfl) ?_
  intro W hW
  clear hR
  obtain ⟨g1, hg1⟩ : ∃ g, g = w.heap.size := ⟨_, rfl⟩
  obtain ⟨g2, hg2⟩ : ∃ g, g = w.heap.size + 1 := ⟨_, rfl⟩
  have hI : All W [.cells g2 31 (recC x sc2 se2 sm2 sp2), .cells g1 31 (recC x sc se sm sp), .low (Go.AdR.Low.recd B x sc se sm sp), .low (Go.AdR.Low.recd B x sc2 se2 sm2 sp2), .kept w w.heap.size] := by rw [hg1, hg2]; exact hW
  rw [← hg2, ← hg1]
  clear hW hg1 hg2
  have p0 := cell_of (hI.at_ 0 rfl) (i := 0) rfl
  have p1 := cell_of (hI.at_ 0 rfl) (i := 1) rfl
  have p3 := cell_of (hI.at_ 0 rfl) (i := 3) rfl
  have p4 : W.cell? ⟨g2, 4, none⟩ = some (.slice sc2.A sc.n sc2.c) := by have := cell_of (hI.at_ 0 rfl) (i := 4) rfl; rw [← HCN.out]; exact this
  have p5 : W.cell? ⟨g2, 5, none⟩ = some (.slice se2.A se.n se2.c) := by have := cell_of (hI.at_ 0 rfl) (i := 5) rfl; rw [← HEN.out]; exact this
  have q0 := cell_of (hI.at_ 1 rfl) (i := 0) rfl
  have q1 := cell_of (hI.at_ 1 rfl) (i := 1) rfl
  have q3 := cell_of (hI.at_ 1 rfl) (i := 3) rfl
  have q4 : W.cell? ⟨g1, 4, none⟩ = some (.slice sc.A sc.n sc.c) := cell_of (hI.at_ 1 rfl) (i := 4) rfl
  have q5 : W.cell? ⟨g1, 5, none⟩ = some (.slice se.A se.n se.c) := cell_of (hI.at_ 1 rfl) (i := 5) rfl
  have hcs := HCS.out W (hI.at_ 2 rfl : _ ∧ _).1 (hI.at_ 3 rfl : _ ∧ _).1 (hI.at_ 3 rfl : _ ∧ B ≤ W.heap.size).2
  clear HCS
  go_upto_region 3 with (go_at_call 30; refine hcs.mono ?_; clear hcs; rintro e w5 ⟨rfl, hb5⟩; have p5 := hb5.cell (p := ⟨g2, 5, none⟩) (Cells.lt (hI.at_ 0 rfl)) |>.trans p5; have q5 := hb5.cell (p := ⟨g1, 5, none⟩) (Cells.lt (hI.at_ 1 rfl)) |>.trans q5; have hI := hI.call hb5; clear hb5)
  go_wp2_with fail
  go_loopw [5] (fun i wr => ∃ (k : Nat), k ≤ se.n ∧ i = .int .i64 k ∧ All wr [.cells g2 31 (recC x sc2 se2 sm2 sp2), .cells g1 31 (recC x sc se sm sp), .low (Go.AdR.Low.recd B x sc se sm sp), .low (Go.AdR.Low.recd B x sc2 se2 sm2 sp2), .kept w w.heap.size]) (fun i _ => se.n - (intOf i).toNat)
  case atStart => exact ⟨0, by omega, rfl, hI⟩
  case round =>
    clear hI
    obtain ⟨k, hk, rfl, hI⟩ := hrel
    have q5 : wr.cell? ⟨g1, 5, none⟩ = some (.slice se.A se.n se.c) := cell_of (hI.at_ 1 rfl) (i := 5) rfl
    by_cases hlt : k < se.n
    · have hkl : k < x.env.length := by rw [HEL.out]; exact hlt
      obtain ⟨a1, ha1, -, -⟩ := Els.elem (hI.at_ 2 rfl : RecIn wr B x sc se sm sp ∧ B ≤ wr.heap.size).1.env hkl
      obtain ⟨a2, ha2, -, -⟩ := Els.elem (hI.at_ 3 rfl : RecIn wr B x sc2 se2 sm2 sp2 ∧ B ≤ wr.heap.size).1.env hkl
      have HC1 : Hid (∀ W, All W [.cells g2 31 (recC x sc2 se2 sm2 sp2), .cells g1 31 (recC x sc se sm sp), .low (Go.AdR.Low.recd B x sc se sm sp), .low (Go.AdR.Low.recd B x sc2 se2 sm2 sp2), .kept w w.heap.size] → ∀ j u, (varC x.env[k])[j]? = some u → W.cell? ((a1.add (k * 2)).add j) = some u) := Lib.hid (fun W hW => by
        obtain ⟨a', e, -, hc⟩ := Els.elem (hW.at_ 2 rfl : RecIn W B x sc se sm sp ∧ B ≤ W.heap.size).1.env hkl
        rw [ha1] at e
        obtain rfl := Option.some.inj e
        exact hc)
      have HC2 : Hid (∀ W, All W [.cells g2 31 (recC x sc2 se2 sm2 sp2), .cells g1 31 (recC x sc se sm sp), .low (Go.AdR.Low.recd B x sc se sm sp), .low (Go.AdR.Low.recd B x sc2 se2 sm2 sp2), .kept w w.heap.size] → ∀ j u, (varC x.env[k])[j]? = some u → W.cell? ((a2.add (k * 2)).add j) = some u) := Lib.hid (fun W hW => by
        obtain ⟨a', e, -, hc⟩ := Els.elem (hW.at_ 3 rfl : RecIn W B x sc2 se2 sm2 sp2 ∧ B ≤ W.heap.size).1.env hkl
        rw [ha2] at e
        obtain rfl := Option.some.inj e
        exact hc)
      have hne : ∀ W, (binOp .neq 49 (.agg (varC x.env[k]).toArray) (.agg (varC x.env[k]).toArray)).run Tryz.prog W = .ok (.bool false) W := fun W => ne_var W _ (HVO.out _ (List.getElem_mem hkl))
      generalize x.env[k] = y at *
      have d1 : decide ((k : Int) < (se.n : Int)) = true := by simp; omega
      have wk0 : (0 : Int) ≤ (k : Int) := by omega
      have wk1 : (k : Int) < (se.n : Int) := by omega
      have wk2 : ((k : Int)).toNat = k := by omega
      go_upto_region 6 with (fail)
      clear q5
      refine wp_region_hops 10 [49, 50, 51, 52, 53, 54, 55, 56, 57, 58] [.cells g2 31 (recC x sc2 se2 sm2 sp2), .cells g1 31 (recC x sc se sm sp), .low (Go.AdR.Low.recd B x sc se sm sp), .low (Go.AdR.Low.recd B x sc2 se2 sm2 sp2), .kept w w.heap.size]
        [.eq (.pointer (some ⟨g1, 5, none⟩)), .eq (.slice (some a1) se.n se.c), .eq (.int .i64 k), .eq (.pointer (some (a1.add (k * 2)))), .eq (.agg (varC y).toArray), .eq (.pointer (some ⟨g2, 5, none⟩)), .eq (.slice (some a2) se.n se2.c), .eq (.int .i64 k), .eq (.pointer (some (a2.add (k * 2)))), .eq (.agg (varC y).toArray)]
        (by kernel_rfl) (by kernel_rfl) hI rfl ?hops ?fin
      case hops =>
        refine ⟨?_, ?_, ?_, ?_, ?_, ?_, ?_, ?_, ?_, ?_, trivial⟩
        · intro a' W hW hb hd K hK
          have b2 := hb 2 rfl
          go_simp
          exact hK _ _ (World.grownBy.refl _ _) rfl
        · intro a' W hW hb hd K hK
          have b49 : a'.tmps[49]?.getD undef = _ := hd ⟨0, .data⟩ (by simp) rfl
          have q1 : W.cell? ⟨g1, 5, none⟩ = some (.slice (some a1) se.n se.c) := by have := cell_of (hW.at_ 1 rfl) (i := 5) rfl; rw [← ha1]; exact this
          go_simp
          exact hK _ _ (World.grownBy.refl _ _) rfl
        · intro a' W hW hb hd K hK
          have b5 := hb 5 rfl
          go_simp
          exact hK _ _ (World.grownBy.refl _ _) rfl
        · intro a' W hW hb hd K hK
          have b50 : a'.tmps[50]?.getD undef = _ := hd ⟨1, .data⟩ (by simp) rfl
          have b51 : a'.tmps[51]?.getD undef = _ := hd ⟨2, .data⟩ (by simp) rfl
          go_simp
          exact hK _ _ (World.grownBy.refl _ _) rfl
        · intro a' W hW hb hd K hK
          have b52 : a'.tmps[52]?.getD undef = _ := hd ⟨3, .data⟩ (by simp) rfl
          refine wp_load_any 49 (.tmp 52) rfl (a1.add (k * 2)) (show a'.eval (.tmp 52) = _ from by simp only [Act.eval, Array.getD_eq_getD_getElem?]; exact b52) (varC y) _ (HC1.out W hW) Tryz.underlying49 rfl (by kernel_rfl) ?_
          exact hK _ _ (World.grownBy.refl _ _) rfl
        · intro a' W hW hb hd K hK
          have b3 := hb 3 rfl
          go_simp
          exact hK _ _ (World.grownBy.refl _ _) rfl
        · intro a' W hW hb hd K hK
          have b54 : a'.tmps[54]?.getD undef = _ := hd ⟨5, .data⟩ (by simp) rfl
          have q1 : W.cell? ⟨g2, 5, none⟩ = some (.slice (some a2) se.n se2.c) := by have := cell_of (hW.at_ 0 rfl) (i := 5) rfl; rw [← ha2, ← HEN.out]; exact this
          go_simp
          exact hK _ _ (World.grownBy.refl _ _) rfl
        · intro a' W hW hb hd K hK
          have b5 := hb 5 rfl
          go_simp
          exact hK _ _ (World.grownBy.refl _ _) rfl
        · intro a' W hW hb hd K hK
          have b55 : a'.tmps[55]?.getD undef = _ := hd ⟨6, .data⟩ (by simp) rfl
          have b56 : a'.tmps[56]?.getD undef = _ := hd ⟨7, .data⟩ (by simp) rfl
          go_simp
          exact hK _ _ (World.grownBy.refl _ _) rfl
        · intro a' W hW hb hd K hK
          have b57 : a'.tmps[57]?.getD undef = _ := hd ⟨8, .data⟩ (by simp) rfl
          refine wp_load_any 49 (.tmp 57) rfl (a2.add (k * 2)) (show a'.eval (.tmp 57) = _ from by simp only [Act.eval, Array.getD_eq_getD_getElem?]; exact b57) (varC y) _ (HC2.out W hW) Tryz.underlying49 rfl (by kernel_rfl) ?_
          exact hK _ _ (World.grownBy.refl _ _) rfl
      case fin =>
        intro vs W hW hv
        have e4 : vs 4 = _ := hv 4 (by decide)
        have e9 : vs 9 = _ := hv 9 (by decide)
        clear hv HC1 HC2 ha1 ha2
        simp only [putAll, Nat.zero_add, Nat.reduceAdd, List.drop_succ_cons, List.drop_zero, e4, e9, Act.put, List.setIfInBounds_toArray, List.set_cons_succ, List.set_cons_zero]
        clear e4 e9
        go_wp2_with (refine wl_neq (.tmp 53) (.tmp 58) rfl rfl _ (hne _) (by go_simp) ?_)
        exact ⟨⟨k + 1, by omega, by go_num, hW⟩, by simp [intOf]; omega⟩
    · obtain rfl : k = se.n := by omega
      have d1 : decide ((se.n : Int) < (se.n : Int)) = false := by simp
      go_upto_region 8 with (fail)
      clear q5
      refine wp_region_hops 4 [60, 61, 62, 63] [.cells g2 31 (recC x sc2 se2 sm2 sp2), .cells g1 31 (recC x sc se sm sp), .low (Go.AdR.Low.recd B x sc se sm sp), .low (Go.AdR.Low.recd B x sc2 se2 sm2 sp2), .kept w w.heap.size]
        [.eq (.agg (recC x sc se sm sp).toArray), .eq (.agg (lnkC x.step sm sp).toArray), .eq (.agg (recC x sc2 se2 sm2 sp2).toArray), .eq (.agg (lnkC x.step sm2 sp2).toArray)]
        (by kernel_rfl) (by kernel_rfl) hI rfl ?hops8 ?fin8
      case hops8 =>
        refine ⟨?_, ?_, ?_, ?_, trivial⟩
        · intro a' W hW hb hd K hK
          have b2 := hb 2 rfl
          refine wp_load_any 31 (.tmp 2) rfl ⟨g1, 0, none⟩ (show a'.eval (.tmp 2) = _ from by simp only [Act.eval, Array.getD_eq_getD_getElem?]; exact b2) (recC x sc se sm sp) _ (cell_all (hW.at_ 1 rfl)) Tryz.underlying31 rfl (by kernel_rfl) ?_
          exact hK _ _ (World.grownBy.refl _ _) rfl
        · intro a' W hW hb hd K hK
          have b60 : a'.tmps[60]?.getD undef = _ := hd ⟨0, .data⟩ (by simp) rfl
          go_simp
          refine (rLink_any W x sc se sm sp).mono ?_
          rintro e w' ⟨rfl, hb'⟩
          exact hK _ _ (grown_of_below hb') rfl
        · intro a' W hW hb hd K hK
          have b3 := hb 3 rfl
          refine wp_load_any 31 (.tmp 3) rfl ⟨g2, 0, none⟩ (show a'.eval (.tmp 3) = _ from by simp only [Act.eval, Array.getD_eq_getD_getElem?]; exact b3) (recC x sc2 se2 sm2 sp2) _ (cell_all (hW.at_ 0 rfl)) Tryz.underlying31 rfl (by kernel_rfl) ?_
          exact hK _ _ (World.grownBy.refl _ _) rfl
        · intro a' W hW hb hd K hK
          have b62 : a'.tmps[62]?.getD undef = _ := hd ⟨2, .data⟩ (by simp) rfl
          go_simp
          refine (rLink_any W x sc2 se2 sm2 sp2).mono ?_
          rintro e w' ⟨rfl, hb'⟩
          exact hK _ _ (grown_of_below hb') rfl
      case fin8 =>
        intro vs V hV hv
        have e1 : vs 1 = _ := hv 1 (by decide)
        have e3 : vs 3 = _ := hv 3 (by decide)
        clear hv
        simp only [putAll, Nat.zero_add, Nat.reduceAdd, List.drop_succ_cons, List.drop_zero, e1, e3, Act.put, List.setIfInBounds_toArray, List.set_cons_succ, List.set_cons_zero]
        clear e1 e3
        have hls := HLS.out V (hV.at_ 2 rfl : _ ∧ _).1 (hV.at_ 3 rfl : _ ∧ _).1 (hV.at_ 3 rfl : _ ∧ B ≤ V.heap.size).2
        have hkv := (hV.at_ 4 rfl : _ ∧ w.heap.size ≤ V.heap.size)
        clear HLS hV hI
        go_wp2_with (go_at_call 31; refine hls.mono ?_; clear hls; rintro e w9 ⟨rfl, hb9⟩)
        go_ret
        exact ⟨rfl, hkv.1.trans (hb9.mono hkv.2)⟩
end Go.Proofs.YtjdinakdkdjocaaGreatDoor

/- Invert, Diff, Apply and Compose of the reference. -/
import Derived.Test.YtieobkgdkiahbaaDoorRef4
import Derived.Test.YtieobkgdkiahbaaDoorSnap5
set_option linter.unusedSimpArgs false
set_option linter.unusedVariables false
set_option maxRecDepth 100000
namespace Go.Adm
open Go Go.RowKit
theorem wp_bld' {P : Program} {o : Oper} {a : Act} {w : World} {K : Act → World → Prop} {Q : Exit → Act → World → Prop} (t : TypeId) (parts : List (Nat × Operand)) (ho : o.op = .build t parts.toArray)
    (fields : Array Field) (z : Value) (places : Array (Nat × Nat)) (cells : Array Value)
    (hz : ∀ w, (zeroValue t).run P w = .ok z w) (hu : P.underlying t = some (.struct fields)) (hp : ∀ w, (placesOf fields).run P w = .ok places w)
    (hf : Instr.fill (places[·]?) z.cells (parts.map fun x => (x.1, a.eval x.2)) = some cells)
    (h : K (a.put o.dst (.agg cells)) w) : o.wp P a w K Q := by
  have hf' : Instr.fill (places[·]?) z.cells ((parts.toArray.map fun (i, x) => (i, a.eval x)).toList) = some cells := by
    rw [Array.toList_map]; exact hf
  unfold Oper.wp execOp
  simp only [ho, Sem.run_bind, run_build_struct w t fields z places _ cells (hz w) hu (hp w) hf', Result.andThen_ok]
  exact h
theorem own_le {w : World} {base n c size : Nat} {e : TypeId} {A : Option Addr} {xs : List Value} (h : Go.Adm.Own w base e size A n c xs) : n ≤ c := by
  rcases h.2 with ⟨h1, h2⟩ | ⟨g, cap, cur, hv, _, _, hle, _⟩
  · omega
  · injection hv with _ _ h3
    omega
theorem foldPut_snoc {α β K : Type} [DecidableEq K] {lt : K → K → Bool} (key : α → K) (g : β → Option α) (l : List β) (b : β) (o : List α) : foldPut lt key g (l ++ [b]) o = match g b with | none => foldPut lt key g l o | some e => putK lt key (foldPut lt key g l o) e := by
  unfold foldPut
  rw [List.foldl_append]
  rfl
theorem putK_len {α K : Type} [DecidableEq K] {lt : K → K → Bool} (key : α → K) (l : List α) (x : α) : (putK lt key l x).length = l.length + 1 := by
  unfold putK
  have := congrArg List.length (List.takeWhile_append_dropWhile (p := fun y => lt (key y) (key x)) (l := l))
  simp only [List.length_append] at this
  simp only [List.length_append, List.length_cons]
  omega
theorem lookZ_32 {l : List E} (h : ∀ e ∈ l, E32 e) (k : ByteArray) : (lookZ z32 l k).length = 32 := by
  unfold lookZ
  cases hl : lookR l k with
  | none => rfl
  | some d =>
    obtain ⟨x, hx, _, rfl⟩ := lookR_some hl
    exact (h x hx).1
theorem findR_32 {l : List C} (h : ∀ e ∈ l, C32 e) (k : ByteArray) : C32 ((findR l k).getD cZ) := by
  cases hl : findR l k with
  | none => exact ⟨rfl, rfl, by decide⟩
  | some d => exact h d (findR_some hl).1
def rDiff (a b : List E) : List C × Int := if validB a && validB b then (foldPut blt Chg.p (dB z32 a) b (foldPut blt Chg.p (dA z32 b) a []), 0) else ([], 1)
def rApp (s : List E) (l : List C) : List E × Int := if validB s && changesB l then (match refApp (lt := blt) z32 s l with | none => ([], 9) | some r => if 64 < r.length then ([], 3) else (r, 0)) else ([], 1)
def rComp (a b : List C) : List C × Int := if changesB a && changesB b then (match refComp (lt := blt) a b with | none => ([], 9) | some r => if 128 < r.length then ([], 3) else (r, 0)) else ([], 1)
end Go.Adm
namespace Go.Proofs.YtieobkgdkiahbaaDoor
open Go Go.RowKit Go.Adm

set_option maxHeartbeats 3200000 in
theorem refInvert_any (w : World) (m : Int) (hm : w.cell? ⟨0, 0, none⟩ = some (.int .i64 m)) (B : Nat) (A : Option Addr) (n c : Nat) (l : List C) (hl : Els w B 65 A n (l.map chgC)) (h32 : ∀ e ∈ l, C32 e) (hn : l.length = n) (hn2 : n ≤ 1000000) (hB : B ≤ w.heap.size) :
    Calls Tryd.prog 24 #[.slice A n c] w (ResPost chgC 65 (invS l).1 (invS l).2 70 w) := by
  have hR : All w [.low (.els B 65 A n (l.map chgC)), .kept w w.heap.size] := ⟨⟨hl, hB⟩, ⟨Below.refl _ _, Nat.le_refl _⟩, trivial⟩
  have hcV := refChanges_any w m hm B A n c l hl h32 hn hn2 hB
  have HN := Lib.hid hn
  have H32 := Lib.hid h32
  clear hl h32 hn
  cases hv : changesB l with
  | false =>
    have HF : Hid (invS l = ([], 1)) := Lib.hid (by unfold invS; rw [hv]; rfl)
    rw [hv] at hcV
    clear hv
    go_enter Tryd.func24, Tryd.ntmps24
    go_wp2_with (first | (refine hcV.mono ?_; clear hcV; rintro e w1 ⟨rfl, hb1⟩; have hR1 := hR.call hb1))
    go_ret2
    rw [HF.out]
    exact ResPost.nil rfl (hR1.at_ 1 rfl).1
  | true =>
  have HF : Hid (invS l = (l.map invC, 0)) := Lib.hid (by unfold invS; rw [hv]; rfl)
  rw [hv] at hcV
  clear hv
  go_enter Tryd.func24, Tryd.ntmps24
  go_wp2_with (first | (refine hcV.mono ?_; clear hcV; rintro e w1 ⟨rfl, hb1⟩; have hR1 := hR.call hb1))
  have hI0 : All w1 [.own w.heap.size 70 65 none 0 0 (((l.take 0).map invC).map chgC).flatten, .low (.els B 65 A n (l.map chgC)), .kept w w.heap.size] := ⟨Go.Adm.Own.nil _ _ _ _, hR1⟩
  clear hR hR1 hb1
  go_loopw [4, 5] (fun v i wr => ∃ (k : Nat) (A' : Option Addr) (c' : Nat), k ≤ n ∧ i = .int .i64 k ∧ v = .slice A' k c' ∧ w.heap.size ≤ wr.heap.size ∧ All wr [.own w.heap.size 70 65 A' k c' (((l.take k).map invC).map chgC).flatten, .low (.els B 65 A n (l.map chgC)), .kept w w.heap.size]) (fun _ i _ => n - (intOf i).toNat)
  case atStart => exact ⟨0, none, 0, by omega, rfl, rfl, hI0.size_kept 2 rfl, hI0⟩
  case round =>
    obtain ⟨k, A', c', hk, rfl, rfl, hsr, hI⟩ := hrel
    clear hI0
    by_cases hlt : k < n
    · have hkl : k < l.length := by rw [HN.out]; exact hlt
      obtain ⟨ad, rfl, hadB, -⟩ := Els.elem (hI.at_ 1 rfl : Els wr B 65 A n (l.map chgC) ∧ B ≤ wr.heap.size).1 hkl
      have HX : Hid (∀ W, All W [.own w.heap.size 70 65 A' k c' (((l.take k).map invC).map chgC).flatten, .low (.els B 65 (some ad) n (l.map chgC)), .kept w w.heap.size] → (∀ q s, (chgC l[k])[q]? = some s → W.cell? ((ad.add (k * 65)).add q) = some s) ∧ True) := Lib.hid (fun W hW => by
        obtain ⟨ad', e, _, hc⟩ := Els.elem (hW.at_ 1 rfl : Els W B 65 (some ad) n (l.map chgC) ∧ B ≤ W.heap.size).1 hkl
        obtain rfl := Option.some.inj e
        exact ⟨hc, trivial⟩)
      have hx := Lib.hid (H32.out _ (List.getElem_mem hkl))
      have HT : Hid (l.take (k + 1) = l.take k ++ [l[k]]) := Lib.hid (List.take_succ_eq_append_getElem hkl)
      generalize l[k] = x at *
      have d1 : decide ((k : Int) < (n : Int)) = true := by simp; omega
      have wk0 : (0 : Int) ≤ (k : Int) := by omega
      have wk1 : (k : Int) < (n : Int) := by omega
      have wk2 : ((k : Int)).toNat = k := by omega
      go_upto_region 7 with (fail)
      refine wp_region_hops 18 [15, 16, 17, 18, 19, 20, 21, 22, 23, 24, 25, 26, 27, 28, 29, 30, 31, 32] [.own w.heap.size 70 65 A' k c' (((l.take k).map invC).map chgC).flatten, .low (.els B 65 (some ad) n (l.map chgC)), .kept w w.heap.size]
        [.eq (.slice A' k c'), .eq (.slice (some ad) n c), .eq (.int .i64 k), .eq (.pointer (some (ad.add (k * 65)))), .eq (.pointer (some (ad.add (k * 65)))), .eq (.string x.p), .eq (.slice (some ad) n c), .eq (.int .i64 k), .eq (.pointer (some (ad.add (k * 65)))), .eq (.pointer (some ((ad.add (k * 65)).add 33))), .eq (.agg (x.n.map bv).toArray), .eq (.slice (some ad) n c), .eq (.int .i64 k), .eq (.pointer (some (ad.add (k * 65)))), .eq (.pointer (some ((ad.add (k * 65)).add 1))), .eq (.agg (x.o.map bv).toArray), .eq (.agg (chgC (invC x)).toArray), .rd 65 1 (chgC (invC x))]
        (by kernel_rfl) (by kernel_rfl) hI rfl ?hops ?fin
      case hops =>
        refine ⟨?_, ?_, ?_, ?_, ?_, ?_, ?_, ?_, ?_, ?_, ?_, ?_, ?_, ?_, ?_, ?_, ?_, ?_, trivial⟩
        · intro a W hW hb hd K hK
          have b4 := hb 4 rfl
          go_simp
          exact hK _ _ (World.grownBy.refl _ _) rfl
        · intro a W hW hb hd K hK
          have b0 := hb 0 rfl
          go_simp
          exact hK _ _ (World.grownBy.refl _ _) rfl
        · intro a W hW hb hd K hK
          have b5 := hb 5 rfl
          go_simp
          exact hK _ _ (World.grownBy.refl _ _) rfl
        · intro a W hW hb hd K hK
          have b16 : a.tmps[16]?.getD undef = _ := hd ⟨1, .data⟩ (by simp) rfl
          have b17 : a.tmps[17]?.getD undef = _ := hd ⟨2, .data⟩ (by simp) rfl
          go_simp
          exact hK _ _ (World.grownBy.refl _ _) rfl
        · intro a W hW hb hd K hK
          have b18 : a.tmps[18]?.getD undef = _ := hd ⟨3, .data⟩ (by simp) rfl
          go_simp
          exact hK _ _ (World.grownBy.refl _ _) (by first | rfl | (rw [add_zero]; rfl) | (simp [add_zero]; rfl))
        · intro a W hW hb hd K hK
          have b19 : a.tmps[19]?.getD undef = _ := hd ⟨4, .data⟩ (by simp) rfl
          have q1 : W.cell? (ad.add (k * 65)) = some (.string x.p) := by have := (HX.out W hW).1 0 (sv x.p) rfl; rwa [add_zero] at this
          go_simp
          exact hK _ _ (World.grownBy.refl _ _) rfl
        · intro a W hW hb hd K hK
          have b0 := hb 0 rfl
          go_simp
          exact hK _ _ (World.grownBy.refl _ _) rfl
        · intro a W hW hb hd K hK
          have b5 := hb 5 rfl
          go_simp
          exact hK _ _ (World.grownBy.refl _ _) rfl
        · intro a W hW hb hd K hK
          have b21 : a.tmps[21]?.getD undef = _ := hd ⟨6, .data⟩ (by simp) rfl
          have b22 : a.tmps[22]?.getD undef = _ := hd ⟨7, .data⟩ (by simp) rfl
          go_simp
          exact hK _ _ (World.grownBy.refl _ _) rfl
        · intro a W hW hb hd K hK
          have b23 : a.tmps[23]?.getD undef = _ := hd ⟨8, .data⟩ (by simp) rfl
          go_simp
          exact hK _ _ (World.grownBy.refl _ _) (by first | rfl | (rw [add_zero]; rfl) | (simp [add_zero]; rfl))
        · intro a W hW hb hd K hK
          have b24 : a.tmps[24]?.getD undef = _ := hd ⟨9, .data⟩ (by simp) rfl
          refine wp_load_any 58 (.tmp 24) rfl ((ad.add (k * 65)).add 33) (show a.eval (.tmp 24) = _ from by simp only [Act.eval, Array.getD_eq_getD_getElem?]; exact b24) (x.n.map bv) _ (fun q s hs => by rw [add_add]; exact (HX.out W hW).1 _ s (chg_sub2 hx.out q s hs)) Tryd.underlying58 rfl (by rw [List.length_map, hx.out.2.1]; kernel_rfl) ?_
          exact hK _ _ (World.grownBy.refl _ _) rfl
        · intro a W hW hb hd K hK
          have b0 := hb 0 rfl
          go_simp
          exact hK _ _ (World.grownBy.refl _ _) rfl
        · intro a W hW hb hd K hK
          have b5 := hb 5 rfl
          go_simp
          exact hK _ _ (World.grownBy.refl _ _) rfl
        · intro a W hW hb hd K hK
          have b26 : a.tmps[26]?.getD undef = _ := hd ⟨11, .data⟩ (by simp) rfl
          have b27 : a.tmps[27]?.getD undef = _ := hd ⟨12, .data⟩ (by simp) rfl
          go_simp
          exact hK _ _ (World.grownBy.refl _ _) rfl
        · intro a W hW hb hd K hK
          have b28 : a.tmps[28]?.getD undef = _ := hd ⟨13, .data⟩ (by simp) rfl
          go_simp
          exact hK _ _ (World.grownBy.refl _ _) (by first | rfl | (rw [add_zero]; rfl) | (simp [add_zero]; rfl))
        · intro a W hW hb hd K hK
          have b29 : a.tmps[29]?.getD undef = _ := hd ⟨14, .data⟩ (by simp) rfl
          refine wp_load_any 58 (.tmp 29) rfl ((ad.add (k * 65)).add 1) (show a.eval (.tmp 29) = _ from by simp only [Act.eval, Array.getD_eq_getD_getElem?]; exact b29) (x.o.map bv) _ (fun q s hs => by rw [add_add]; exact (HX.out W hW).1 _ s (chg_sub1 hx.out q s hs)) Tryd.underlying58 rfl (by rw [List.length_map, hx.out.1]; kernel_rfl) ?_
          exact hK _ _ (World.grownBy.refl _ _) rfl
        · intro a W hW hb hd K hK
          have b20 : a.tmps[20]?.getD undef = _ := hd ⟨5, .data⟩ (by simp) rfl
          have b25 : a.tmps[25]?.getD undef = _ := hd ⟨10, .data⟩ (by simp) rfl
          have b30 : a.tmps[30]?.getD undef = _ := hd ⟨15, .data⟩ (by simp) rfl
          refine wp_bld' 70 [(0, .tmp 20), (1, .tmp 25), (2, .tmp 30)] rfl _ _ #[(0, 1), (1, 32), (33, 32)] (chgC (invC x)).toArray zero_chg Tryd.underlying70 (fun w => by kernel_rfl) ?_ ?_
          · simp only [List.map_cons, List.map_nil]
            rw [(show a.eval (.tmp 20) = _ from by simp only [Act.eval, Array.getD_eq_getD_getElem?]; exact b20), (show a.eval (.tmp 25) = _ from by simp only [Act.eval, Array.getD_eq_getD_getElem?]; exact b25), (show a.eval (.tmp 30) = _ from by simp only [Act.eval, Array.getD_eq_getD_getElem?]; exact b30)]
            exact fill_chg012 x.p x.n x.o hx.out.2.1 hx.out.1
          exact hK _ _ (World.grownBy.refl _ _) rfl
        · intro a W hW hb hd K hK
          have b31 : a.tmps[31]?.getD undef = _ := hd ⟨16, .data⟩ (by simp) rfl
          refine wp_lit1 el_chg (.tmp 31) rfl (chgC (invC x)) (show a.eval (.tmp 31) = _ from by simp only [Act.eval, Array.getD_eq_getD_getElem?]; exact b31) (chgC_len (inv_32 hx.out)) (by decide) ?_
          exact hK _ _ (grown_alloc _ _) ⟨_, _, rfl, by have := Rd.lit W (chgC (invC x)).toArray 70 1 (size := 65) (by rw [List.size_toArray]; exact chgC_len (inv_32 hx.out)); simpa using this⟩
      case fin =>
        intro vs V hV hv
        have e0 : vs 0 = _ := hv 0 (by decide)
        obtain ⟨A9, c9, e17, hRd⟩ := (hv 17 (by decide) : VF.ok (.rd 65 1 (chgC (invC x))) (vs 17) V)
        clear hv
        simp only [putAll, List.drop_succ_cons, List.drop_zero, e0, e17, Act.put, List.setIfInBounds_toArray, List.set_cons_succ, List.set_cons_zero]
        clear e0 e17
        have hsV : w.heap.size ≤ V.heap.size := hV.size_kept 2 rfl
        go_wp2_with (at_builtin; refine wl_app_at el_chg hV 0 rfl (.tmp 15) (.tmp 32) rfl w.heap.size _ _ _ _ rfl rfl V.heap.size A9 1 c9 (chgC (invC x)) rfl hRd (chgC_one _) (by omega) hsV (by intro g hg h; simp [Apart, Res.apart, Low.els] <;> omega) ?_; intro A7 c7 w7 hI7 hs7)
        refine ⟨⟨k + 1, A7, c7, by omega, by go_num, rfl, by omega, ?_⟩, by simp [intOf]; omega⟩
        rw [HT.out, List.map_append, List.map_append, List.flatten_append]
        simpa using hI7
    · obtain rfl : k = n := by omega
      have d1 : decide ((k : Int) < (k : Int)) = false := by simp
      rw [List.take_of_length_le (by rw [HN.out]; omega)] at hI
      go_wp2_with fail
      go_ret2
      rw [HF.out]
      have hln : (l.map invC).length = k := by rw [List.length_map]; exact HN.out
      exact ⟨A', c', by rw [hln]; rfl, by rw [hln]; exact hI.at_ 0 rfl, (hI.at_ 2 rfl).1⟩
end Go.Proofs.YtieobkgdkiahbaaDoor

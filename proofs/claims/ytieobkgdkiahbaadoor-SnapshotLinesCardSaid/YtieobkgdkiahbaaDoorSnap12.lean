/- Compose. -/
import Derived.Test.YtieobkgdkiahbaaDoorSnap8
set_option linter.unusedSimpArgs false
set_option linter.unusedVariables false
namespace Go.Adm
open Go Go.RowKit
def compR (a b : List C) : List C × Int := match runS compF (both blt a b) with
  | none => ([], 9)
  | some r => if 128 < r.length then ([], 3) else (r, 0)
end Go.Adm
namespace Go.Proofs.YtieobkgdkiahbaaDoor
open Go Go.RowKit Go.Adm Go.Shelf
attribute [local go_sem] Oper.semAt_some

set_option maxRecDepth 100000 in
set_option maxHeartbeats 6400000 in
theorem Compose_good (w : World) (B : Nat) (A1 A2 : Option Addr) (c1 c2 : Nat) (la lb : List C) (h1 : Els w B 65 A1 la.length (la.map chgC)) (h2 : Els w B 65 A2 lb.length (lb.map chgC)) (ha : ∀ e ∈ la, C32 e) (hb : ∀ e ∈ lb, C32 e) (hn1 : la.length ≤ 1000000) (hn2 : lb.length ≤ 1000000) (hB : B ≤ w.heap.size) (hv : changesB la = true) (hv2 : changesB lb = true) :
    Calls Tryd.prog 21 #[.slice A1 la.length c1, .slice A2 lb.length c2] w (ResPost chgC 65 (compR la lb).1 (compR la lb).2 70 w) := by
  have hR : All w [.low (.els B 65 A1 la.length (la.map chgC)), .low (.els B 65 A2 lb.length (lb.map chgC)), .kept w w.heap.size] := ⟨⟨h1, hB⟩, ⟨h2, hB⟩, ⟨Below.refl _ _, Nat.le_refl _⟩, trivial⟩
  have HLA := Lib.hid ha
  have HLB := Lib.hid hb
  have HV := Lib.hid hv
  have HV2 := Lib.hid hv2
  clear h1 h2 ha hb hv hv2
  refine (callsIn_wide (n := 3)).1 ?_
  refine callsIn_of_wp_marks Tryd.func21 rfl trivial ?_
  refine wpIn_wide.2 ?_
  simp only [Tryd.ntmps21, List.size_toArray, List.length_cons, List.length_nil, Nat.reduceAdd, Nat.reduceSub, Array.replicate_succ, Array.replicate_zero, List.push_toArray, List.append_toArray, List.nil_append, List.cons_append]
  go_upto_region 1 with (fail)
  have hR0 := (hR.new #[.slice none 0 0] 23 rfl rfl).new #[.int .i64 0] 26 (g := w.heap.size + 1) (by simp) rfl
  refine wp_gen hR0 ?_
  intro w0 hR0
  clear hR
  have hVa := changes_any w0 B A1 la.length c1 la (hR0.at_ 2 rfl : Els w0 B 65 A1 la.length (la.map chgC) ∧ B ≤ w0.heap.size).1 HLA.out rfl hn1 (hR0.at_ 2 rfl : Els w0 B 65 A1 la.length (la.map chgC) ∧ B ≤ w0.heap.size).2
  rw [HV.out] at hVa
  go_wp2_with (first
    | (refine hVa.mono ?_; clear hVa; rintro e w1 ⟨rfl, hb1⟩; have hR1 := hR0.call hb1; have hVb := changes_any w1 B A2 lb.length c2 lb (hR1.at_ 3 rfl : Els w1 B 65 A2 lb.length (lb.map chgC) ∧ B ≤ w1.heap.size).1 HLB.out rfl hn2 (hR1.at_ 3 rfl : Els w1 B 65 A2 lb.length (lb.map chgC) ∧ B ≤ w1.heap.size).2; rw [HV2.out] at hVb)
    | (refine hVb.mono ?_; clear hVb; rintro e w2 ⟨rfl, hb2⟩; have hR2 := hR1.call hb2))
  have hs2 : w.heap.size ≤ w2.heap.size := hR2.size_kept 4 rfl
  have hs21 : w.heap.size + 1 < w2.heap.size := Cells.lt (hR2.at_ 0 rfl)
  have hR4 := hR2.new #[.slice none 0 0] 23 rfl rfl
  have hs43 : w2.heap.size + 1 ≤ (w2.alloc (.cells #[.slice none 0 0] 23)).heap.size := by simp
  clear hR0 hR1 hR2 hb1 hb2
  generalize w2.alloc (.cells #[.slice none 0 0] 23) = w4 at *
  replace hR4 : All w4 [.cells w2.heap.size 23 [.slice none 0 0], .cells w.heap.size 23 [.slice none 0 0], .cells (w.heap.size + 1) 26 [.int .i64 0], .low (.els B 65 A1 la.length (la.map chgC)), .low (.els B 65 A2 lb.length (lb.map chgC)), .kept w w.heap.size] := ⟨hR4.at_ 0 rfl, hR4.at_ 2 rfl, hR4.at_ 1 rfl, hR4.at_ 3 rfl, hR4.at_ 4 rfl, hR4.at_ 5 rfl, trivial⟩
  have HDR : Hid (∀ pre, (∃ t, pre ++ t = bothF la lb 0 0) → runS compF (pre.map (lookF _ _)) = none → compR la lb = ([], 9)) := Lib.hid (fun pre ⟨t, ht⟩ hn => by
    have h1 := bothF_map la lb _ 0 0 (Nat.le_refl _)
    rw [List.drop_zero, List.drop_zero, ← ht, List.map_append] at h1
    unfold compR
    rw [← h1, runS_prefix _ _ _ hn])
  have HDS : Hid (∀ r, runS compF ((bothF la lb 0 0).map (lookF _ _)) = some r → compR la lb = if 128 < r.length then ([], 3) else (r, 0)) := Lib.hid (fun r hr => by
    have h1 := bothF_map la lb _ 0 0 (Nat.le_refl _)
    rw [List.drop_zero, List.drop_zero] at h1
    unfold compR
    rw [← h1, hr])
  refine (both_any w4 (.slice A1 la.length c1) (.slice A2 lb.length c2) rfl rfl A1 A2 la.length lb.length c1 c2 rfl rfl).mono ?_
  rintro e w5 ⟨rfl, rfl⟩
  go_wp2_with fail
  have hAll0 : All ((w4.alloc (.cells #[.slice A1 la.length c1] 23)).alloc (.cells #[.slice A2 lb.length c2] 23)) [.own (w4.heap.size + 1 + 1) 70 65 none ([] : List C).length 0 (([] : List C).map chgC).flatten, .cells w2.heap.size 23 [.slice none ([] : List C).length 0], .low (.els B 65 A1 la.length (la.map chgC)), .low (.els B 65 A2 lb.length (lb.map chgC)), .cells w4.heap.size 23 [.slice A1 la.length c1], .cells (w4.heap.size + 1) 23 [.slice A2 lb.length c2], .cells w.heap.size 23 [.slice none 0 0], .cells (w.heap.size + 1) 26 [.int .i64 0], .kept w w.heap.size] := by
    have h2 := (hR4.new #[.slice A1 la.length c1] 23 rfl rfl).new #[.slice A2 lb.length c2] 23 (g := w4.heap.size + 1) (by simp) rfl
    exact ⟨Go.Adm.Own.nil _ _ _ _, h2.at_ 2 rfl, h2.at_ 5 rfl, h2.at_ 6 rfl, h2.at_ 1 rfl, h2.at_ 0 rfl, h2.at_ 3 rfl, h2.at_ 4 rfl, h2.at_ 7 rfl, trivial⟩
  have hsz0 : ((w4.alloc (.cells #[.slice A1 la.length c1] 23)).alloc (.cells #[.slice A2 lb.length c2] 23)).heap.size = w4.heap.size + 1 + 1 := by simp
  have hBw : B ≤ w.heap.size := hB
  have hLOW : ∀ (V : World) (A : Option Addr) (c : Nat) (r : List C), All V [.own (w4.heap.size + 1 + 1) 70 65 A r.length c (r.map chgC).flatten, .cells w2.heap.size 23 [.slice A r.length c], .low (.els B 65 A1 la.length (la.map chgC)), .low (.els B 65 A2 lb.length (lb.map chgC)), .cells w4.heap.size 23 [.slice A1 la.length c1], .cells (w4.heap.size + 1) 23 [.slice A2 lb.length c2], .cells w.heap.size 23 [.slice none 0 0], .cells (w.heap.size + 1) 26 [.int .i64 0], .kept w w.heap.size] → w4.heap.size + 1 + 1 ≤ V.heap.size → All V [.cells w4.heap.size 23 [.slice A1 la.length c1], .cells (w4.heap.size + 1) 23 [.slice A2 lb.length c2], .low (.els (w4.heap.size + 1 + 1) 65 A1 la.length (la.map chgC)), .low (.els (w4.heap.size + 1 + 1) 65 A2 lb.length (lb.map chgC))] := fun V A c r h hs => ⟨h.at_ 4 rfl, h.at_ 5 rfl, ⟨Els.mono (h.at_ 2 rfl : Els V B 65 A1 la.length (la.map chgC) ∧ B ≤ V.heap.size).1 (by omega), hs⟩, ⟨Els.mono (h.at_ 3 rfl : Els V B 65 A2 lb.length (lb.map chgC) ∧ B ≤ V.heap.size).1 (by omega), hs⟩, trivial⟩
  clear hR4
  refine (wpIn_wide (n := 3)).1 ?_
  refine wpIn_rangeFunc_ownF rfl (by decide) (gf := 80) (lb := #[.pointer (some ⟨w4.heap.size, 0, none⟩), .pointer (some ⟨w4.heap.size + 1, 0, none⟩)]) rfl trivial (enters_of Tryd.func80 (by kernel_rfl) rfl)
    (both_stops 2 (by decide) w4.heap.size (w4.heap.size + 1) (w4.heap.size + 1 + 1) A1 A2 c1 c2 la lb _ (by omega) (by simp; omega) (by simp) hn1 hn2 (hLOW _ _ _ _ hAll0 (by rw [hsz0]; exact Nat.le_refl _))) (fun h k hh => k (h hh))
    (fun W' D o o' hB hD ho _ hA => All.dead (grownBy_putObj' W' D o') hB hD ho hA ⟨trivial, trivial, by rw [hsz0]; exact Nat.le_refl _, by rw [hsz0]; exact Nat.le_refl _, trivial⟩) (Below.refl _ _) (fun x => by cases x <;> rfl)
    (fun pre W' => ∃ (A : Option Addr) (c : Nat) (r : List C), runS compF (pre.map (lookF la lb)) = some r ∧ All W' [.own (w4.heap.size + 1 + 1) 70 65 A r.length c (r.map chgC).flatten, .cells w2.heap.size 23 [.slice A r.length c], .low (.els B 65 A1 la.length (la.map chgC)), .low (.els B 65 A2 lb.length (lb.map chgC)), .cells w4.heap.size 23 [.slice A1 la.length c1], .cells (w4.heap.size + 1) 23 [.slice A2 lb.length c2], .cells w.heap.size 23 [.slice none 0 0], .cells (w.heap.size + 1) 26 [.int .i64 0], .kept w w.heap.size] ∧ (w4.heap.size + 1 + 1) ≤ W'.heap.size)
    (fun cj pre W' => cj = .ret ∧ runS compF (pre.map (lookF la lb)) = none ∧ All W' [.cells w.heap.size 23 [.slice none 0 0], .cells (w.heap.size + 1) 26 [.int .i64 9], .kept w w.heap.size]) ?own ?own2 ⟨none, 0, [], rfl, hAll0, by rw [hsz0]; exact Nat.le_refl _⟩
    (fun x => { tmps := #[(.slice A1 la.length c1), (.slice A2 lb.length c2), undef, undef, (.pointer (some ⟨w.heap.size, 0, none⟩)), (.pointer (some ⟨w.heap.size + 1, 0, none⟩)), (.pointer (some ⟨w2.heap.size, 0, none⟩)), (itX A1 x), (itY A2 x), (.slice A1 la.length c1), (.bool true), (.bool false), (.bool false), (.slice A2 lb.length c2), (.bool true), (.bool false), (.bool false), (.slice A1 la.length c1), (.slice A2 lb.length c2), (.func (.func 80) #[] #[.pointer (some ⟨w4.heap.size, 0, none⟩), .pointer (some ⟨w4.heap.size + 1, 0, none⟩)]), (itX A1 x), (itY A2 x), undef, undef, undef, undef, undef, undef, undef, undef, undef, undef, undef, undef, undef, undef, undef, undef, undef, undef, undef, undef, undef, undef, undef, undef, undef, undef, undef, undef, undef, undef, undef, undef, undef, undef, undef, undef, undef, undef, undef, undef, undef, undef, undef, undef, undef, undef, undef, undef, undef, undef, undef, undef, undef, undef, undef, undef, undef, undef], defers := [] }) ?assign ?body ?done ?stop
  case own =>
    rintro s W W' row ⟨A, c, r, h1, h2, h3⟩ hg hr
    exact ⟨A, c, r, h1, (all_from (B := ((w4.alloc (.cells #[.slice A1 la.length c1] 23)).alloc (.cells #[.slice A2 lb.length c2] 23)).heap.size) (f := fun _ : Unit => [.own (w4.heap.size + 1 + 1) 70 65 A r.length c (r.map chgC).flatten, .cells w2.heap.size 23 [.slice A r.length c], .low (.els B 65 A1 la.length (la.map chgC)), .low (.els B 65 A2 lb.length (lb.map chgC)), .cells w4.heap.size 23 [.slice A1 la.length c1], .cells (w4.heap.size + 1) 23 [.slice A2 lb.length c2], .cells w.heap.size 23 [.slice none 0 0], .cells (w.heap.size + 1) 26 [.int .i64 0], .kept w w.heap.size]) (fun _ => ⟨trivial, trivial, (show B ≤ _ from by rw [hsz0]; omega), (show B ≤ _ from by rw [hsz0]; omega), trivial, trivial, trivial, trivial, (show w.heap.size ≤ _ from by rw [hsz0]; omega), trivial⟩)) () W W' row h2 hg hr, Nat.le_trans h3 hg.size⟩
  case own2 =>
    rintro cj s W W' row ⟨h0, h1, h2⟩ hg hr
    exact ⟨h0, h1, (all_from (B := ((w4.alloc (.cells #[.slice A1 la.length c1] 23)).alloc (.cells #[.slice A2 lb.length c2] 23)).heap.size) (f := fun _ : Unit => [.cells w.heap.size 23 [.slice none 0 0], .cells (w.heap.size + 1) 26 [.int .i64 9], .kept w w.heap.size]) (fun _ => ⟨trivial, trivial, (show w.heap.size ≤ _ from by rw [hsz0]; omega), trivial⟩)) () W W' row h2 hg hr⟩
  case assign =>
    intro l x W K hK
    cases x <;> (simp only [encI]; gi_wp2; exact hK)
  case stop =>
    rintro D cj pre W hDl hSp ⟨rfl, hr, hI⟩ hK
    have hfin : compR la lb = ([], 9) := HDR.out pre hSp hr
    refine wpIn_wide.2 ?_
    go_wp2
    refine leaves_all (B := w.heap.size) [D] W ?_ (by simp) ?_
    · intro D' hD'
      obtain rfl : D' = D := by simpa using hD'
      exact ⟨by rw [hsz0] at hDl; omega, hK⟩
    · intro W'' hW'' _
      have h1 := hW'' [.cells w.heap.size 23 [.slice none 0 0], .cells (w.heap.size + 1) 26 [.int .i64 9], .kept w w.heap.size] ⟨trivial, trivial, Nat.le_refl _, trivial⟩ hI
      rw [hfin]
      refine ⟨_, results_cell2 rfl _ _ w.heap.size (w.heap.size + 1) (.slice none 0 0) (.int .i64 9) rfl rfl ?_ ?_, ResPost.nil rfl (h1.at_ 2 rfl).1⟩
      · have := Cells.cell (h1.at_ 0 rfl : Cells W'' _ _ _) (i := 0) (by simp)
        go_simp
      · have := Cells.cell (h1.at_ 1 rfl : Cells W'' _ _ _) (i := 0) (by simp)
        go_simp
  case body =>
    rintro l pre x W0 ⟨A, c, r, hr, hI, hsz⟩ hpl
    have HRUN : Hid (∀ v, compF (lookF la lb x) = some v → runS compF ((pre ++ [x]).map (lookF la lb)) = some (r ++ v.toList)) := Lib.hid (fun v hv => by rw [List.map_append, List.map_cons, List.map_nil, runS_snoc _ _ _ hr, hv]; rfl)
    have HRUN0 : Hid (compF (lookF la lb x) = none → runS compF ((pre ++ [x]).map (lookF la lb)) = none) := Lib.hid (fun hv => by rw [List.map_append, List.map_cons, List.map_nil, runS_snoc _ _ _ hr, hv]; rfl)
    have hrl : r.length ≤ 2000000 := by have := runS_len _ _ hr; rw [List.length_map] at this; omega
    have LOWS := Lib.hid hLOW
    clear hr hLOW hAll0 hsz0
    cases x with
    | l i =>
      obtain ⟨ad1, rfl, -, -⟩ := Els.elem (hI.at_ 2 rfl : Els W0 B 65 A1 la.length (la.map chgC) ∧ B ≤ W0.heap.size).1 i.isLt
      have HF : Hid (compF (lookF la lb (It.l i)) = some (some la[i.val])) := Lib.hid rfl
      have HX : Hid (∀ W, All W [.own (w4.heap.size + 1 + 1) 70 65 A r.length c (r.map chgC).flatten, .cells w2.heap.size 23 [.slice A r.length c], .low (.els B 65 (some ad1) la.length (la.map chgC)), .low (.els B 65 A2 lb.length (lb.map chgC)), .cells w4.heap.size 23 [.slice (some ad1) la.length c1], .cells (w4.heap.size + 1) 23 [.slice A2 lb.length c2], .cells w.heap.size 23 [.slice none 0 0], .cells (w.heap.size + 1) 26 [.int .i64 0], .kept w w.heap.size] → (∀ q s, (chgC la[i.val])[q]? = some s → W.cell? ((ad1.add (i.val * 65)).add q) = some s) ∧ True) := Lib.hid (fun W hW => by
        obtain ⟨ad', e, -, hc⟩ := Els.elem (hW.at_ 2 rfl : Els W B 65 (some ad1) la.length (la.map chgC) ∧ B ≤ W.heap.size).1 i.isLt
        obtain rfl := Option.some.inj e
        exact ⟨hc, trivial⟩)
      have hxv := Lib.hid (HLA.out _ (List.getElem_mem i.isLt))
      generalize la[i.val] = v at *
      simp only [itX, itY, ptrA, Option.map_some]
      gi_wp2
      refine wpIn_region_hopsJ 5 [25, 26, 27, 28, 29] [.own (w4.heap.size + 1 + 1) 70 65 A r.length c (r.map chgC).flatten, .cells w2.heap.size 23 [.slice A r.length c], .low (.els B 65 (some ad1) la.length (la.map chgC)), .low (.els B 65 A2 lb.length (lb.map chgC)), .cells w4.heap.size 23 [.slice (some ad1) la.length c1], .cells (w4.heap.size + 1) 23 [.slice A2 lb.length c2], .cells w.heap.size 23 [.slice none 0 0], .cells (w.heap.size + 1) 26 [.int .i64 0], .kept w w.heap.size] (fun V => KeepsOthers W0 V ∧ (w4.heap.size + 1 + 1) ≤ V.heap.size)
        [.eq (.slice A r.length c), .eq (.pointer (some (ad1.add (i.val * 65)))), .eq (.pointer (some (ad1.add (i.val * 65)))), .eq (.agg (chgC v).toArray), .rd 65 1 (chgC v)]
        (fun _ => trivial) (by kernel_rfl) (by kernel_rfl) (fun w1 w2 hg hj => ⟨hj.1.trans (.of_grownBy hg (fun j o e => by cases e)), Nat.le_trans hj.2 hg.size⟩) ⟨hI, .refl W0, hsz⟩ rfl ?hops ?fin
      case hops =>
        refine ⟨?_, ?_, ?_, ?_, ?_, trivial⟩
        · intro a' W hW hb hd K hK
          have b6 := hb 6 rfl
          have q1 : W.cell? ⟨w2.heap.size, 0, none⟩ = some (.slice A r.length c) := Cells.cell (hW.1.at_ 1 rfl) (i := 0) (by simp)
          refine ⟨fun _ _ => trivial, ?_⟩
          go_simp
          exact hK _ _ (World.grownBy.refl _ _) rfl
        · intro a' W hW hb hd K hK
          have b7 := hb 7 rfl
          refine ⟨fun _ _ => trivial, ?_⟩
          go_simp
          exact hK _ _ (World.grownBy.refl _ _) rfl
        · intro a' W hW hb hd K hK
          have b26 : a'.tmps[26]?.getD undef = _ := hd ⟨1, .data⟩ (by simp) rfl
          refine ⟨fun _ _ => trivial, ?_⟩
          go_simp
          exact hK _ _ (World.grownBy.refl _ _) rfl
        · intro a' W hW hb hd K hK
          have b27 : a'.tmps[27]?.getD undef = _ := hd ⟨2, .data⟩ (by simp) rfl
          refine wpIn_load_any (fun _ => trivial) 70 (.tmp 27) rfl (ad1.add (i.val * 65)) (show a'.eval (.tmp 27) = _ from by simp only [Act.eval, Array.getD_eq_getD_getElem?]; exact b27) (chgC v) _ ((HX.out W hW.1).1) Tryd.underlying70 rfl (by rw [chgC_len hxv.out]; kernel_rfl) ?_
          exact hK _ _ (World.grownBy.refl _ _) rfl
        · intro a' W hW hb hd K hK
          have b28 : a'.tmps[28]?.getD undef = _ := hd ⟨3, .data⟩ (by simp) rfl
          refine wpIn_lit1 (fun _ => trivial) el_chg (.tmp 28) rfl (chgC v) (show a'.eval (.tmp 28) = _ from by simp only [Act.eval, Array.getD_eq_getD_getElem?]; exact b28) (chgC_len hxv.out) (by decide) ?_
          exact hK _ _ (grown_alloc _ _) ⟨_, _, rfl, by have := Rd.lit W (chgC v).toArray 70 1 (size := 65) (by rw [List.size_toArray]; exact chgC_len hxv.out); simpa using this⟩
      case fin =>
        intro vs V ⟨hV, hKO, hVs⟩ hv
        have e0 : vs 0 = _ := hv 0 (by decide)
        obtain ⟨A9, c9, e9, hRd⟩ := (hv 4 (by decide) : VF.ok (.rd 65 1 (chgC v)) (vs 4) V)
        clear hv
        simp only [putAll, List.drop_succ_cons, List.drop_zero, e0, e9, Act.put, List.setIfInBounds_toArray, List.set_cons_succ, List.set_cons_zero]
        clear e0 e9
        refine wlIn_app el_chg rfl (.tmp 25) (.tmp 29) rfl (w4.heap.size + 1 + 1) A r.length c ((r.map chgC).flatten) rfl (hV.at_ 0 rfl) V.heap.size A9 1 c9 (chgC v) rfl hRd (chgC_one _) (by omega) hVs ?_
        intro A3 c3 w9 hown3 hg3 hob3
        have hap1 : ∀ g, (w4.heap.size + 1 + 1) ≤ g → (Value.slice A r.length c).ownBlock = some g → Apart (some g) [.low (.els B 65 (some ad1) la.length (la.map chgC)), .low (.els B 65 A2 lb.length (lb.map chgC)), .cells w4.heap.size 23 [.slice (some ad1) la.length c1], .cells (w4.heap.size + 1) 23 [.slice A2 lb.length c2], .cells w.heap.size 23 [.slice none 0 0], .cells (w.heap.size + 1) 26 [.int .i64 0], .kept w w.heap.size] := fun g hg hg2 => ⟨fun g' e => by injection e with e; have := hBw; simp only [Low.els]; omega, fun g' e => by injection e with e; have := hBw; simp only [Low.els]; omega, fun e => by injection e with e; omega, fun e => by injection e with e; omega, fun e => by injection e with e; omega, fun e => by injection e with e; omega, fun g' e => by injection e with e; omega, trivial⟩
        have hap2 : Apart (some w2.heap.size) [.low (.els B 65 (some ad1) la.length (la.map chgC)), .low (.els B 65 A2 lb.length (lb.map chgC)), .cells w4.heap.size 23 [.slice (some ad1) la.length c1], .cells (w4.heap.size + 1) 23 [.slice A2 lb.length c2], .cells w.heap.size 23 [.slice none 0 0], .cells (w.heap.size + 1) 26 [.int .i64 0], .kept w w.heap.size] := ⟨fun g' e => by injection e with e; have := hBw; simp only [Low.els]; omega, fun g' e => by injection e with e; have := hBw; simp only [Low.els]; omega, fun e => by injection e with e; omega, fun e => by injection e with e; omega, fun e => by injection e with e; omega, fun e => by injection e with e; omega, fun g' e => by injection e with e; omega, trivial⟩
        obtain ⟨hM1, hM2, hM3⟩ := out_more hV hap1 (by omega) hown3 hg3 hap2
        have c2 : w9.cell? ⟨w2.heap.size, 0, none⟩ = some (.slice A r.length c) := Cells.cell (hM1.at_ 1 rfl) (i := 0) (by simp)
        have f2 : w9.frozen? ⟨w2.heap.size, 0, none⟩ = false := Cells.frozen (hM1.at_ 1 rfl) 0
        gi_wp2
        clear c2 f2
        have hM4 : All (w9.setCell ⟨w2.heap.size, 0, none⟩ (.slice A3 (r.length + 1) c3)) [.own (w4.heap.size + 1 + 1) 70 65 A3 (r ++ [v]).length c3 ((r ++ [v]).map chgC).flatten, .cells w2.heap.size 23 [.slice A3 (r ++ [v]).length c3], .low (.els B 65 (some ad1) la.length (la.map chgC)), .low (.els B 65 A2 lb.length (lb.map chgC)), .cells w4.heap.size 23 [.slice (some ad1) la.length c1], .cells (w4.heap.size + 1) 23 [.slice A2 lb.length c2], .cells w.heap.size 23 [.slice none 0 0], .cells (w.heap.size + 1) 26 [.int .i64 0], .kept w w.heap.size] := by
          rw [List.length_append, List.map_append, List.flatten_append]
          simpa using hM2
        have hM5 : (w4.heap.size + 1 + 1) ≤ (w9.setCell ⟨w2.heap.size, 0, none⟩ (.slice A3 (r.length + 1) c3)).heap.size := by
          have := hg3.size
          rw [size_setCell]
          omega
        exact ⟨hKO.trans hM3, fun _ => LOWS.out _ _ _ _ hM4 hM5, A3, c3, r ++ [v], HRUN.out _ HF.out, hM4, hM5⟩
    | r j =>
      obtain ⟨ad2, rfl, -, -⟩ := Els.elem (hI.at_ 3 rfl : Els W0 B 65 A2 lb.length (lb.map chgC) ∧ B ≤ W0.heap.size).1 j.isLt
      have HF : Hid (compF (lookF la lb (It.r j)) = some (some lb[j.val])) := Lib.hid rfl
      have HY : Hid (∀ W, All W [.own (w4.heap.size + 1 + 1) 70 65 A r.length c (r.map chgC).flatten, .cells w2.heap.size 23 [.slice A r.length c], .low (.els B 65 A1 la.length (la.map chgC)), .low (.els B 65 (some ad2) lb.length (lb.map chgC)), .cells w4.heap.size 23 [.slice A1 la.length c1], .cells (w4.heap.size + 1) 23 [.slice (some ad2) lb.length c2], .cells w.heap.size 23 [.slice none 0 0], .cells (w.heap.size + 1) 26 [.int .i64 0], .kept w w.heap.size] → (∀ q s, (chgC lb[j.val])[q]? = some s → W.cell? ((ad2.add (j.val * 65)).add q) = some s) ∧ True) := Lib.hid (fun W hW => by
        obtain ⟨ad', e, -, hc⟩ := Els.elem (hW.at_ 3 rfl : Els W B 65 (some ad2) lb.length (lb.map chgC) ∧ B ≤ W.heap.size).1 j.isLt
        obtain rfl := Option.some.inj e
        exact ⟨hc, trivial⟩)
      have hxu := Lib.hid (HLB.out _ (List.getElem_mem j.isLt))
      generalize lb[j.val] = u at *
      simp only [itX, itY, ptrA, Option.map_some]
      gi_wp2
      refine wpIn_region_hopsJ 5 [34, 35, 36, 37, 38] [.own (w4.heap.size + 1 + 1) 70 65 A r.length c (r.map chgC).flatten, .cells w2.heap.size 23 [.slice A r.length c], .low (.els B 65 A1 la.length (la.map chgC)), .low (.els B 65 (some ad2) lb.length (lb.map chgC)), .cells w4.heap.size 23 [.slice A1 la.length c1], .cells (w4.heap.size + 1) 23 [.slice (some ad2) lb.length c2], .cells w.heap.size 23 [.slice none 0 0], .cells (w.heap.size + 1) 26 [.int .i64 0], .kept w w.heap.size] (fun V => KeepsOthers W0 V ∧ (w4.heap.size + 1 + 1) ≤ V.heap.size)
        [.eq (.slice A r.length c), .eq (.pointer (some (ad2.add (j.val * 65)))), .eq (.pointer (some (ad2.add (j.val * 65)))), .eq (.agg (chgC u).toArray), .rd 65 1 (chgC u)]
        (fun _ => trivial) (by kernel_rfl) (by kernel_rfl) (fun w1 w2 hg hj => ⟨hj.1.trans (.of_grownBy hg (fun j o e => by cases e)), Nat.le_trans hj.2 hg.size⟩) ⟨hI, .refl W0, hsz⟩ rfl ?hops ?fin
      case hops =>
        refine ⟨?_, ?_, ?_, ?_, ?_, trivial⟩
        · intro a' W hW hb hd K hK
          have b6 := hb 6 rfl
          have q1 : W.cell? ⟨w2.heap.size, 0, none⟩ = some (.slice A r.length c) := Cells.cell (hW.1.at_ 1 rfl) (i := 0) (by simp)
          refine ⟨fun _ _ => trivial, ?_⟩
          go_simp
          exact hK _ _ (World.grownBy.refl _ _) rfl
        · intro a' W hW hb hd K hK
          have b8 := hb 8 rfl
          refine ⟨fun _ _ => trivial, ?_⟩
          go_simp
          exact hK _ _ (World.grownBy.refl _ _) rfl
        · intro a' W hW hb hd K hK
          have b35 : a'.tmps[35]?.getD undef = _ := hd ⟨1, .data⟩ (by simp) rfl
          refine ⟨fun _ _ => trivial, ?_⟩
          go_simp
          exact hK _ _ (World.grownBy.refl _ _) rfl
        · intro a' W hW hb hd K hK
          have b36 : a'.tmps[36]?.getD undef = _ := hd ⟨2, .data⟩ (by simp) rfl
          refine wpIn_load_any (fun _ => trivial) 70 (.tmp 36) rfl (ad2.add (j.val * 65)) (show a'.eval (.tmp 36) = _ from by simp only [Act.eval, Array.getD_eq_getD_getElem?]; exact b36) (chgC u) _ ((HY.out W hW.1).1) Tryd.underlying70 rfl (by rw [chgC_len hxu.out]; kernel_rfl) ?_
          exact hK _ _ (World.grownBy.refl _ _) rfl
        · intro a' W hW hb hd K hK
          have b37 : a'.tmps[37]?.getD undef = _ := hd ⟨3, .data⟩ (by simp) rfl
          refine wpIn_lit1 (fun _ => trivial) el_chg (.tmp 37) rfl (chgC u) (show a'.eval (.tmp 37) = _ from by simp only [Act.eval, Array.getD_eq_getD_getElem?]; exact b37) (chgC_len hxu.out) (by decide) ?_
          exact hK _ _ (grown_alloc _ _) ⟨_, _, rfl, by have := Rd.lit W (chgC u).toArray 70 1 (size := 65) (by rw [List.size_toArray]; exact chgC_len hxu.out); simpa using this⟩
      case fin =>
        intro vs V ⟨hV, hKO, hVs⟩ hv
        have e0 : vs 0 = _ := hv 0 (by decide)
        obtain ⟨A9, c9, e9, hRd⟩ := (hv 4 (by decide) : VF.ok (.rd 65 1 (chgC u)) (vs 4) V)
        clear hv
        simp only [putAll, List.drop_succ_cons, List.drop_zero, e0, e9, Act.put, List.setIfInBounds_toArray, List.set_cons_succ, List.set_cons_zero]
        clear e0 e9
        refine wlIn_app el_chg rfl (.tmp 34) (.tmp 38) rfl (w4.heap.size + 1 + 1) A r.length c ((r.map chgC).flatten) rfl (hV.at_ 0 rfl) V.heap.size A9 1 c9 (chgC u) rfl hRd (chgC_one _) (by omega) hVs ?_
        intro A3 c3 w9 hown3 hg3 hob3
        have hap1 : ∀ g, (w4.heap.size + 1 + 1) ≤ g → (Value.slice A r.length c).ownBlock = some g → Apart (some g) [.low (.els B 65 A1 la.length (la.map chgC)), .low (.els B 65 (some ad2) lb.length (lb.map chgC)), .cells w4.heap.size 23 [.slice A1 la.length c1], .cells (w4.heap.size + 1) 23 [.slice (some ad2) lb.length c2], .cells w.heap.size 23 [.slice none 0 0], .cells (w.heap.size + 1) 26 [.int .i64 0], .kept w w.heap.size] := fun g hg hg2 => ⟨fun g' e => by injection e with e; have := hBw; simp only [Low.els]; omega, fun g' e => by injection e with e; have := hBw; simp only [Low.els]; omega, fun e => by injection e with e; omega, fun e => by injection e with e; omega, fun e => by injection e with e; omega, fun e => by injection e with e; omega, fun g' e => by injection e with e; omega, trivial⟩
        have hap2 : Apart (some w2.heap.size) [.low (.els B 65 A1 la.length (la.map chgC)), .low (.els B 65 (some ad2) lb.length (lb.map chgC)), .cells w4.heap.size 23 [.slice A1 la.length c1], .cells (w4.heap.size + 1) 23 [.slice (some ad2) lb.length c2], .cells w.heap.size 23 [.slice none 0 0], .cells (w.heap.size + 1) 26 [.int .i64 0], .kept w w.heap.size] := ⟨fun g' e => by injection e with e; have := hBw; simp only [Low.els]; omega, fun g' e => by injection e with e; have := hBw; simp only [Low.els]; omega, fun e => by injection e with e; omega, fun e => by injection e with e; omega, fun e => by injection e with e; omega, fun e => by injection e with e; omega, fun g' e => by injection e with e; omega, trivial⟩
        obtain ⟨hM1, hM2, hM3⟩ := out_more hV hap1 (by omega) hown3 hg3 hap2
        have c2 : w9.cell? ⟨w2.heap.size, 0, none⟩ = some (.slice A r.length c) := Cells.cell (hM1.at_ 1 rfl) (i := 0) (by simp)
        have f2 : w9.frozen? ⟨w2.heap.size, 0, none⟩ = false := Cells.frozen (hM1.at_ 1 rfl) 0
        gi_wp2
        clear c2 f2
        have hM4 : All (w9.setCell ⟨w2.heap.size, 0, none⟩ (.slice A3 (r.length + 1) c3)) [.own (w4.heap.size + 1 + 1) 70 65 A3 (r ++ [u]).length c3 ((r ++ [u]).map chgC).flatten, .cells w2.heap.size 23 [.slice A3 (r ++ [u]).length c3], .low (.els B 65 A1 la.length (la.map chgC)), .low (.els B 65 (some ad2) lb.length (lb.map chgC)), .cells w4.heap.size 23 [.slice A1 la.length c1], .cells (w4.heap.size + 1) 23 [.slice (some ad2) lb.length c2], .cells w.heap.size 23 [.slice none 0 0], .cells (w.heap.size + 1) 26 [.int .i64 0], .kept w w.heap.size] := by
          rw [List.length_append, List.map_append, List.flatten_append]
          simpa using hM2
        have hM5 : (w4.heap.size + 1 + 1) ≤ (w9.setCell ⟨w2.heap.size, 0, none⟩ (.slice A3 (r.length + 1) c3)).heap.size := by
          have := hg3.size
          rw [size_setCell]
          omega
        exact ⟨hKO.trans hM3, fun _ => LOWS.out _ _ _ _ hM4 hM5, A3, c3, r ++ [u], HRUN.out _ HF.out, hM4, hM5⟩
    | e i j =>
      obtain ⟨ad1, rfl, -, -⟩ := Els.elem (hI.at_ 2 rfl : Els W0 B 65 A1 la.length (la.map chgC) ∧ B ≤ W0.heap.size).1 i.isLt
      obtain ⟨ad2, rfl, -, -⟩ := Els.elem (hI.at_ 3 rfl : Els W0 B 65 A2 lb.length (lb.map chgC) ∧ B ≤ W0.heap.size).1 j.isLt
      have HF0 : Hid (∀ v u, la[i.val] = v → lb[j.val] = u → compF (lookF la lb (It.e i j)) = if v.n = u.o then (if v.o = u.n then some none else some (some ⟨v.p, v.o, u.n⟩)) else none) := Lib.hid (fun v u hv hu => by subst hv; subst hu; rfl)
      have HX : Hid (∀ W, All W [.own (w4.heap.size + 1 + 1) 70 65 A r.length c (r.map chgC).flatten, .cells w2.heap.size 23 [.slice A r.length c], .low (.els B 65 (some ad1) la.length (la.map chgC)), .low (.els B 65 (some ad2) lb.length (lb.map chgC)), .cells w4.heap.size 23 [.slice (some ad1) la.length c1], .cells (w4.heap.size + 1) 23 [.slice (some ad2) lb.length c2], .cells w.heap.size 23 [.slice none 0 0], .cells (w.heap.size + 1) 26 [.int .i64 0], .kept w w.heap.size] → (∀ q s, (chgC la[i.val])[q]? = some s → W.cell? ((ad1.add (i.val * 65)).add q) = some s) ∧ True) := Lib.hid (fun W hW => by
        obtain ⟨ad', e, -, hc⟩ := Els.elem (hW.at_ 2 rfl : Els W B 65 (some ad1) la.length (la.map chgC) ∧ B ≤ W.heap.size).1 i.isLt
        obtain rfl := Option.some.inj e
        exact ⟨hc, trivial⟩)
      have hxv := Lib.hid (HLA.out _ (List.getElem_mem i.isLt))
      have HY : Hid (∀ W, All W [.own (w4.heap.size + 1 + 1) 70 65 A r.length c (r.map chgC).flatten, .cells w2.heap.size 23 [.slice A r.length c], .low (.els B 65 (some ad1) la.length (la.map chgC)), .low (.els B 65 (some ad2) lb.length (lb.map chgC)), .cells w4.heap.size 23 [.slice (some ad1) la.length c1], .cells (w4.heap.size + 1) 23 [.slice (some ad2) lb.length c2], .cells w.heap.size 23 [.slice none 0 0], .cells (w.heap.size + 1) 26 [.int .i64 0], .kept w w.heap.size] → (∀ q s, (chgC lb[j.val])[q]? = some s → W.cell? ((ad2.add (j.val * 65)).add q) = some s) ∧ True) := Lib.hid (fun W hW => by
        obtain ⟨ad', e, -, hc⟩ := Els.elem (hW.at_ 3 rfl : Els W B 65 (some ad2) lb.length (lb.map chgC) ∧ B ≤ W.heap.size).1 j.isLt
        obtain rfl := Option.some.inj e
        exact ⟨hc, trivial⟩)
      have hxu := Lib.hid (HLB.out _ (List.getElem_mem j.isLt))
      obtain ⟨v, hv⟩ : ∃ v, la[i.val] = v := ⟨_, rfl⟩
      obtain ⟨u, hu⟩ : ∃ u, lb[j.val] = u := ⟨_, rfl⟩
      have HF1 := Lib.hid (HF0.out v u hv hu)
      rw [hv] at HX hxv
      rw [hu] at HY hxu
      clear hv hu HF0
      simp only [itX, itY, ptrA, Option.map_some]
      gi_wp2
      cases hm : decide (v.n = u.o) with
      | false =>
        have HM : Hid (Value.bool (!decide (v.n = u.o)) = .bool true) := Lib.hid (by rw [hm]; rfl)
        have HF : Hid (compF (lookF la lb (It.e i j)) = none) := Lib.hid (by rw [HF1.out, if_neg (of_decide_eq_false hm)])
        clear hm
        refine wpIn_region_hopsJ 9 [41, 42, 43, 44, 45, 46, 47, 48, 49] [.own (w4.heap.size + 1 + 1) 70 65 A r.length c (r.map chgC).flatten, .cells w2.heap.size 23 [.slice A r.length c], .low (.els B 65 (some ad1) la.length (la.map chgC)), .low (.els B 65 (some ad2) lb.length (lb.map chgC)), .cells w4.heap.size 23 [.slice (some ad1) la.length c1], .cells (w4.heap.size + 1) 23 [.slice (some ad2) lb.length c2], .cells w.heap.size 23 [.slice none 0 0], .cells (w.heap.size + 1) 26 [.int .i64 0], .kept w w.heap.size] (fun V => KeepsOthers W0 V ∧ (w4.heap.size + 1 + 1) ≤ V.heap.size)
          [.eq (.pointer (some (ad1.add (i.val * 65)))), .eq (.pointer (some (ad1.add (i.val * 65)))), .eq (.pointer (some ((ad1.add (i.val * 65)).add 33))), .eq (.agg (v.n.map bv).toArray), .eq (.pointer (some (ad2.add (j.val * 65)))), .eq (.pointer (some (ad2.add (j.val * 65)))), .eq (.pointer (some ((ad2.add (j.val * 65)).add 1))), .eq (.agg (u.o.map bv).toArray), .eq (.bool true)]
          (fun _ => trivial) (by kernel_rfl) (by kernel_rfl) (fun w1 w2 hg hj => ⟨hj.1.trans (.of_grownBy hg (fun j o e => by cases e)), Nat.le_trans hj.2 hg.size⟩) ⟨hI, .refl W0, hsz⟩ rfl ?hops ?fin
        case hops =>
          refine ⟨?_, ?_, ?_, ?_, ?_, ?_, ?_, ?_, ?_, trivial⟩
          · intro a' W hW hb hd K hK
            have b7 := hb 7 rfl
            refine ⟨fun _ _ => trivial, ?_⟩
            go_simp
            exact hK _ _ (World.grownBy.refl _ _) rfl
          · intro a' W hW hb hd K hK
            have b41 : a'.tmps[41]?.getD undef = _ := hd ⟨0, .data⟩ (by simp) rfl
            refine ⟨fun _ _ => trivial, ?_⟩
            go_simp
            exact hK _ _ (World.grownBy.refl _ _) (by first | rfl | (rw [add_zero]; rfl) | (simp [add_zero]; rfl))
          · intro a' W hW hb hd K hK
            have b42 : a'.tmps[42]?.getD undef = _ := hd ⟨1, .data⟩ (by simp) rfl
            refine ⟨fun _ _ => trivial, ?_⟩
            go_simp
            exact hK _ _ (World.grownBy.refl _ _) rfl
          · intro a' W hW hb hd K hK
            have b43 : a'.tmps[43]?.getD undef = _ := hd ⟨2, .data⟩ (by simp) rfl
            refine wpIn_load_any (fun _ => trivial) 58 (.tmp 43) rfl ((ad1.add (i.val * 65)).add 33) (show a'.eval (.tmp 43) = _ from by simp only [Act.eval, Array.getD_eq_getD_getElem?]; exact b43) (v.n.map bv) _ (fun q s hs => by rw [add_add]; exact (HX.out W hW.1).1 _ s (chg_sub2 hxv.out q s hs)) Tryd.underlying58 rfl (by rw [List.length_map, hxv.out.2.1]; kernel_rfl) ?_
            exact hK _ _ (World.grownBy.refl _ _) rfl
          · intro a' W hW hb hd K hK
            have b8 := hb 8 rfl
            refine ⟨fun _ _ => trivial, ?_⟩
            go_simp
            exact hK _ _ (World.grownBy.refl _ _) rfl
          · intro a' W hW hb hd K hK
            have b45 : a'.tmps[45]?.getD undef = _ := hd ⟨4, .data⟩ (by simp) rfl
            refine ⟨fun _ _ => trivial, ?_⟩
            go_simp
            exact hK _ _ (World.grownBy.refl _ _) (by first | rfl | (rw [add_zero]; rfl) | (simp [add_zero]; rfl))
          · intro a' W hW hb hd K hK
            have b46 : a'.tmps[46]?.getD undef = _ := hd ⟨5, .data⟩ (by simp) rfl
            refine ⟨fun _ _ => trivial, ?_⟩
            go_simp
            exact hK _ _ (World.grownBy.refl _ _) rfl
          · intro a' W hW hb hd K hK
            have b47 : a'.tmps[47]?.getD undef = _ := hd ⟨6, .data⟩ (by simp) rfl
            refine wpIn_load_any (fun _ => trivial) 58 (.tmp 47) rfl ((ad2.add (j.val * 65)).add 1) (show a'.eval (.tmp 47) = _ from by simp only [Act.eval, Array.getD_eq_getD_getElem?]; exact b47) (u.o.map bv) _ (fun q s hs => by rw [add_add]; exact (HY.out W hW.1).1 _ s (chg_sub1 hxu.out q s hs)) Tryd.underlying58 rfl (by rw [List.length_map, hxu.out.1]; kernel_rfl) ?_
            exact hK _ _ (World.grownBy.refl _ _) rfl
          · intro a' W hW hb hd K hK
            have b44 : a'.tmps[44]?.getD undef = _ := hd ⟨3, .data⟩ (by simp) rfl
            have b48 : a'.tmps[48]?.getD undef = _ := hd ⟨7, .data⟩ (by simp) rfl
            refine wpIn_neq (fun _ => trivial) (.tmp 44) (.tmp 48) rfl (.bool true) (by rw [(show a'.eval (.tmp 44) = _ from by simp only [Act.eval, Array.getD_eq_getD_getElem?]; exact b44), (show a'.eval (.tmp 48) = _ from by simp only [Act.eval, Array.getD_eq_getD_getElem?]; exact b48), ne_dg W v.n u.o hxv.out.2.1 hxu.out.1, HM.out]) (by go_simp) ?_
            exact hK _ _ (World.grownBy.refl _ _) rfl
        case fin =>
          intro vs V0 ⟨hV0, hKOV0, hVsV0⟩ hv
          have e8 : vs 8 = _ := hv 8 (by decide)
          clear hv
          simp only [putAll, List.drop_succ_cons, List.drop_zero, e8, Act.put, List.setIfInBounds_toArray, List.set_cons_succ, List.set_cons_zero]
          clear e8
          have e4 : V0.cell? ⟨w.heap.size, 0, none⟩ = some (.slice none 0 0) := Cells.cell (hV0.at_ 6 rfl) (i := 0) (by simp)
          have f4 : V0.frozen? ⟨w.heap.size, 0, none⟩ = false := Cells.frozen (hV0.at_ 6 rfl) 0
          have e5 : V0.cell? ⟨w.heap.size + 1, 0, none⟩ = some (.int .i64 0) := Cells.cell (hV0.at_ 7 rfl) (i := 0) (by simp)
          have f5 : V0.frozen? ⟨w.heap.size + 1, 0, none⟩ = false := Cells.frozen (hV0.at_ 7 rfl) 0
          gi_wp2
          clear e4 f4 e5 f5
          have hr1 : All V0 [.cells w.heap.size 23 [.slice none 0 0], .cells (w.heap.size + 1) 26 [.int .i64 0], .kept w w.heap.size] := ⟨hV0.at_ 6 rfl, hV0.at_ 7 rfl, hV0.at_ 8 rfl, trivial⟩
          have hr2 := hr1.store 0 rfl 0 (.slice none 0 0) ⟨fun e => by injection e with e; omega, fun g e => by injection e with e; omega, trivial⟩
          have hr3 := hr2.store 1 rfl 0 (.int .i64 9) ⟨fun e => by injection e with e; omega, fun g e => by injection e with e; omega, trivial⟩
          exact ⟨hKOV0.trans ((KeepsOthers.setCell _ _ _).trans (.setCell _ _ _)), rfl, HRUN0.out HF.out, hr3⟩
      | true =>
        have HM : Hid (Value.bool (!decide (v.n = u.o)) = .bool false) := Lib.hid (by rw [hm]; rfl)
        have hmm := Lib.hid (of_decide_eq_true hm)
        clear hm
        refine wpIn_region_hopsJ 9 [41, 42, 43, 44, 45, 46, 47, 48, 49] [.own (w4.heap.size + 1 + 1) 70 65 A r.length c (r.map chgC).flatten, .cells w2.heap.size 23 [.slice A r.length c], .low (.els B 65 (some ad1) la.length (la.map chgC)), .low (.els B 65 (some ad2) lb.length (lb.map chgC)), .cells w4.heap.size 23 [.slice (some ad1) la.length c1], .cells (w4.heap.size + 1) 23 [.slice (some ad2) lb.length c2], .cells w.heap.size 23 [.slice none 0 0], .cells (w.heap.size + 1) 26 [.int .i64 0], .kept w w.heap.size] (fun V => KeepsOthers W0 V ∧ (w4.heap.size + 1 + 1) ≤ V.heap.size)
          [.eq (.pointer (some (ad1.add (i.val * 65)))), .eq (.pointer (some (ad1.add (i.val * 65)))), .eq (.pointer (some ((ad1.add (i.val * 65)).add 33))), .eq (.agg (v.n.map bv).toArray), .eq (.pointer (some (ad2.add (j.val * 65)))), .eq (.pointer (some (ad2.add (j.val * 65)))), .eq (.pointer (some ((ad2.add (j.val * 65)).add 1))), .eq (.agg (u.o.map bv).toArray), .eq (.bool false)]
          (fun _ => trivial) (by kernel_rfl) (by kernel_rfl) (fun w1 w2 hg hj => ⟨hj.1.trans (.of_grownBy hg (fun j o e => by cases e)), Nat.le_trans hj.2 hg.size⟩) ⟨hI, .refl W0, hsz⟩ rfl ?hops ?fin
        case hops =>
          refine ⟨?_, ?_, ?_, ?_, ?_, ?_, ?_, ?_, ?_, trivial⟩
          · intro a' W hW hb hd K hK
            have b7 := hb 7 rfl
            refine ⟨fun _ _ => trivial, ?_⟩
            go_simp
            exact hK _ _ (World.grownBy.refl _ _) rfl
          · intro a' W hW hb hd K hK
            have b41 : a'.tmps[41]?.getD undef = _ := hd ⟨0, .data⟩ (by simp) rfl
            refine ⟨fun _ _ => trivial, ?_⟩
            go_simp
            exact hK _ _ (World.grownBy.refl _ _) (by first | rfl | (rw [add_zero]; rfl) | (simp [add_zero]; rfl))
          · intro a' W hW hb hd K hK
            have b42 : a'.tmps[42]?.getD undef = _ := hd ⟨1, .data⟩ (by simp) rfl
            refine ⟨fun _ _ => trivial, ?_⟩
            go_simp
            exact hK _ _ (World.grownBy.refl _ _) rfl
          · intro a' W hW hb hd K hK
            have b43 : a'.tmps[43]?.getD undef = _ := hd ⟨2, .data⟩ (by simp) rfl
            refine wpIn_load_any (fun _ => trivial) 58 (.tmp 43) rfl ((ad1.add (i.val * 65)).add 33) (show a'.eval (.tmp 43) = _ from by simp only [Act.eval, Array.getD_eq_getD_getElem?]; exact b43) (v.n.map bv) _ (fun q s hs => by rw [add_add]; exact (HX.out W hW.1).1 _ s (chg_sub2 hxv.out q s hs)) Tryd.underlying58 rfl (by rw [List.length_map, hxv.out.2.1]; kernel_rfl) ?_
            exact hK _ _ (World.grownBy.refl _ _) rfl
          · intro a' W hW hb hd K hK
            have b8 := hb 8 rfl
            refine ⟨fun _ _ => trivial, ?_⟩
            go_simp
            exact hK _ _ (World.grownBy.refl _ _) rfl
          · intro a' W hW hb hd K hK
            have b45 : a'.tmps[45]?.getD undef = _ := hd ⟨4, .data⟩ (by simp) rfl
            refine ⟨fun _ _ => trivial, ?_⟩
            go_simp
            exact hK _ _ (World.grownBy.refl _ _) (by first | rfl | (rw [add_zero]; rfl) | (simp [add_zero]; rfl))
          · intro a' W hW hb hd K hK
            have b46 : a'.tmps[46]?.getD undef = _ := hd ⟨5, .data⟩ (by simp) rfl
            refine ⟨fun _ _ => trivial, ?_⟩
            go_simp
            exact hK _ _ (World.grownBy.refl _ _) rfl
          · intro a' W hW hb hd K hK
            have b47 : a'.tmps[47]?.getD undef = _ := hd ⟨6, .data⟩ (by simp) rfl
            refine wpIn_load_any (fun _ => trivial) 58 (.tmp 47) rfl ((ad2.add (j.val * 65)).add 1) (show a'.eval (.tmp 47) = _ from by simp only [Act.eval, Array.getD_eq_getD_getElem?]; exact b47) (u.o.map bv) _ (fun q s hs => by rw [add_add]; exact (HY.out W hW.1).1 _ s (chg_sub1 hxu.out q s hs)) Tryd.underlying58 rfl (by rw [List.length_map, hxu.out.1]; kernel_rfl) ?_
            exact hK _ _ (World.grownBy.refl _ _) rfl
          · intro a' W hW hb hd K hK
            have b44 : a'.tmps[44]?.getD undef = _ := hd ⟨3, .data⟩ (by simp) rfl
            have b48 : a'.tmps[48]?.getD undef = _ := hd ⟨7, .data⟩ (by simp) rfl
            refine wpIn_neq (fun _ => trivial) (.tmp 44) (.tmp 48) rfl (.bool false) (by rw [(show a'.eval (.tmp 44) = _ from by simp only [Act.eval, Array.getD_eq_getD_getElem?]; exact b44), (show a'.eval (.tmp 48) = _ from by simp only [Act.eval, Array.getD_eq_getD_getElem?]; exact b48), ne_dg W v.n u.o hxv.out.2.1 hxu.out.1, HM.out]) (by go_simp) ?_
            exact hK _ _ (World.grownBy.refl _ _) rfl
        case fin =>
          intro vs V0 ⟨hV0, hKOV0, hVsV0⟩ hv
          have e8 : vs 8 = _ := hv 8 (by decide)
          clear hv
          simp only [putAll, List.drop_succ_cons, List.drop_zero, e8, Act.put, List.setIfInBounds_toArray, List.set_cons_succ, List.set_cons_zero]
          clear e8
          gi_wp2
          cases hq : decide (v.o = u.n) with
          | true =>
            have HQ : Hid (Value.bool (!decide (v.o = u.n)) = .bool false) := Lib.hid (by rw [hq]; rfl)
            have HF : Hid (compF (lookF la lb (It.e i j)) = some none) := Lib.hid (by rw [HF1.out, if_pos hmm.out, if_pos (of_decide_eq_true hq)])
            clear hq
            refine wpIn_region_hopsJ 9 [51, 52, 53, 54, 55, 56, 57, 58, 59] [.own (w4.heap.size + 1 + 1) 70 65 A r.length c (r.map chgC).flatten, .cells w2.heap.size 23 [.slice A r.length c], .low (.els B 65 (some ad1) la.length (la.map chgC)), .low (.els B 65 (some ad2) lb.length (lb.map chgC)), .cells w4.heap.size 23 [.slice (some ad1) la.length c1], .cells (w4.heap.size + 1) 23 [.slice (some ad2) lb.length c2], .cells w.heap.size 23 [.slice none 0 0], .cells (w.heap.size + 1) 26 [.int .i64 0], .kept w w.heap.size] (fun V => KeepsOthers W0 V ∧ (w4.heap.size + 1 + 1) ≤ V.heap.size)
              [.eq (.pointer (some (ad1.add (i.val * 65)))), .eq (.pointer (some (ad1.add (i.val * 65)))), .eq (.pointer (some ((ad1.add (i.val * 65)).add 1))), .eq (.agg (v.o.map bv).toArray), .eq (.pointer (some (ad2.add (j.val * 65)))), .eq (.pointer (some (ad2.add (j.val * 65)))), .eq (.pointer (some ((ad2.add (j.val * 65)).add 33))), .eq (.agg (u.n.map bv).toArray), .eq (.bool false)]
              (fun _ => trivial) (by kernel_rfl) (by kernel_rfl) (fun w1 w2 hg hj => ⟨hj.1.trans (.of_grownBy hg (fun j o e => by cases e)), Nat.le_trans hj.2 hg.size⟩) ⟨hV0, hKOV0, hVsV0⟩ rfl ?hops ?fin
            case hops =>
              refine ⟨?_, ?_, ?_, ?_, ?_, ?_, ?_, ?_, ?_, trivial⟩
              · intro a' W hW hb hd K hK
                have b7 := hb 7 rfl
                refine ⟨fun _ _ => trivial, ?_⟩
                go_simp
                exact hK _ _ (World.grownBy.refl _ _) rfl
              · intro a' W hW hb hd K hK
                have b51 : a'.tmps[51]?.getD undef = _ := hd ⟨0, .data⟩ (by simp) rfl
                refine ⟨fun _ _ => trivial, ?_⟩
                go_simp
                exact hK _ _ (World.grownBy.refl _ _) (by first | rfl | (rw [add_zero]; rfl) | (simp [add_zero]; rfl))
              · intro a' W hW hb hd K hK
                have b52 : a'.tmps[52]?.getD undef = _ := hd ⟨1, .data⟩ (by simp) rfl
                refine ⟨fun _ _ => trivial, ?_⟩
                go_simp
                exact hK _ _ (World.grownBy.refl _ _) rfl
              · intro a' W hW hb hd K hK
                have b53 : a'.tmps[53]?.getD undef = _ := hd ⟨2, .data⟩ (by simp) rfl
                refine wpIn_load_any (fun _ => trivial) 58 (.tmp 53) rfl ((ad1.add (i.val * 65)).add 1) (show a'.eval (.tmp 53) = _ from by simp only [Act.eval, Array.getD_eq_getD_getElem?]; exact b53) (v.o.map bv) _ (fun q s hs => by rw [add_add]; exact (HX.out W hW.1).1 _ s (chg_sub1 hxv.out q s hs)) Tryd.underlying58 rfl (by rw [List.length_map, hxv.out.1]; kernel_rfl) ?_
                exact hK _ _ (World.grownBy.refl _ _) rfl
              · intro a' W hW hb hd K hK
                have b8 := hb 8 rfl
                refine ⟨fun _ _ => trivial, ?_⟩
                go_simp
                exact hK _ _ (World.grownBy.refl _ _) rfl
              · intro a' W hW hb hd K hK
                have b55 : a'.tmps[55]?.getD undef = _ := hd ⟨4, .data⟩ (by simp) rfl
                refine ⟨fun _ _ => trivial, ?_⟩
                go_simp
                exact hK _ _ (World.grownBy.refl _ _) (by first | rfl | (rw [add_zero]; rfl) | (simp [add_zero]; rfl))
              · intro a' W hW hb hd K hK
                have b56 : a'.tmps[56]?.getD undef = _ := hd ⟨5, .data⟩ (by simp) rfl
                refine ⟨fun _ _ => trivial, ?_⟩
                go_simp
                exact hK _ _ (World.grownBy.refl _ _) rfl
              · intro a' W hW hb hd K hK
                have b57 : a'.tmps[57]?.getD undef = _ := hd ⟨6, .data⟩ (by simp) rfl
                refine wpIn_load_any (fun _ => trivial) 58 (.tmp 57) rfl ((ad2.add (j.val * 65)).add 33) (show a'.eval (.tmp 57) = _ from by simp only [Act.eval, Array.getD_eq_getD_getElem?]; exact b57) (u.n.map bv) _ (fun q s hs => by rw [add_add]; exact (HY.out W hW.1).1 _ s (chg_sub2 hxu.out q s hs)) Tryd.underlying58 rfl (by rw [List.length_map, hxu.out.2.1]; kernel_rfl) ?_
                exact hK _ _ (World.grownBy.refl _ _) rfl
              · intro a' W hW hb hd K hK
                have b54 : a'.tmps[54]?.getD undef = _ := hd ⟨3, .data⟩ (by simp) rfl
                have b58 : a'.tmps[58]?.getD undef = _ := hd ⟨7, .data⟩ (by simp) rfl
                refine wpIn_neq (fun _ => trivial) (.tmp 54) (.tmp 58) rfl (.bool false) (by rw [(show a'.eval (.tmp 54) = _ from by simp only [Act.eval, Array.getD_eq_getD_getElem?]; exact b54), (show a'.eval (.tmp 58) = _ from by simp only [Act.eval, Array.getD_eq_getD_getElem?]; exact b58), ne_dg W v.o u.n hxv.out.1 hxu.out.2.1, HQ.out]) (by go_simp) ?_
                exact hK _ _ (World.grownBy.refl _ _) rfl
            case fin =>
              intro vs V1 ⟨hV1, hKOV1, hVsV1⟩ hv
              have e8 : vs 8 = _ := hv 8 (by decide)
              clear hv
              simp only [putAll, List.drop_succ_cons, List.drop_zero, e8, Act.put, List.setIfInBounds_toArray, List.set_cons_succ, List.set_cons_zero]
              clear e8
              gi_wp2
              exact ⟨hKOV1, fun _ => LOWS.out _ _ _ _ hV1 hVsV1, A, c, r, by have := HRUN.out _ HF.out; rwa [Option.toList_none, List.append_nil] at this, hV1, hVsV1⟩
          | false =>
            have HQ : Hid (Value.bool (!decide (v.o = u.n)) = .bool true) := Lib.hid (by rw [hq]; rfl)
            have HF : Hid (compF (lookF la lb (It.e i j)) = some (some ⟨v.p, v.o, u.n⟩)) := Lib.hid (by rw [HF1.out, if_pos hmm.out, if_neg (of_decide_eq_false hq)])
            clear hq
            refine wpIn_region_hopsJ 9 [51, 52, 53, 54, 55, 56, 57, 58, 59] [.own (w4.heap.size + 1 + 1) 70 65 A r.length c (r.map chgC).flatten, .cells w2.heap.size 23 [.slice A r.length c], .low (.els B 65 (some ad1) la.length (la.map chgC)), .low (.els B 65 (some ad2) lb.length (lb.map chgC)), .cells w4.heap.size 23 [.slice (some ad1) la.length c1], .cells (w4.heap.size + 1) 23 [.slice (some ad2) lb.length c2], .cells w.heap.size 23 [.slice none 0 0], .cells (w.heap.size + 1) 26 [.int .i64 0], .kept w w.heap.size] (fun V => KeepsOthers W0 V ∧ (w4.heap.size + 1 + 1) ≤ V.heap.size)
              [.eq (.pointer (some (ad1.add (i.val * 65)))), .eq (.pointer (some (ad1.add (i.val * 65)))), .eq (.pointer (some ((ad1.add (i.val * 65)).add 1))), .eq (.agg (v.o.map bv).toArray), .eq (.pointer (some (ad2.add (j.val * 65)))), .eq (.pointer (some (ad2.add (j.val * 65)))), .eq (.pointer (some ((ad2.add (j.val * 65)).add 33))), .eq (.agg (u.n.map bv).toArray), .eq (.bool true)]
              (fun _ => trivial) (by kernel_rfl) (by kernel_rfl) (fun w1 w2 hg hj => ⟨hj.1.trans (.of_grownBy hg (fun j o e => by cases e)), Nat.le_trans hj.2 hg.size⟩) ⟨hV0, hKOV0, hVsV0⟩ rfl ?hops ?fin
            case hops =>
              refine ⟨?_, ?_, ?_, ?_, ?_, ?_, ?_, ?_, ?_, trivial⟩
              · intro a' W hW hb hd K hK
                have b7 := hb 7 rfl
                refine ⟨fun _ _ => trivial, ?_⟩
                go_simp
                exact hK _ _ (World.grownBy.refl _ _) rfl
              · intro a' W hW hb hd K hK
                have b51 : a'.tmps[51]?.getD undef = _ := hd ⟨0, .data⟩ (by simp) rfl
                refine ⟨fun _ _ => trivial, ?_⟩
                go_simp
                exact hK _ _ (World.grownBy.refl _ _) (by first | rfl | (rw [add_zero]; rfl) | (simp [add_zero]; rfl))
              · intro a' W hW hb hd K hK
                have b52 : a'.tmps[52]?.getD undef = _ := hd ⟨1, .data⟩ (by simp) rfl
                refine ⟨fun _ _ => trivial, ?_⟩
                go_simp
                exact hK _ _ (World.grownBy.refl _ _) rfl
              · intro a' W hW hb hd K hK
                have b53 : a'.tmps[53]?.getD undef = _ := hd ⟨2, .data⟩ (by simp) rfl
                refine wpIn_load_any (fun _ => trivial) 58 (.tmp 53) rfl ((ad1.add (i.val * 65)).add 1) (show a'.eval (.tmp 53) = _ from by simp only [Act.eval, Array.getD_eq_getD_getElem?]; exact b53) (v.o.map bv) _ (fun q s hs => by rw [add_add]; exact (HX.out W hW.1).1 _ s (chg_sub1 hxv.out q s hs)) Tryd.underlying58 rfl (by rw [List.length_map, hxv.out.1]; kernel_rfl) ?_
                exact hK _ _ (World.grownBy.refl _ _) rfl
              · intro a' W hW hb hd K hK
                have b8 := hb 8 rfl
                refine ⟨fun _ _ => trivial, ?_⟩
                go_simp
                exact hK _ _ (World.grownBy.refl _ _) rfl
              · intro a' W hW hb hd K hK
                have b55 : a'.tmps[55]?.getD undef = _ := hd ⟨4, .data⟩ (by simp) rfl
                refine ⟨fun _ _ => trivial, ?_⟩
                go_simp
                exact hK _ _ (World.grownBy.refl _ _) (by first | rfl | (rw [add_zero]; rfl) | (simp [add_zero]; rfl))
              · intro a' W hW hb hd K hK
                have b56 : a'.tmps[56]?.getD undef = _ := hd ⟨5, .data⟩ (by simp) rfl
                refine ⟨fun _ _ => trivial, ?_⟩
                go_simp
                exact hK _ _ (World.grownBy.refl _ _) rfl
              · intro a' W hW hb hd K hK
                have b57 : a'.tmps[57]?.getD undef = _ := hd ⟨6, .data⟩ (by simp) rfl
                refine wpIn_load_any (fun _ => trivial) 58 (.tmp 57) rfl ((ad2.add (j.val * 65)).add 33) (show a'.eval (.tmp 57) = _ from by simp only [Act.eval, Array.getD_eq_getD_getElem?]; exact b57) (u.n.map bv) _ (fun q s hs => by rw [add_add]; exact (HY.out W hW.1).1 _ s (chg_sub2 hxu.out q s hs)) Tryd.underlying58 rfl (by rw [List.length_map, hxu.out.2.1]; kernel_rfl) ?_
                exact hK _ _ (World.grownBy.refl _ _) rfl
              · intro a' W hW hb hd K hK
                have b54 : a'.tmps[54]?.getD undef = _ := hd ⟨3, .data⟩ (by simp) rfl
                have b58 : a'.tmps[58]?.getD undef = _ := hd ⟨7, .data⟩ (by simp) rfl
                refine wpIn_neq (fun _ => trivial) (.tmp 54) (.tmp 58) rfl (.bool true) (by rw [(show a'.eval (.tmp 54) = _ from by simp only [Act.eval, Array.getD_eq_getD_getElem?]; exact b54), (show a'.eval (.tmp 58) = _ from by simp only [Act.eval, Array.getD_eq_getD_getElem?]; exact b58), ne_dg W v.o u.n hxv.out.1 hxu.out.2.1, HQ.out]) (by go_simp) ?_
                exact hK _ _ (World.grownBy.refl _ _) rfl
            case fin =>
              intro vs V1 ⟨hV1, hKOV1, hVsV1⟩ hv
              have e8 : vs 8 = _ := hv 8 (by decide)
              clear hv
              simp only [putAll, List.drop_succ_cons, List.drop_zero, e8, Act.put, List.setIfInBounds_toArray, List.set_cons_succ, List.set_cons_zero]
              clear e8
              gi_wp2
              refine wpIn_region_hopsJ 15 [60, 61, 62, 63, 64, 65, 66, 67, 68, 69, 70, 71, 72, 73, 74] [.own (w4.heap.size + 1 + 1) 70 65 A r.length c (r.map chgC).flatten, .cells w2.heap.size 23 [.slice A r.length c], .low (.els B 65 (some ad1) la.length (la.map chgC)), .low (.els B 65 (some ad2) lb.length (lb.map chgC)), .cells w4.heap.size 23 [.slice (some ad1) la.length c1], .cells (w4.heap.size + 1) 23 [.slice (some ad2) lb.length c2], .cells w.heap.size 23 [.slice none 0 0], .cells (w.heap.size + 1) 26 [.int .i64 0], .kept w w.heap.size] (fun V => KeepsOthers W0 V ∧ (w4.heap.size + 1 + 1) ≤ V.heap.size)
                [.eq (.slice A r.length c), .eq (.pointer (some (ad1.add (i.val * 65)))), .eq (.pointer (some (ad1.add (i.val * 65)))), .eq (.pointer (some (ad1.add (i.val * 65)))), .eq (.string v.p), .eq (.pointer (some (ad1.add (i.val * 65)))), .eq (.pointer (some (ad1.add (i.val * 65)))), .eq (.pointer (some ((ad1.add (i.val * 65)).add 1))), .eq (.agg (v.o.map bv).toArray), .eq (.pointer (some (ad2.add (j.val * 65)))), .eq (.pointer (some (ad2.add (j.val * 65)))), .eq (.pointer (some ((ad2.add (j.val * 65)).add 33))), .eq (.agg (u.n.map bv).toArray), .eq (.agg (chgC ⟨v.p, v.o, u.n⟩).toArray), .rd 65 1 (chgC ⟨v.p, v.o, u.n⟩)]
                (fun _ => trivial) (by kernel_rfl) (by kernel_rfl) (fun w1 w2 hg hj => ⟨hj.1.trans (.of_grownBy hg (fun j o e => by cases e)), Nat.le_trans hj.2 hg.size⟩) ⟨hV1, hKOV1, hVsV1⟩ rfl ?hops ?fin
              case hops =>
                refine ⟨?_, ?_, ?_, ?_, ?_, ?_, ?_, ?_, ?_, ?_, ?_, ?_, ?_, ?_, ?_, trivial⟩
                · intro a' W hW hb hd K hK
                  have b6 := hb 6 rfl
                  have q1 : W.cell? ⟨w2.heap.size, 0, none⟩ = some (.slice A r.length c) := Cells.cell (hW.1.at_ 1 rfl) (i := 0) (by simp)
                  refine ⟨fun _ _ => trivial, ?_⟩
                  go_simp
                  exact hK _ _ (World.grownBy.refl _ _) rfl
                · intro a' W hW hb hd K hK
                  have b7 := hb 7 rfl
                  refine ⟨fun _ _ => trivial, ?_⟩
                  go_simp
                  exact hK _ _ (World.grownBy.refl _ _) rfl
                · intro a' W hW hb hd K hK
                  have b61 : a'.tmps[61]?.getD undef = _ := hd ⟨1, .data⟩ (by simp) rfl
                  refine ⟨fun _ _ => trivial, ?_⟩
                  go_simp
                  exact hK _ _ (World.grownBy.refl _ _) (by first | rfl | (rw [add_zero]; rfl) | (simp [add_zero]; rfl))
                · intro a' W hW hb hd K hK
                  have b62 : a'.tmps[62]?.getD undef = _ := hd ⟨2, .data⟩ (by simp) rfl
                  refine ⟨fun _ _ => trivial, ?_⟩
                  go_simp
                  exact hK _ _ (World.grownBy.refl _ _) rfl
                · intro a' W hW hb hd K hK
                  have b63 : a'.tmps[63]?.getD undef = _ := hd ⟨3, .data⟩ (by simp) rfl
                  have q1 : W.cell? (ad1.add (i.val * 65)) = some (.string v.p) := by have := (HX.out W hW.1).1 0 (sv v.p) rfl; rwa [add_zero] at this
                  refine ⟨fun _ _ => trivial, ?_⟩
                  go_simp
                  exact hK _ _ (World.grownBy.refl _ _) rfl
                · intro a' W hW hb hd K hK
                  have b7 := hb 7 rfl
                  refine ⟨fun _ _ => trivial, ?_⟩
                  go_simp
                  exact hK _ _ (World.grownBy.refl _ _) rfl
                · intro a' W hW hb hd K hK
                  have b65 : a'.tmps[65]?.getD undef = _ := hd ⟨5, .data⟩ (by simp) rfl
                  refine ⟨fun _ _ => trivial, ?_⟩
                  go_simp
                  exact hK _ _ (World.grownBy.refl _ _) (by first | rfl | (rw [add_zero]; rfl) | (simp [add_zero]; rfl))
                · intro a' W hW hb hd K hK
                  have b66 : a'.tmps[66]?.getD undef = _ := hd ⟨6, .data⟩ (by simp) rfl
                  refine ⟨fun _ _ => trivial, ?_⟩
                  go_simp
                  exact hK _ _ (World.grownBy.refl _ _) rfl
                · intro a' W hW hb hd K hK
                  have b67 : a'.tmps[67]?.getD undef = _ := hd ⟨7, .data⟩ (by simp) rfl
                  refine wpIn_load_any (fun _ => trivial) 58 (.tmp 67) rfl ((ad1.add (i.val * 65)).add 1) (show a'.eval (.tmp 67) = _ from by simp only [Act.eval, Array.getD_eq_getD_getElem?]; exact b67) (v.o.map bv) _ (fun q s hs => by rw [add_add]; exact (HX.out W hW.1).1 _ s (chg_sub1 hxv.out q s hs)) Tryd.underlying58 rfl (by rw [List.length_map, hxv.out.1]; kernel_rfl) ?_
                  exact hK _ _ (World.grownBy.refl _ _) rfl
                · intro a' W hW hb hd K hK
                  have b8 := hb 8 rfl
                  refine ⟨fun _ _ => trivial, ?_⟩
                  go_simp
                  exact hK _ _ (World.grownBy.refl _ _) rfl
                · intro a' W hW hb hd K hK
                  have b69 : a'.tmps[69]?.getD undef = _ := hd ⟨9, .data⟩ (by simp) rfl
                  refine ⟨fun _ _ => trivial, ?_⟩
                  go_simp
                  exact hK _ _ (World.grownBy.refl _ _) (by first | rfl | (rw [add_zero]; rfl) | (simp [add_zero]; rfl))
                · intro a' W hW hb hd K hK
                  have b70 : a'.tmps[70]?.getD undef = _ := hd ⟨10, .data⟩ (by simp) rfl
                  refine ⟨fun _ _ => trivial, ?_⟩
                  go_simp
                  exact hK _ _ (World.grownBy.refl _ _) rfl
                · intro a' W hW hb hd K hK
                  have b71 : a'.tmps[71]?.getD undef = _ := hd ⟨11, .data⟩ (by simp) rfl
                  refine wpIn_load_any (fun _ => trivial) 58 (.tmp 71) rfl ((ad2.add (j.val * 65)).add 33) (show a'.eval (.tmp 71) = _ from by simp only [Act.eval, Array.getD_eq_getD_getElem?]; exact b71) (u.n.map bv) _ (fun q s hs => by rw [add_add]; exact (HY.out W hW.1).1 _ s (chg_sub2 hxu.out q s hs)) Tryd.underlying58 rfl (by rw [List.length_map, hxu.out.2.1]; kernel_rfl) ?_
                  exact hK _ _ (World.grownBy.refl _ _) rfl
                · intro a' W hW hb hd K hK
                  have b64 : a'.tmps[64]?.getD undef = _ := hd ⟨4, .data⟩ (by simp) rfl
                  have b68 : a'.tmps[68]?.getD undef = _ := hd ⟨8, .data⟩ (by simp) rfl
                  have b72 : a'.tmps[72]?.getD undef = _ := hd ⟨12, .data⟩ (by simp) rfl
                  refine wpIn_bld (fun _ => trivial) 70 [(0, .tmp 64), (1, .tmp 68), (2, .tmp 72)] rfl _ _ #[(0, 1), (1, 32), (33, 32)] (chgC ⟨v.p, v.o, u.n⟩).toArray zero_chg Tryd.underlying70 (fun w => by kernel_rfl) ?_ ?_
                  · simp only [List.map_cons, List.map_nil]
                    rw [(show a'.eval (.tmp 64) = _ from by simp only [Act.eval, Array.getD_eq_getD_getElem?]; exact b64), (show a'.eval (.tmp 68) = _ from by simp only [Act.eval, Array.getD_eq_getD_getElem?]; exact b68), (show a'.eval (.tmp 72) = _ from by simp only [Act.eval, Array.getD_eq_getD_getElem?]; exact b72)]
                    exact fill_chg012 v.p v.o u.n hxv.out.1 hxu.out.2.1
                  exact hK _ _ (World.grownBy.refl _ _) rfl
                · intro a' W hW hb hd K hK
                  have b73 : a'.tmps[73]?.getD undef = _ := hd ⟨13, .data⟩ (by simp) rfl
                  refine wpIn_lit1 (fun _ => trivial) el_chg (.tmp 73) rfl (chgC ⟨v.p, v.o, u.n⟩) (show a'.eval (.tmp 73) = _ from by simp only [Act.eval, Array.getD_eq_getD_getElem?]; exact b73) (chgC_len ⟨hxv.out.1, hxu.out.2.1, hxv.out.2.2⟩) (by decide) ?_
                  exact hK _ _ (grown_alloc _ _) ⟨_, _, rfl, by have := Rd.lit W (chgC ⟨v.p, v.o, u.n⟩).toArray 70 1 (size := 65) (by rw [List.size_toArray]; exact chgC_len ⟨hxv.out.1, hxu.out.2.1, hxv.out.2.2⟩); simpa using this⟩
              case fin =>
                intro vs V ⟨hV, hKO, hVs⟩ hv
                have e0 : vs 0 = _ := hv 0 (by decide)
                obtain ⟨A9, c9, e9, hRd⟩ := (hv 14 (by decide) : VF.ok (.rd 65 1 (chgC ⟨v.p, v.o, u.n⟩)) (vs 14) V)
                clear hv
                simp only [putAll, List.drop_succ_cons, List.drop_zero, e0, e9, Act.put, List.setIfInBounds_toArray, List.set_cons_succ, List.set_cons_zero]
                clear e0 e9
                refine wlIn_app el_chg rfl (.tmp 60) (.tmp 74) rfl (w4.heap.size + 1 + 1) A r.length c ((r.map chgC).flatten) rfl (hV.at_ 0 rfl) V.heap.size A9 1 c9 (chgC ⟨v.p, v.o, u.n⟩) rfl hRd (chgC_one _) (by omega) hVs ?_
                intro A3 c3 w9 hown3 hg3 hob3
                have hap1 : ∀ g, (w4.heap.size + 1 + 1) ≤ g → (Value.slice A r.length c).ownBlock = some g → Apart (some g) [.low (.els B 65 (some ad1) la.length (la.map chgC)), .low (.els B 65 (some ad2) lb.length (lb.map chgC)), .cells w4.heap.size 23 [.slice (some ad1) la.length c1], .cells (w4.heap.size + 1) 23 [.slice (some ad2) lb.length c2], .cells w.heap.size 23 [.slice none 0 0], .cells (w.heap.size + 1) 26 [.int .i64 0], .kept w w.heap.size] := fun g hg hg2 => ⟨fun g' e => by injection e with e; have := hBw; simp only [Low.els]; omega, fun g' e => by injection e with e; have := hBw; simp only [Low.els]; omega, fun e => by injection e with e; omega, fun e => by injection e with e; omega, fun e => by injection e with e; omega, fun e => by injection e with e; omega, fun g' e => by injection e with e; omega, trivial⟩
                have hap2 : Apart (some w2.heap.size) [.low (.els B 65 (some ad1) la.length (la.map chgC)), .low (.els B 65 (some ad2) lb.length (lb.map chgC)), .cells w4.heap.size 23 [.slice (some ad1) la.length c1], .cells (w4.heap.size + 1) 23 [.slice (some ad2) lb.length c2], .cells w.heap.size 23 [.slice none 0 0], .cells (w.heap.size + 1) 26 [.int .i64 0], .kept w w.heap.size] := ⟨fun g' e => by injection e with e; have := hBw; simp only [Low.els]; omega, fun g' e => by injection e with e; have := hBw; simp only [Low.els]; omega, fun e => by injection e with e; omega, fun e => by injection e with e; omega, fun e => by injection e with e; omega, fun e => by injection e with e; omega, fun g' e => by injection e with e; omega, trivial⟩
                obtain ⟨hM1, hM2, hM3⟩ := out_more hV hap1 (by omega) hown3 hg3 hap2
                have c2 : w9.cell? ⟨w2.heap.size, 0, none⟩ = some (.slice A r.length c) := Cells.cell (hM1.at_ 1 rfl) (i := 0) (by simp)
                have f2 : w9.frozen? ⟨w2.heap.size, 0, none⟩ = false := Cells.frozen (hM1.at_ 1 rfl) 0
                gi_wp2
                clear c2 f2
                have hM4 : All (w9.setCell ⟨w2.heap.size, 0, none⟩ (.slice A3 (r.length + 1) c3)) [.own (w4.heap.size + 1 + 1) 70 65 A3 (r ++ [(⟨v.p, v.o, u.n⟩ : C)]).length c3 ((r ++ [(⟨v.p, v.o, u.n⟩ : C)]).map chgC).flatten, .cells w2.heap.size 23 [.slice A3 (r ++ [(⟨v.p, v.o, u.n⟩ : C)]).length c3], .low (.els B 65 (some ad1) la.length (la.map chgC)), .low (.els B 65 (some ad2) lb.length (lb.map chgC)), .cells w4.heap.size 23 [.slice (some ad1) la.length c1], .cells (w4.heap.size + 1) 23 [.slice (some ad2) lb.length c2], .cells w.heap.size 23 [.slice none 0 0], .cells (w.heap.size + 1) 26 [.int .i64 0], .kept w w.heap.size] := by
                  rw [List.length_append, List.map_append, List.flatten_append]
                  simpa using hM2
                have hM5 : (w4.heap.size + 1 + 1) ≤ (w9.setCell ⟨w2.heap.size, 0, none⟩ (.slice A3 (r.length + 1) c3)).heap.size := by
                  have := hg3.size
                  rw [size_setCell]
                  omega
                exact ⟨hKO.trans hM3, fun _ => LOWS.out _ _ _ _ hM4 hM5, A3, c3, r ++ [(⟨v.p, v.o, u.n⟩ : C)], HRUN.out _ HF.out, hM4, hM5⟩
  case done =>
    rintro D xs W' hDl hxs ⟨A, c, r, hr, hI, hsz⟩ hK
    subst hxs
    have hres := Lib.hid (HDS.out r hr)
    have c6 : W'.cell? ⟨w2.heap.size, 0, none⟩ = some (.slice A r.length c) := Cells.cell (hI.at_ 1 rfl) (i := 0) (by simp)
    have e4 : W'.cell? ⟨w.heap.size, 0, none⟩ = some (.slice none 0 0) := Cells.cell (hI.at_ 6 rfl) (i := 0) (by simp)
    have f4 : W'.frozen? ⟨w.heap.size, 0, none⟩ = false := Cells.frozen (hI.at_ 6 rfl) 0
    have e5 : W'.cell? ⟨w.heap.size + 1, 0, none⟩ = some (.int .i64 0) := Cells.cell (hI.at_ 7 rfl) (i := 0) (by simp)
    have f5 : W'.frozen? ⟨w.heap.size + 1, 0, none⟩ = false := Cells.frozen (hI.at_ 7 rfl) 0
    have hDne : D ≠ w.heap.size ∧ D ≠ w.heap.size + 1 ∧ w.heap.size ≤ D := by rw [hsz0] at hDl; omega
    have hdd : W'.heap[D]? = some (.deferred (some [])) := hK
    have own6 : Go.Adm.Own W' (w4.heap.size + 1 + 1) 70 65 A r.length c (r.map chgC).flatten := hI.at_ 0 rfl
    have hAll := hI
    clear hr
    have hc2 : ∀ u v : Value, ((W'.setCell ⟨w.heap.size, 0, none⟩ u).setCell ⟨w.heap.size + 1, 0, none⟩ v).heap[D]? = some (.deferred (some [])) := fun u v => ((KeepsOthers.setCell _ _ _).trans (.setCell _ _ _)).same D _ hdd rfl
    have hR4 : ∀ u : Value, All (W'.setCell ⟨w.heap.size, 0, none⟩ u) [.cells w.heap.size 23 [u], .cells (w.heap.size + 1) 26 [.int .i64 0], .kept w w.heap.size] := fun u => All.store (w := W') (rs := [.cells w.heap.size 23 [.slice none 0 0], .cells (w.heap.size + 1) 26 [.int .i64 0], .kept w w.heap.size]) ⟨hI.at_ 6 rfl, hI.at_ 7 rfl, hI.at_ 8 rfl, trivial⟩ 0 rfl 0 u ⟨fun e => by injection e with e; omega, fun g e => by injection e with e; omega, trivial⟩
    have hR5 : ∀ u v : Value, All ((W'.setCell ⟨w.heap.size, 0, none⟩ u).setCell ⟨w.heap.size + 1, 0, none⟩ v) [.cells w.heap.size 23 [u], .cells (w.heap.size + 1) 26 [v], .kept w w.heap.size] := fun u v => (hR4 u).store 1 rfl 0 v ⟨fun e => by injection e with e; omega, fun g e => by injection e with e; omega, trivial⟩
    have hO5 : ∀ u v : Value, Go.Adm.Own ((W'.setCell ⟨w.heap.size, 0, none⟩ u).setCell ⟨w.heap.size + 1, 0, none⟩ v) (w4.heap.size + 1 + 1) 70 65 A r.length c (r.map chgC).flatten := fun u v => by
      have h1 : All W' [.own (w4.heap.size + 1 + 1) 70 65 A r.length c (r.map chgC).flatten] := ⟨own6, trivial⟩
      have h2 := (h1.setCell ⟨w.heap.size, 0, none⟩ u ⟨fun g e => .inl (by have e' : w.heap.size = g := Option.some.inj e; omega), trivial⟩).setCell ⟨w.heap.size + 1, 0, none⟩ v ⟨fun g e => .inl (by have e' : w.heap.size + 1 = g := Option.some.inj e; omega), trivial⟩
      exact h2.1
    cases hbig : decide (128 < r.length) with
    | true =>
      have hlt := of_decide_eq_true hbig
      have d1 : decide ((128 : Int) < (r.length : Int)) = true := by simp; omega
      have hfin : compR la lb = ([], 3) := by rw [hres.out, if_pos hlt]
      clear hI hbig
      go_wp2
      refine leaves_all (B := w.heap.size) [D] _ ?_ (by simp) ?_
      · intro D' hD'
        obtain rfl : D' = D := by simpa using hD'
        exact ⟨hDne.2.2, hc2 _ _⟩
      · intro W'' hW'' _
        have h1 := hW'' [.cells w.heap.size 23 [.slice none 0 0], .cells (w.heap.size + 1) 26 [.int .i64 3], .kept w w.heap.size] ⟨trivial, trivial, Nat.le_refl _, trivial⟩ (hR5 (.slice none 0 0) (.int .i64 3))
        rw [hfin]
        refine ⟨_, results_cell2 rfl _ _ w.heap.size (w.heap.size + 1) (.slice none 0 0) (.int .i64 3) rfl rfl ?_ ?_, ResPost.nil rfl (h1.at_ 2 rfl).1⟩
        · have := Cells.cell (h1.at_ 0 rfl : Cells W'' _ _ _) (i := 0) (by simp)
          go_simp
        · have := Cells.cell (h1.at_ 1 rfl : Cells W'' _ _ _) (i := 0) (by simp)
          go_simp
    | false =>
      have hlt := of_decide_eq_false hbig
      have d1 : decide ((128 : Int) < (r.length : Int)) = false := by simp; omega
      have hfin : compR la lb = (r, 0) := by rw [hres.out, if_neg hlt]
      clear hI hbig
      go_wp2
      refine leaves_all (B := w.heap.size) [D] _ ?_ (by simp) ?_
      · intro D' hD'
        obtain rfl : D' = D := by simpa using hD'
        exact ⟨hDne.2.2, hc2 _ _⟩
      · intro W'' hW'' _
        have h1 := hW'' [.cells w.heap.size 23 [.slice A r.length c], .cells (w.heap.size + 1) 26 [.int .i64 0], .kept w w.heap.size] ⟨trivial, trivial, Nat.le_refl _, trivial⟩ (hR5 (.slice A r.length c) (.int .i64 0))
        have h2 := hW'' [.own (w4.heap.size + 1 + 1) 70 65 A r.length c (r.map chgC).flatten] ⟨trivial, trivial⟩ ⟨hO5 (.slice A r.length c) (.int .i64 0), trivial⟩
        rw [hfin]
        refine ⟨_, results_cell2 rfl _ _ w.heap.size (w.heap.size + 1) (.slice A r.length c) (.int .i64 0) rfl rfl ?_ ?_, A, c, rfl, Go.Adm.Own.less h2.1 (by omega), (h1.at_ 2 rfl).1⟩
        · have := Cells.cell (h1.at_ 0 rfl : Cells W'' _ _ _) (i := 0) (by simp)
          go_simp
        · have := Cells.cell (h1.at_ 1 rfl : Cells W'' _ _ _) (i := 0) (by simp)
          go_simp
end Go.Proofs.YtieobkgdkiahbaaDoor

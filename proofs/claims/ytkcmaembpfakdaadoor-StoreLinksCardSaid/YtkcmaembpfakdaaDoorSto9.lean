/- slices.Insert of one blob into a store that has room for it. -/
import Derived.Test.YtkcmaembpfakdaaDoorSto8
import Derived.Lib.Overlaps
import Derived.StillTailTactics
set_option linter.unusedSimpArgs false
set_option linter.unusedVariables false
set_option maxRecDepth 100000
namespace Go.Adm
open Go Go.RowKit
theorem shape_cells {w : World} {g : Nat} {t : TypeId} {cs : List Value} (h : Cells w g t cs) : w.shape? g = some (t, cs.length) := by
  unfold World.shape?
  rw [h]; simp
theorem ins_cells {cs : List Value} {l : List Bl} {x : Bl} {n i : Nat} (hcs : cs.take (n * 33) = (l.map blC).flatten) (hlen : cs.length = (n + 1) * 33) (hl : l.length = n) (h32 : ∀ y ∈ l, y.d.length = 32) (hx : (blC x).length = 33) (hi : i < n) :
    (cs.drop (i * 33)).take ((n - i) * 33) = ((l.drop i).map blC).flatten ∧ ((l.drop i).map blC).flatten.length = (n - i) * 33 ∧
    (cs.take ((i + 1) * 33) ++ ((l.drop i).map blC).flatten ++ cs.drop ((i + 1) * 33 + ((l.drop i).map blC).flatten.length)).length = (n + 1) * 33 ∧
    ((cs.take ((i + 1) * 33) ++ ((l.drop i).map blC).flatten ++ cs.drop ((i + 1) * 33 + ((l.drop i).map blC).flatten.length)).take (i * 33) ++ blC x ++
      (cs.take ((i + 1) * 33) ++ ((l.drop i).map blC).flatten ++ cs.drop ((i + 1) * 33 + ((l.drop i).map blC).flatten.length)).drop (i * 33 + (blC x).length)) = ((l.take i ++ x :: l.drop i).map blC).flatten := by
  have heach : ∀ e ∈ l.map blC, e.length = 33 := fun e he => by
    obtain ⟨y, hy, rfl⟩ := List.mem_map.1 he
    exact blC_len (h32 y hy)
  have h1 : (cs.drop (i * 33)).take ((n - i) * 33) = ((l.drop i).map blC).flatten := by
    rw [List.map_drop, ← flat_drop i heach, ← hcs, List.drop_take]
    congr 1
    omega
  have h2 : ((l.drop i).map blC).flatten.length = (n - i) * 33 := by
    rw [blC_flat _ (fun y hy => h32 y (List.mem_of_mem_drop hy)), List.length_drop, hl]
  have h3 : cs.drop ((i + 1) * 33 + ((l.drop i).map blC).flatten.length) = [] := List.drop_of_length_le (by rw [h2, hlen]; omega)
  have h4 : cs.take (i * 33) = ((l.take i).map blC).flatten := by
    rw [List.map_take, ← flat_take i heach, ← hcs, List.take_take, Nat.min_eq_left (by omega)]
  refine ⟨h1, h2, ?_, ?_⟩
  · rw [h3, List.append_nil, List.length_append, List.length_take, h2]; omega
  · rw [h3, List.append_nil, hx]
    rw [List.take_append_of_le_length (by rw [List.length_take]; omega), List.take_take, Nat.min_eq_left (by omega), h4]
    rw [List.drop_left' (by rw [List.length_take]; omega)]
    simp
end Go.Adm
namespace Go.Proofs.YtkcmaembpfakdaaDoor
open Go Go.RowKit Go.Adm

set_option maxHeartbeats 3200000 in
theorem Insert_any (w : World) (rs : List Res) (g g2 n i : Nat) (cs : List Value) (l : List Bl) (x : Bl) (hR : All w (.cells g 56 cs :: .cells g2 56 (blC x) :: rs)) (hap : Apart (some g) rs) (hne : g2 ≠ g)
    (hlen : cs.length = (n + 1) * 33) (hcs : cs.take (n * 33) = (l.map blC).flatten) (hl : l.length = n) (h32 : ∀ y ∈ l, y.d.length = 32) (hx : x.d.length = 32) (hi : i ≤ n) (hn2 : n ≤ 1000000) :
    Calls Tryd.prog 22 #[.slice (some ⟨g, 0, none⟩) n (n + 1), .int .i64 i, .slice (some ⟨g2, 0, none⟩) 1 1] w fun e w' => e = .returned (.slice (some ⟨g, 0, none⟩) (n + 1) (n + 1)) ∧
      All w' (.cells g 56 ((l.take i ++ x :: l.drop i).map blC).flatten :: .cells g2 56 (blC x) :: rs) := by
  have hx33 := Lib.hid (blC_len hx)
  have HL := Lib.hid hlen
  have HCS := Lib.hid hcs
  have HN := Lib.hid hl
  have H32 := Lib.hid h32
  clear hlen hcs hl h32 hx
  have wi0 : (0 : Int) ≤ (i : Int) := by omega
  have wi1 : (i : Int) ≤ (n : Int) := by omega
  have wi2 : (i : Int) ≤ (n : Int) + 1 := by omega
  have wi3 : ¬ (n + 1 = i) := by omega
  have w1 : IntKind.i64.wrap ((n : Int) + 1) = (n : Int) + 1 := by rw [IntWalk.i64_in _ (by omega)]
  have w2 : IntKind.i64.wrap ((i : Int) + 1) = (i : Int) + 1 := by rw [IntWalk.i64_in _ (by omega)]
  go_enter Tryd.func22, Tryd.ntmps22
  by_cases hin : i = n
  · subst hin
    have d1 : ((i : Int) == (i : Int)) = true := by simp
    go_wp2_with (refine wl_app_cells el_bl hR 0 rfl (.tmp 23) (.tmp 24) rfl g i (i + 1) cs rfl rfl ⟨g2, 0, none⟩ 1 1 (blC x) rfl (by rw [hx33.out]) (Cells.sub (hR.at_ 1 rfl) 0 (fun j u h => by simpa [Nat.zero_add] using h)) (blC_one x) (Nat.le_refl _) (by rw [hx33.out, HL.out]; omega) ⟨by simp [Res.apart]; omega, hap⟩ ?_; intro W5 hW5 hs5)
    have hfin : cs.take (i * 33) ++ blC x ++ cs.drop (i * 33 + (blC x).length) = ((l.take i ++ x :: l.drop i).map blC).flatten := by
      rw [HCS.out, List.drop_of_length_le (by rw [hx33.out, HL.out]; omega), List.append_nil, List.take_of_length_le (by rw [HN.out]; exact Nat.le_refl _), List.drop_of_length_le (by rw [HN.out]; exact Nat.le_refl _)]
      simp
    rw [hfin] at hW5
    go_ret
    exact ⟨rfl, hW5⟩
  · have hlt : i < n := by omega
    have d1 : ((i : Int) == (n : Int)) = false := by simp; omega
    have d2 : (i == n) = false := by simp; omega
    have wi4 : ¬ (n + 1 = i + 1) := by omega
    have wi7 : ¬ (n = i) := by omega
    have wi5 : (i : Int) + 1 ≤ (n : Int) + 1 := by omega
    have wi6 : (0 : Int) ≤ (i : Int) + 1 := by omega
    have hwi : ((i : Int) + 1).toNat = i + 1 := by omega
    have hwn : ((n : Int) + 1).toNat = n + 1 := by omega
    clear hin
    have hI0 := hR
    clear hR
    go_upto_region 14 with (fail)
    go_wp2_with fail
    rw [run_callFunc_extern Tryd.func40 (by kernel_rfl) (by kernel_rfl) (by kernel_rfl) (e := Extern.SlicesOverlaps.overlaps #[34, 34] #[4]) (by kernel_rfl),
      Lib.run_overlaps_apart w 34 4 56 el_bl.ht 33 (fun w => by kernel_rfl) ⟨g2, 0, none⟩ ⟨g, (i + 1) * 33, none⟩ 1 1 (n - i) (n - i) hne _ _ _ _ (shape_cells (hI0.at_ 1 rfl)) (shape_cells (hI0.at_ 0 rfl)) (by rw [HL.out]; omega) (Cells.frozen (hI0.at_ 1 rfl) _) (Cells.frozen (hI0.at_ 1 rfl) _)]
    go_upto_region 15 with (fail)
    refine wp_region_hops 8 [69, 70, 71, 72, 73, 74, 75, 76] (.cells g 56 cs :: .cells g2 56 (blC x) :: rs)
      [.eq (.slice (some ⟨g, 0, none⟩) (n + 1) (n + 1)), .eq (.int .i64 i), .eq (.int .i64 1), .eq (.int .i64 ((i : Int) + 1)), .eq (.slice (some ⟨g, (i + 1) * 33, none⟩) (n - i) (n - i)), .eq (.slice (some ⟨g, 0, none⟩) (n + 1) (n + 1)), .eq (.int .i64 i), .eq (.slice (some ⟨g, i * 33, none⟩) (n + 1 - i) (n + 1 - i))]
      (by kernel_rfl) (by kernel_rfl) hI0 rfl ?hops ?fin
    case hops =>
      refine ⟨?_, ?_, ?_, ?_, ?_, ?_, ?_, ?_, trivial⟩
      · intro a W hW hb hd K hK
        have b0 := hb 0 rfl
        go_simp
        exact hK _ _ (World.grownBy.refl _ _) rfl
      · intro a W hW hb hd K hK
        have b1 := hb 1 rfl
        go_simp
        exact hK _ _ (World.grownBy.refl _ _) rfl
      · intro a W hW hb hd K hK
        have b7 := hb 7 rfl
        go_simp
        exact hK _ _ (World.grownBy.refl _ _) rfl
      · intro a W hW hb hd K hK
        have b70 : a.tmps[70]?.getD undef = _ := hd ⟨1, .data⟩ (by simp) rfl
        have b71 : a.tmps[71]?.getD undef = _ := hd ⟨2, .data⟩ (by simp) rfl
        go_simp
        exact hK _ _ (World.grownBy.refl _ _) rfl
      · intro a W hW hb hd K hK
        have b69 : a.tmps[69]?.getD undef = _ := hd ⟨0, .data⟩ (by simp) rfl
        have b72 : a.tmps[72]?.getD undef = _ := hd ⟨3, .data⟩ (by simp) rfl
        go_simp
        exact hK _ _ (World.grownBy.refl _ _) rfl
      · intro a W hW hb hd K hK
        have b0 := hb 0 rfl
        go_simp
        exact hK _ _ (World.grownBy.refl _ _) rfl
      · intro a W hW hb hd K hK
        have b1 := hb 1 rfl
        go_simp
        exact hK _ _ (World.grownBy.refl _ _) rfl
      · intro a W hW hb hd K hK
        have b74 : a.tmps[74]?.getD undef = _ := hd ⟨5, .data⟩ (by simp) rfl
        have b75 : a.tmps[75]?.getD undef = _ := hd ⟨6, .data⟩ (by simp) rfl
        go_simp
        exact hK _ _ (World.grownBy.refl _ _) rfl
    case fin =>
      intro vs w6 hD hv
      have e4 : vs 4 = _ := hv 4 (by decide)
      have e7 : vs 7 = _ := hv 7 (by decide)
      clear hv hI0
      simp only [putAll, List.drop_succ_cons, List.drop_zero, e4, e7, Act.put, List.setIfInBounds_toArray, List.set_cons_succ, List.set_cons_zero]
      clear e4 e7
      obtain ⟨f1, f2, f3, f4⟩ := ins_cells HCS.out HL.out HN.out H32.out hx33.out hlt
      have F1 := Lib.hid f1
      have F2 := Lib.hid f2
      have F3 := Lib.hid f3
      have F4 := Lib.hid f4
      clear f1 f2 f3 f4
      refine wl_copy_wide el_bl hD 0 rfl (.tmp 73) (.tmp 76) rfl g ((i + 1) * 33) (n - i) (n - i) cs rfl rfl ⟨g, i * 33, none⟩ (n + 1 - i) (n + 1 - i) (n - i) ((l.drop i).map blC).flatten rfl (Nat.min_eq_right (by omega)).symm F2.out (Cells.sub (hD.at_ 0 rfl) (i * 33) (fun j u h => by { rw [← F1.out, List.getElem?_take] at h; split at h; { rw [List.getElem?_drop] at h; exact h }; { cases h } })) (fun v hv => by { obtain ⟨q, hq, hv⟩ := List.mem_flatten.1 hv; obtain ⟨y, _, rfl⟩ := List.mem_map.1 hq; exact blC_one y v hv }) (by rw [F2.out, HL.out]; omega) ⟨by simp [Res.apart]; omega, hap⟩ ?_
      intro W7 hW7 hs7
      go_wp2_with (refine wl_copy_wide el_bl hW7 0 rfl (.tmp 80) (.tmp 81) rfl g (i * 33) (n + 1 - i) (n + 1 - i) _ rfl rfl ⟨g2, 0, none⟩ 1 1 1 (blC x) rfl (Nat.min_eq_left (by omega)).symm (by rw [hx33.out]) (Cells.sub (hW7.at_ 1 rfl) 0 (fun j u h => by simpa [Nat.zero_add] using h)) (blC_one x) (by rw [F3.out, hx33.out]; omega) ⟨by simp [Res.apart]; omega, hap⟩ ?_; intro W8 hW8 hs8)
      go_ret
      rw [F4.out] at hW8
      exact ⟨rfl, hW8⟩
end Go.Proofs.YtkcmaembpfakdaaDoor

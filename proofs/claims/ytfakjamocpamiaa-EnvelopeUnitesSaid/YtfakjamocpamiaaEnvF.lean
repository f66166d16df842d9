/- insert and find of the reference. -/
import Derived.Test.YtfakjamocpamiaaEnvB
import Derived.Test.YtfakjamocpamiaaEnvD
set_option linter.unusedSimpArgs false
set_option linter.unusedVariables false
set_option maxRecDepth 100000
namespace Go.Adm
open Go Go.RowKit
/-- where the reference finds a key -/
def findV (l : List Ks) (d : List UInt8) : Int := if hasK l d = true then (placeK l d : Int) else -1
theorem findV_yes {l : List Ks} {d : List UInt8} {k : Nat} (h1 : hasK l d = true) (h2 : placeK l d = k) : findV l d = k := by unfold findV; rw [if_pos h1, h2]
theorem findV_no {l : List Ks} {d : List UInt8} (h1 : hasK l d = false) : findV l d = -1 := by unfold findV; rw [if_neg (by rw [h1]; decide)]
end Go.Adm
namespace Go.Proofs.Ytfakjamocpamiaa
open Go Go.RowKit Go.Adm

set_option maxHeartbeats 3200000 in
theorem refInsertK_any (w : World) (B : Nat) (A : Option Addr) (n c : Nat) (l : List Ks) (x : Ks) (hl : Kss w B A n l) (hx : x.r.length = 16) (hn2 : n ≤ 1000000) (hnc : n ≤ c) (hB : B ≤ w.heap.size) :
  Calls Try.prog 47 #[.slice A n c, .agg (ksC x).toArray] w fun e w' => ∃ A' c', e = .returned (.slice A' (n + 1) c') ∧ Go.Adm.Own w' w.heap.size 64 20 A' (n + 1) c' ((l.take (placeK l (idK x)) ++ x :: l.drop (placeK l (idK x))).map ksC).flatten ∧ Below w.heap.size w w' := by
 have hR : All w [.low (.kss B A n l), .kept w w.heap.size] := ⟨⟨hl, hB⟩, ⟨Below.refl _ _, Nat.le_refl _⟩, trivial⟩
 have HN := Lib.hid hl.len
 have HXX := Lib.hid (ksC_len hx)
 have HXD := Lib.hid hx
 have HNC := Lib.hid hnc
 have HE20 : Hid (∀ e ∈ l.map ksC, e.length = 20) := Lib.hid hl.els.each
 have H16 : Hid (∀ y ∈ l, y.r.length = 16) := Lib.hid fun y hy => (hl.each y hy).r16
 have HONE : Hid (∀ l' : List Ks, ∀ u ∈ (l'.map ksC).flatten, u.oneCell' = true) := Lib.hid fun l' u hu => by
  obtain ⟨es, he, hu⟩ := List.mem_flatten.1 hu
  obtain ⟨y, _, rfl⟩ := List.mem_map.1 he
  exact ksC_one y u hu
 have HAP : Hid (∀ (W : World) (A0 : Option Addr) (m c0 : Nat) (xs : List Value), Go.Adm.Own W (w.heap.size + 1) 64 20 A0 m c0 xs → Apart (Value.slice A0 m c0).ownBlock [.cells w.heap.size 64 (ksC x), .low (.kss B A n l), .kept w w.heap.size]) := Lib.hid fun W A0 m c0 xs ho => by
  cases hq : (Value.slice A0 m c0).ownBlock with
  | none => exact Apart.none _
  | some g =>
   have hg := (ho.lt hq).1
   exact ⟨fun e => by injection e with e; omega, fun g' e => by injection e with e; have := hB; simp only [Low.kss]; omega, fun g' e => by injection e with e; omega, trivial⟩
 have hR1 : All (w.alloc (.cells (ksC x).toArray 64)) (.own (w.heap.size + 1) 64 20 none 0 0 (((l.take 0).map ksC).flatten) :: [.cells w.heap.size 64 (ksC x), .low (.kss B A n l), .kept w w.heap.size]) := ⟨Go.Adm.Own.nil _ _ _ _, hR.new (l := ksC x) _ _ rfl rfl⟩
 clear hl hx hR hnc
 have hs1 : w.heap.size + 1 ≤ (w.alloc (.cells (ksC x).toArray 64)).heap.size := by simp
 go_enter Try.func47, Try.ntmps47
 go_upto_region 1 with (fail)
 refine wp_genP (Pr := fun W => All W (.own (w.heap.size + 1) 64 20 none 0 0 (((l.take 0).map ksC).flatten) :: [.cells w.heap.size 64 (ksC x), .low (.kss B A n l), .kept w w.heap.size]) ∧ w.heap.size + 1 ≤ W.heap.size) ⟨hR1, hs1⟩ ?_
 clear hR1 hs1
 rintro W1 ⟨hI0, hs0⟩
 go_wp2
 go_loopw [5, 6] (fun v i wr => ∃ (k : Nat) (A' : Option Addr) (c' : Nat), k ≤ n ∧ i = .int .i64 k ∧ v = .slice A' k c' ∧ (w.heap.size + 1) ≤ wr.heap.size ∧ (∀ j (hj : j < l.length), j < k → lessD (idK l[j]) (idK x) = true) ∧ All wr (.own (w.heap.size + 1) 64 20 A' k c' (((l.take k).map ksC).flatten) :: [.cells w.heap.size 64 (ksC x), .low (.kss B A n l), .kept w w.heap.size])) (fun _ i _ => n - (intOf i).toNat)
 case atStart => exact ⟨0, none, 0, by omega, rfl, rfl, hs0, fun _ _ h => absurd h (by omega), hI0⟩
 case round =>
  obtain ⟨k, A', c', hk, rfl, rfl, hsr, hall, hI⟩ := hrel
  have Hall := Lib.hid hall
  clear hI0 hs0 hall
  by_cases hlt : k < n
  ·have hkl : k < l.length := by rw [HN.out]; exact hlt
   have hbl := (hI.at_ 2 rfl : Kss wr B A n l ∧ B ≤ wr.heap.size)
   obtain ⟨ad, rfl, hadB, hc⟩ := Els.elem hbl.1.els hkl
   have hy := Lib.hid (H16.out _ (List.getElem_mem hkl))
   have HY : Hid (∀ W, All W (.own (w.heap.size + 1) 64 20 A' k c' (((l.take k).map ksC).flatten) :: [.cells w.heap.size 64 (ksC x), .low (.kss B (some ad) n l), .kept w w.heap.size]) → ∀ q s, (ksC l[k])[q]? = some s → W.cell? ((ad.add (k * 20)).add q) = some s) := Lib.hid (fun W hW => by
    obtain ⟨ad', e, _, hc⟩ := Els.elem (hW.at_ 2 rfl : Kss W B (some ad) n l ∧ B ≤ W.heap.size).1.els hkl
    obtain rfl := Option.some.inj e
    exact hc)
   have HM : Hid (lessD (idK l[k]) (idK x) = true → ∀ j (hj : j < l.length), j < k + 1 → lessD (idK l[j]) (idK x) = true) := Lib.hid (fun h j hj h2 => by
    rcases Nat.lt_succ_iff_lt_or_eq.1 h2 with h4 | h4
    ·exact Hall.out j hj h4
    ·subst h4; exact h)
   have HPUT' : Hid (lessD (idK l[k]) (idK x) = false → placeK l (idK x) = k) := Lib.hid (fun h => placeK_eq (by omega) (fun j hj h2 => Hall.out j hj h2) (fun _ => h))
   have HT : Hid (l.take (k + 1) = l.take k ++ [l[k]]) := Lib.hid (List.take_succ_eq_append_getElem hkl)
   clear hc hbl
   generalize l[k] = y at *
   have d1 : decide ((k : Int) < (n : Int)) = true := by simp; omega
   have wk0 : (0 : Int) ≤ (k : Int) := by omega
   have wk1 : (k : Int) < (n : Int) := by omega
   have wk2 : ((k : Int)).toNat = k := by omega
   go_upto_region 3 with (fail)
   cases hb : lessD (idK y) (idK x) with
   | true =>
    have hm := Lib.hid (HM.out hb)
    have HB := Lib.hid hb
    clear hb
    refine wp_region_hopsH 15 [7, 8, 9, 10, 11, 12, 13, 14, 15, 16, 17, 18, 19, 20, 21] (.own (w.heap.size + 1) 64 20 A' k c' (((l.take k).map ksC).flatten) :: [.cells w.heap.size 64 (ksC x), .low (.kss B (some ad) n l), .kept w w.heap.size])
     [.eq (.int .i64 k), .eq (.slice (some ad) n c), .eq (.int .i64 (n : Int)), .eq (.bool true), .eq (.bool true), .eq (.slice (some ad) n c), .eq (.int .i64 k), .eq (.pointer (some (ad.add (k * 20)))), .eq (.pointer (some (ad.add (k * 20)))), .eq (.agg (pkCells y.h y.r).toArray), .eq (.agg ((idK y).map bv).toArray), .eq (.pointer (some ⟨w.heap.size, 0, none⟩)), .eq (.agg (pkCells x.h x.r).toArray), .eq (.agg ((idK x).map bv).toArray), .eq (.bool true)]
     (by kernel_rfl) (by kernel_rfl) hI rfl ?hops ?fin
    case hops =>
     refine ⟨?_, ?_, ?_, ?_, ?_, ?_, ?_, ?_, ?_, ?_, ?_, ?_, ?_, ?_, ?_, trivial⟩
     ·intro a W hW hb hd K hK
      have b6 := hb 6 rfl
      go_simp
      exact hK _ _ (World.grownBy.refl _ _) rfl
     ·intro a W hW hb hd K hK
      have b0 := hb 0 rfl
      go_simp
      exact hK _ _ (World.grownBy.refl _ _) rfl
     ·intro a W hW hb hd K hK
      have b8 : a.tmps[8]?.getD undef = _ := hd ⟨1, .data⟩ (by simp) rfl
      go_simp
      exact hK _ _ (World.grownBy.refl _ _) rfl
     ·intro a W hW hb hd K hK
      have b7 : a.tmps[7]?.getD undef = _ := hd ⟨0, .data⟩ (by simp) rfl
      have b9 : a.tmps[9]?.getD undef = _ := hd ⟨2, .data⟩ (by simp) rfl
      go_simp
      exact hK _ _ (World.grownBy.refl _ _) rfl
     ·intro a W hW hb hd K hK
      have b10 : a.tmps[10]?.getD undef = _ := hd ⟨3, .data⟩ (by simp) rfl
      go_simp
      exact hK _ _ (World.grownBy.refl _ _) rfl
     ·refine Or.inl ⟨fun v w h => h, ?_⟩
      intro a W hW hb hd K hK
      have b0 := hb 0 rfl
      go_simp
      exact hK _ _ (World.grownBy.refl _ _) rfl
     ·refine Or.inl ⟨fun v w h => h, ?_⟩
      intro a W hW hb hd K hK
      have b6 := hb 6 rfl
      go_simp
      exact hK _ _ (World.grownBy.refl _ _) rfl
     ·refine Or.inl ⟨fun v w h => h, ?_⟩
      intro a W hW hb hd K hK
      have b12 : a.tmps[12]?.getD undef = _ := hd ⟨5, .data⟩ (by simp) rfl
      have b13 : a.tmps[13]?.getD undef = _ := hd ⟨6, .data⟩ (by simp) rfl
      go_simp
      exact hK _ _ (World.grownBy.refl _ _) rfl
     ·refine Or.inl ⟨fun v w h => h, ?_⟩
      intro a W hW hb hd K hK
      have b14 : a.tmps[14]?.getD undef = _ := hd ⟨7, .data⟩ (by simp) rfl
      go_simp
      exact hK _ _ (World.grownBy.refl _ _) (by first | rfl | (rw [add_zero]; rfl) | (simp [add_zero]; rfl))
     ·refine Or.inl ⟨fun v w h => h, ?_⟩
      intro a W hW hb hd K hK
      have b15 : a.tmps[15]?.getD undef = _ := hd ⟨8, .data⟩ (by simp) rfl
      refine wp_load_any 62 (.tmp 15) rfl (ad.add (k * 20)) (show a.eval (.tmp 15) = _ from by simp only [Act.eval, Array.getD_eq_getD_getElem?]; exact b15) (pkCells y.h y.r) _ (fun q s hs => HY.out W hW q s (by have := ks_pk y q s hs; rwa [Nat.zero_add] at this)) Try.underlying62 rfl (by rw [pkLen hy.out]; kernel_rfl) ?_
      exact hK _ _ (World.grownBy.refl _ _) rfl
     ·refine Or.inl ⟨fun v w h => h, ?_⟩
      intro a W hW hb hd K hK
      have b16 : a.tmps[16]?.getD undef = _ := hd ⟨9, .data⟩ (by simp) rfl
      have hid : ∀ W, Calls Try.prog 32 #[.agg (pkCells y.h y.r).toArray] W fun e w' => e = .returned (.agg ((idK y).map bv).toArray) ∧ Below W.heap.size W w' := fun W => refID_any W y.h y.r hy.out
      go_simp
      refine (hid W).mono ?_
      rintro e w' ⟨rfl, hb'⟩
      exact hK _ _ (grown_of_below hb') rfl
     ·refine Or.inl ⟨fun v w h => h, ?_⟩
      intro a W hW hb hd K hK
      have b3 := hb 3 rfl
      go_simp
      exact hK _ _ (World.grownBy.refl _ _) (by first | rfl | (rw [add_zero]; rfl) | (simp [add_zero]; rfl))
     ·refine Or.inl ⟨fun v w h => h, ?_⟩
      intro a W hW hb hd K hK
      have b18 : a.tmps[18]?.getD undef = _ := hd ⟨11, .data⟩ (by simp) rfl
      refine wp_load_any 62 (.tmp 18) rfl ⟨w.heap.size, 0, none⟩ (show a.eval (.tmp 18) = _ from by simp only [Act.eval, Array.getD_eq_getD_getElem?]; exact b18) (pkCells x.h x.r) _ (Cells.sub (hW.at_ 1 rfl) 0 (ks_pk x)) Try.underlying62 rfl (by rw [pkLen HXD.out]; kernel_rfl) ?_
      exact hK _ _ (World.grownBy.refl _ _) rfl
     ·refine Or.inl ⟨fun v w h => h, ?_⟩
      intro a W hW hb hd K hK
      have b19 : a.tmps[19]?.getD undef = _ := hd ⟨12, .data⟩ (by simp) rfl
      have hid : ∀ W, Calls Try.prog 32 #[.agg (pkCells x.h x.r).toArray] W fun e w' => e = .returned (.agg ((idK x).map bv).toArray) ∧ Below W.heap.size W w' := fun W => refID_any W x.h x.r HXD.out
      go_simp
      refine (hid W).mono ?_
      rintro e w' ⟨rfl, hb'⟩
      exact hK _ _ (grown_of_below hb') rfl
     ·refine Or.inl ⟨fun v w h => h, ?_⟩
      intro a W hW hb hd K hK
      have b17 : a.tmps[17]?.getD undef = _ := hd ⟨10, .data⟩ (by simp) rfl
      have b20 : a.tmps[20]?.getD undef = _ := hd ⟨13, .data⟩ (by simp) rfl
      go_simp
      refine (Less_any W (idK y) (idK x) (idK_len y) (idK_len x)).mono ?_
      rintro e w' ⟨rfl, hb'⟩
      exact hK _ _ (grown_of_below hb') (congrArg Value.bool HB.out)
    case fin =>
     intro vs wq hI1 hv
     have e4 : vs 4 = _ := hv 4 (by decide)
     have e14 : vs 14 = _ := hv 14 (by decide)
     clear hv
     simp only [putAll, List.drop_succ_cons, List.drop_zero, e4, e14, Act.put, List.setIfInBounds_toArray, List.set_cons_succ, List.set_cons_zero]
     clear e4 e14
     have hsr1 : (w.heap.size + 1) ≤ wq.heap.size := Cells.lt (hI1.at_ 1 rfl)
     clear hI hsr
     have HC1 := Lib.hid (HY.out wq hI1)
     go_wp2_with (first
      | (refine wl_load_any rfl 64 (.tmp 26) rfl (ad.add (k * 20)) rfl (ksC y) _ HC1.out Try.underlying64 rfl (by rw [ksC_len hy.out]; kernel_rfl) ?_)
      | (refine wl_lit1 el_ks rfl _ rfl (ksC y) rfl (ksC_len hy.out) (by decide) ?_)
      | (at_builtin; refine wl_app_at el_ks (hI1.alloc _) 0 rfl (.tmp 23) (.tmp 28) rfl (w.heap.size + 1) _ _ _ _ rfl rfl (wq.heap.size + 1) _ 1 1 (ksC y) rfl (Rd.lit wq (ksC y).toArray _ 1 (by rw [List.size_toArray]; exact ksC_len hy.out)) (ksC_one _) (by omega) (by simp; omega) (by intro g hg h; simp [Apart, Res.apart, Low.kss] <;> omega) ?_; intro A7 c7 w7 hI7 hs7))
     refine ⟨⟨k + 1, A7, c7, by omega, by go_num, rfl, by simp at hs7; omega, hm.out, ?_⟩, by simp [intOf]; omega⟩
     rw [HT.out, List.map_append, List.flatten_append]
     simpa using hI7
   | false =>
    have HP := Lib.hid (HPUT'.out hb)
    have HB := Lib.hid hb
    clear hb
    refine wp_region_hopsH 15 [7, 8, 9, 10, 11, 12, 13, 14, 15, 16, 17, 18, 19, 20, 21] (.own (w.heap.size + 1) 64 20 A' k c' (((l.take k).map ksC).flatten) :: [.cells w.heap.size 64 (ksC x), .low (.kss B (some ad) n l), .kept w w.heap.size])
     [.eq (.int .i64 k), .eq (.slice (some ad) n c), .eq (.int .i64 (n : Int)), .eq (.bool true), .eq (.bool true), .eq (.slice (some ad) n c), .eq (.int .i64 k), .eq (.pointer (some (ad.add (k * 20)))), .eq (.pointer (some (ad.add (k * 20)))), .eq (.agg (pkCells y.h y.r).toArray), .eq (.agg ((idK y).map bv).toArray), .eq (.pointer (some ⟨w.heap.size, 0, none⟩)), .eq (.agg (pkCells x.h x.r).toArray), .eq (.agg ((idK x).map bv).toArray), .eq (.bool false)]
     (by kernel_rfl) (by kernel_rfl) hI rfl ?hops ?fin
    case hops =>
     refine ⟨?_, ?_, ?_, ?_, ?_, ?_, ?_, ?_, ?_, ?_, ?_, ?_, ?_, ?_, ?_, trivial⟩
     ·intro a W hW hb hd K hK
      have b6 := hb 6 rfl
      go_simp
      exact hK _ _ (World.grownBy.refl _ _) rfl
     ·intro a W hW hb hd K hK
      have b0 := hb 0 rfl
      go_simp
      exact hK _ _ (World.grownBy.refl _ _) rfl
     ·intro a W hW hb hd K hK
      have b8 : a.tmps[8]?.getD undef = _ := hd ⟨1, .data⟩ (by simp) rfl
      go_simp
      exact hK _ _ (World.grownBy.refl _ _) rfl
     ·intro a W hW hb hd K hK
      have b7 : a.tmps[7]?.getD undef = _ := hd ⟨0, .data⟩ (by simp) rfl
      have b9 : a.tmps[9]?.getD undef = _ := hd ⟨2, .data⟩ (by simp) rfl
      go_simp
      exact hK _ _ (World.grownBy.refl _ _) rfl
     ·intro a W hW hb hd K hK
      have b10 : a.tmps[10]?.getD undef = _ := hd ⟨3, .data⟩ (by simp) rfl
      go_simp
      exact hK _ _ (World.grownBy.refl _ _) rfl
     ·refine Or.inl ⟨fun v w h => h, ?_⟩
      intro a W hW hb hd K hK
      have b0 := hb 0 rfl
      go_simp
      exact hK _ _ (World.grownBy.refl _ _) rfl
     ·refine Or.inl ⟨fun v w h => h, ?_⟩
      intro a W hW hb hd K hK
      have b6 := hb 6 rfl
      go_simp
      exact hK _ _ (World.grownBy.refl _ _) rfl
     ·refine Or.inl ⟨fun v w h => h, ?_⟩
      intro a W hW hb hd K hK
      have b12 : a.tmps[12]?.getD undef = _ := hd ⟨5, .data⟩ (by simp) rfl
      have b13 : a.tmps[13]?.getD undef = _ := hd ⟨6, .data⟩ (by simp) rfl
      go_simp
      exact hK _ _ (World.grownBy.refl _ _) rfl
     ·refine Or.inl ⟨fun v w h => h, ?_⟩
      intro a W hW hb hd K hK
      have b14 : a.tmps[14]?.getD undef = _ := hd ⟨7, .data⟩ (by simp) rfl
      go_simp
      exact hK _ _ (World.grownBy.refl _ _) (by first | rfl | (rw [add_zero]; rfl) | (simp [add_zero]; rfl))
     ·refine Or.inl ⟨fun v w h => h, ?_⟩
      intro a W hW hb hd K hK
      have b15 : a.tmps[15]?.getD undef = _ := hd ⟨8, .data⟩ (by simp) rfl
      refine wp_load_any 62 (.tmp 15) rfl (ad.add (k * 20)) (show a.eval (.tmp 15) = _ from by simp only [Act.eval, Array.getD_eq_getD_getElem?]; exact b15) (pkCells y.h y.r) _ (fun q s hs => HY.out W hW q s (by have := ks_pk y q s hs; rwa [Nat.zero_add] at this)) Try.underlying62 rfl (by rw [pkLen hy.out]; kernel_rfl) ?_
      exact hK _ _ (World.grownBy.refl _ _) rfl
     ·refine Or.inl ⟨fun v w h => h, ?_⟩
      intro a W hW hb hd K hK
      have b16 : a.tmps[16]?.getD undef = _ := hd ⟨9, .data⟩ (by simp) rfl
      have hid : ∀ W, Calls Try.prog 32 #[.agg (pkCells y.h y.r).toArray] W fun e w' => e = .returned (.agg ((idK y).map bv).toArray) ∧ Below W.heap.size W w' := fun W => refID_any W y.h y.r hy.out
      go_simp
      refine (hid W).mono ?_
      rintro e w' ⟨rfl, hb'⟩
      exact hK _ _ (grown_of_below hb') rfl
     ·refine Or.inl ⟨fun v w h => h, ?_⟩
      intro a W hW hb hd K hK
      have b3 := hb 3 rfl
      go_simp
      exact hK _ _ (World.grownBy.refl _ _) (by first | rfl | (rw [add_zero]; rfl) | (simp [add_zero]; rfl))
     ·refine Or.inl ⟨fun v w h => h, ?_⟩
      intro a W hW hb hd K hK
      have b18 : a.tmps[18]?.getD undef = _ := hd ⟨11, .data⟩ (by simp) rfl
      refine wp_load_any 62 (.tmp 18) rfl ⟨w.heap.size, 0, none⟩ (show a.eval (.tmp 18) = _ from by simp only [Act.eval, Array.getD_eq_getD_getElem?]; exact b18) (pkCells x.h x.r) _ (Cells.sub (hW.at_ 1 rfl) 0 (ks_pk x)) Try.underlying62 rfl (by rw [pkLen HXD.out]; kernel_rfl) ?_
      exact hK _ _ (World.grownBy.refl _ _) rfl
     ·refine Or.inl ⟨fun v w h => h, ?_⟩
      intro a W hW hb hd K hK
      have b19 : a.tmps[19]?.getD undef = _ := hd ⟨12, .data⟩ (by simp) rfl
      have hid : ∀ W, Calls Try.prog 32 #[.agg (pkCells x.h x.r).toArray] W fun e w' => e = .returned (.agg ((idK x).map bv).toArray) ∧ Below W.heap.size W w' := fun W => refID_any W x.h x.r HXD.out
      go_simp
      refine (hid W).mono ?_
      rintro e w' ⟨rfl, hb'⟩
      exact hK _ _ (grown_of_below hb') rfl
     ·refine Or.inl ⟨fun v w h => h, ?_⟩
      intro a W hW hb hd K hK
      have b17 : a.tmps[17]?.getD undef = _ := hd ⟨10, .data⟩ (by simp) rfl
      have b20 : a.tmps[20]?.getD undef = _ := hd ⟨13, .data⟩ (by simp) rfl
      go_simp
      refine (Less_any W (idK y) (idK x) (idK_len y) (idK_len x)).mono ?_
      rintro e w' ⟨rfl, hb'⟩
      exact hK _ _ (grown_of_below hb') (congrArg Value.bool HB.out)
    case fin =>
     intro vs wq hI1 hv
     have e4 : vs 4 = _ := hv 4 (by decide)
     have e14 : vs 14 = _ := hv 14 (by decide)
     clear hv
     simp only [putAll, List.drop_succ_cons, List.drop_zero, e4, e14, Act.put, List.setIfInBounds_toArray, List.set_cons_succ, List.set_cons_zero]
     clear e4 e14
     have hsr1 : (w.heap.size + 1) ≤ wq.heap.size := Cells.lt (hI1.at_ 1 rfl)
     clear hI hsr
     have hI := hI1
     have hsr := hsr1
     clear hI1 hsr1
     generalize wq = wr at *
     go_upto_region 6 with (fail)
     refine wp_region_cut 7 [32, 33, 34, 35, 36, 37, 38] (JIns [.cells w.heap.size 64 (ksC x), .low (.kss B (some ad) n l), .kept w w.heap.size]
      [.eq (.slice A' k c'), .eq (.agg (ksC x).toArray), .rd 20 1 (ksC x), .own (w.heap.size + 1) 64 20 (k + 1) ((((l.take k).map ksC).flatten) ++ ksC x), .eq (.slice (some ad) n c), .eq (.int .i64 k), .gen (fun _ v => ∃ A6 c6, v = .slice A6 (n - k) c6 ∧ ∀ W, All W [.cells w.heap.size 64 (ksC x), .low (.kss B (some ad) n l), .kept w w.heap.size] → Rd W B 20 A6 (n - k) (((l.drop k).map ksC).flatten)) (fun _ _ _ _ h => h)]
      (fun W => Go.Adm.Own W (w.heap.size + 1) 64 20 A' k c' (((l.take k).map ksC).flatten)) (w.heap.size + 1))
      (by kernel_rfl) (by kernel_rfl) ⟨JW.start ⟨hI.drew.at_ 1 rfl, hI.drew.at_ 2 rfl, hI.drew.at_ 3 rfl, trivial⟩, hsr, fun _ => hI.drew.at_ 0 rfl⟩ rfl ?hops ?fin
     case hops =>
      refine ⟨?_, ?_, ?_, ?_, ?_, ?_, ?_, trivial⟩
      ·refine ⟨rfl, ?_⟩
       intro a W L vs hJ hk hb0 hd K hK
       have b5 := hb0 5 rfl
       go_simp
       exact hK _ _ (hJ.quiet (World.grownBy.refl _ _) (by decide) (fun h => h) rfl)
      ·refine ⟨rfl, ?_⟩
       intro a W L vs hJ hk hb0 hd K hK
       have b3 := hb0 3 rfl
       refine wp_load_any 64 (.tmp 3) rfl ⟨w.heap.size, 0, none⟩ (show a.eval (.tmp 3) = _ from by simp only [Act.eval, Array.getD_eq_getD_getElem?]; exact b3) (ksC x) _ (Cells.sub (hJ.1.1.at_ 0 rfl) 0 (fun j u hu => by rw [Nat.zero_add]; exact hu)) Try.underlying64 rfl (by rw [HXX.out]; kernel_rfl) ?_
       exact hK _ _ (hJ.quiet (World.grownBy.refl _ _) (by decide) (fun h => h) rfl)
      ·refine ⟨rfl, ?_⟩
       intro a W L vs hJ hk hb0 hd K hK
       obtain ⟨h1, b33⟩ := hd ⟨1, .data⟩ (by simp) rfl
       replace b33 : a.tmps[33]?.getD undef = vs 1 := b33
       rw [show vs 1 = _ from hJ.1.get h1 (fun _ => by decide)] at b33
       refine wp_lit1 el_ks (.tmp 33) rfl (ksC x) (show a.eval (.tmp 33) = _ from by simp only [Act.eval, Array.getD_eq_getD_getElem?]; exact b33) HXX.out (by decide) ?_
       exact hK _ _ (hJ.quiet (grown_alloc _ _) (by decide) (fun h => h.alloc _) ⟨_, _, rfl, (Rd.lit W (ksC x).toArray _ 1 (by rw [List.size_toArray]; exact HXX.out)).mono (by simp)⟩)
      ·refine ⟨rfl, ?_⟩
       intro a W L vs hJ hk hb0 hd K hK
       obtain ⟨h0, b32⟩ := hd ⟨0, .data⟩ (by simp) rfl
       replace b32 : a.tmps[32]?.getD undef = vs 0 := b32
       rw [show vs 0 = _ from hJ.1.get h0 (fun _ => by decide)] at b32
       obtain ⟨h2, b34⟩ := hd ⟨2, .data⟩ (by simp) rfl
       replace b34 : a.tmps[34]?.getD undef = vs 2 := b34
       obtain ⟨A9, c9, e2, hrd⟩ : ∃ A9 c9, vs 2 = .slice A9 1 c9 ∧ Rd W W.heap.size 20 A9 1 (ksC x) := hJ.1.get h2 (fun h3 => by rw [hk] at h3; cases h3)
       rw [e2] at b34
       have hown := hJ.2.2 hk
       refine wp_app6 _ el_ks (.tmp 32) (.tmp 34) rfl (w.heap.size + 1) A' k c' _ (show a.eval (.tmp 32) = _ from by simp only [Act.eval, Array.getD_eq_getD_getElem?]; exact b32) hown W.heap.size A9 1 c9 (ksC x) (show a.eval (.tmp 34) = _ from by simp only [Act.eval, Array.getD_eq_getD_getElem?]; exact b34) hrd (ksC_one _) (by omega) hJ.2.1 ?_
       intro A3 c3 w3 hown3 hg3 hob3
       refine hK _ _ (hJ.write hg3 (HAP.out _ _ _ _ _ hown) hk ?_ ⟨Nat.le_trans hJ.2.1 hg3.size, A3, c3, rfl, hown3⟩)
       intro j u hb hne hf
       match j, hb, hne, hf with
       | 0, _, _, hf => exact hf
       | 1, _, _, hf => exact hf
       | 2, hb, _, _ => exact absurd hb (by decide)
       | 3, _, hne, _ => exact absurd rfl hne
       | 4, _, _, hf => exact hf
       | 5, _, _, hf => exact hf
       | 6, _, _, hf => exact hf
       | _ + 7, _, _, hf => exact hf
      ·refine ⟨rfl, ?_⟩
       intro a W L vs hJ hk hb0 hd K hK
       have b0 := hb0 0 rfl
       go_simp
       exact hK _ _ (hJ.quiet (World.grownBy.refl _ _) (by decide) (fun h => h) rfl)
      ·refine ⟨rfl, ?_⟩
       intro a W L vs hJ hk hb0 hd K hK
       have b6 := hb0 6 rfl
       go_simp
       exact hK _ _ (hJ.quiet (World.grownBy.refl _ _) (by decide) (fun h => h) rfl)
      ·refine ⟨rfl, ?_⟩
       intro a W L vs hJ hk hb0 hd K hK
       obtain ⟨h4, b36⟩ := hd ⟨4, .data⟩ (by simp) rfl
       replace b36 : a.tmps[36]?.getD undef = vs 4 := b36
       rw [show vs 4 = _ from hJ.1.get h4 (fun _ => by decide)] at b36
       obtain ⟨h5, b37⟩ := hd ⟨5, .data⟩ (by simp) rfl
       replace b37 : a.tmps[37]?.getD undef = vs 5 := b37
       rw [show vs 5 = _ from hJ.1.get h5 (fun _ => by decide)] at b37
       have d2 : 0 ≤ (k : Int) ∧ (k : Int) ≤ (n : Int) := by omega
       have d3 : ((k : Int)).toNat = k := by omega
       have hr : ∀ W, All W [.cells w.heap.size 64 (ksC x), .low (.kss B (some ad) n l), .kept w w.heap.size] → Rd W B 20 (if c = k then (some ad) else (some ad : Option Addr).map (·.add (k * 20))) (n - k) (((l.drop k).map ksC).flatten) := fun W hW => by
        have hE : Kss W B (some ad) n l ∧ B ≤ W.heap.size := hW.at_ 1 rfl
        have := hE.1.els.rd.cut (k := k) (cap := c) (by omega) HNC.out
        rw [List.map_drop, ← flat_drop k HE20.out]
        exact this
       go_simp
       exact hK _ _ (hJ.quiet (World.grownBy.refl _ _) (by decide) (fun h => h) ⟨_, _, rfl, hr⟩)
     case fin =>
      intro vs W L hJ hall
      obtain ⟨hbs, A3, c3, e3, hown⟩ : (w.heap.size + 1) ≤ W.heap.size ∧ ∃ A3 c3, vs 3 = .slice A3 (k + 1) c3 ∧ Go.Adm.Own W (w.heap.size + 1) 64 20 A3 (k + 1) c3 ((((l.take k).map ksC).flatten) ++ ksC x) := hJ.1.get (hall 3 (by decide)) (fun _ => by decide)
      obtain ⟨A6, c6, e6, hrd⟩ : ∃ A6 c6, vs 6 = .slice A6 (n - k) c6 ∧ ∀ W, All W [.cells w.heap.size 64 (ksC x), .low (.kss B (some ad) n l), .kept w w.heap.size] → Rd W B 20 A6 (n - k) (((l.drop k).map ksC).flatten) := hJ.1.get (hall 6 (by decide)) (fun _ => by decide)
      have hW := hJ.1.1
      clear hJ hall
      simp only [putAll, List.drop_succ_cons, List.drop_zero, e3, e6, Act.put, List.setIfInBounds_toArray, List.set_cons_succ, List.set_cons_zero]
      clear e3 e6
      have hr := hrd W hW
      have ha := HAP.out _ _ _ _ _ hown
      clear hrd hI
      go_wp2_with (at_builtin; refine wl_app6 _ el_ks rfl (.tmp 35) (.tmp 38) rfl (w.heap.size + 1) A3 (k + 1) c3 _ rfl hown B A6 (n - k) c6 _ rfl hr (HONE.out _) (by omega) hbs ?_; intro A7 c7 w7 hown7 hg7 hob7)
      go_ret
      have hW7 := hW.step hg7 ha
      refine ⟨A7, c7, by rw [show k + 1 + (n - k) = n + 1 by omega]; rfl, ?_, (hW7.at_ 2 rfl : _ ∧ _).1⟩
      rw [HP.out]
      refine (hown7.less (by omega)).cast (by omega) ?_
      rw [List.map_append, List.map_cons, List.flatten_append, List.flatten_cons, List.append_assoc]
  ·have d1 : decide ((k : Int) < (n : Int)) = false := by simp; omega
   have HP : Hid (placeK l (idK x) = k) := Lib.hid (placeK_eq (by rw [HN.out]; omega) (fun j hj h2 => Hall.out j hj h2) (fun h => by rw [HN.out] at h; omega))
   go_upto_region 3 with (fail)
   refine wp_region_hopsH 15 [7, 8, 9, 10, 11, 12, 13, 14, 15, 16, 17, 18, 19, 20, 21] (.own (w.heap.size + 1) 64 20 A' k c' (((l.take k).map ksC).flatten) :: [.cells w.heap.size 64 (ksC x), .low (.kss B A n l), .kept w w.heap.size])
    [.eq (.int .i64 k), .eq (.slice A n c), .eq (.int .i64 (n : Int)), .eq (.bool false), .eq (.bool false), .eq undef, .eq undef, .eq undef, .eq undef, .eq undef, .eq undef, .eq undef, .eq undef, .eq undef, .eq undef]
    (by kernel_rfl) (by kernel_rfl) hI rfl ?hops ?fin
   case hops =>
    refine ⟨?_, ?_, ?_, ?_, ?_, ?_, ?_, ?_, ?_, ?_, ?_, ?_, ?_, ?_, ?_, trivial⟩
    ·intro a W hW hb hd K hK
     have b6 := hb 6 rfl
     go_simp
     exact hK _ _ (World.grownBy.refl _ _) rfl
    ·intro a W hW hb hd K hK
     have b0 := hb 0 rfl
     go_simp
     exact hK _ _ (World.grownBy.refl _ _) rfl
    ·intro a W hW hb hd K hK
     have b8 : a.tmps[8]?.getD undef = _ := hd ⟨1, .data⟩ (by simp) rfl
     go_simp
     exact hK _ _ (World.grownBy.refl _ _) rfl
    ·intro a W hW hb hd K hK
     have b7 : a.tmps[7]?.getD undef = _ := hd ⟨0, .data⟩ (by simp) rfl
     have b9 : a.tmps[9]?.getD undef = _ := hd ⟨2, .data⟩ (by simp) rfl
     go_simp
     exact hK _ _ (World.grownBy.refl _ _) rfl
    ·intro a W hW hb hd K hK
     have b10 : a.tmps[10]?.getD undef = _ := hd ⟨3, .data⟩ (by simp) rfl
     go_simp
     exact hK _ _ (World.grownBy.refl _ _) rfl
    ·exact Or.inr ⟨fun v w h => by rw [show v = _ from h]; first | (intro h2; cases h2) | (simp [undef]), fun w => rfl⟩
    ·exact Or.inr ⟨fun v w h => by rw [show v = _ from h]; first | (intro h2; cases h2) | (simp [undef]), fun w => rfl⟩
    ·exact Or.inr ⟨fun v w h => by rw [show v = _ from h]; first | (intro h2; cases h2) | (simp [undef]), fun w => rfl⟩
    ·exact Or.inr ⟨fun v w h => by rw [show v = _ from h]; first | (intro h2; cases h2) | (simp [undef]), fun w => rfl⟩
    ·exact Or.inr ⟨fun v w h => by rw [show v = _ from h]; first | (intro h2; cases h2) | (simp [undef]), fun w => rfl⟩
    ·exact Or.inr ⟨fun v w h => by rw [show v = _ from h]; first | (intro h2; cases h2) | (simp [undef]), fun w => rfl⟩
    ·exact Or.inr ⟨fun v w h => by rw [show v = _ from h]; first | (intro h2; cases h2) | (simp [undef]), fun w => rfl⟩
    ·exact Or.inr ⟨fun v w h => by rw [show v = _ from h]; first | (intro h2; cases h2) | (simp [undef]), fun w => rfl⟩
    ·exact Or.inr ⟨fun v w h => by rw [show v = _ from h]; first | (intro h2; cases h2) | (simp [undef]), fun w => rfl⟩
    ·exact Or.inr ⟨fun v w h => by rw [show v = _ from h]; first | (intro h2; cases h2) | (simp [undef]), fun w => rfl⟩
   case fin =>
    intro vs wq hI1 hv
    have e4 : vs 4 = _ := hv 4 (by decide)
    have e14 : vs 14 = _ := hv 14 (by decide)
    clear hv
    simp only [putAll, List.drop_succ_cons, List.drop_zero, e4, e14, Act.put, List.setIfInBounds_toArray, List.set_cons_succ, List.set_cons_zero]
    clear e4 e14
    have hsr1 : (w.heap.size + 1) ≤ wq.heap.size := Cells.lt (hI1.at_ 1 rfl)
    clear hI hsr
    have hI := hI1
    have hsr := hsr1
    clear hI1 hsr1
    go_upto_region 6 with (fail)
    refine wp_region_cut 7 [32, 33, 34, 35, 36, 37, 38] (JIns [.cells w.heap.size 64 (ksC x), .low (.kss B A n l), .kept w w.heap.size]
     [.eq (.slice A' k c'), .eq (.agg (ksC x).toArray), .rd 20 1 (ksC x), .own (w.heap.size + 1) 64 20 (k + 1) ((((l.take k).map ksC).flatten) ++ ksC x), .eq (.slice A n c), .eq (.int .i64 k), .gen (fun _ v => ∃ A6 c6, v = .slice A6 (n - k) c6 ∧ ∀ W, All W [.cells w.heap.size 64 (ksC x), .low (.kss B A n l), .kept w w.heap.size] → Rd W B 20 A6 (n - k) (((l.drop k).map ksC).flatten)) (fun _ _ _ _ h => h)]
     (fun W => Go.Adm.Own W (w.heap.size + 1) 64 20 A' k c' (((l.take k).map ksC).flatten)) (w.heap.size + 1))
     (by kernel_rfl) (by kernel_rfl) ⟨JW.start ⟨hI.drew.at_ 1 rfl, hI.drew.at_ 2 rfl, hI.drew.at_ 3 rfl, trivial⟩, hsr, fun _ => hI.drew.at_ 0 rfl⟩ rfl ?hops ?fin
    case hops =>
     refine ⟨?_, ?_, ?_, ?_, ?_, ?_, ?_, trivial⟩
     ·refine ⟨rfl, ?_⟩
      intro a W L vs hJ hk hb0 hd K hK
      have b5 := hb0 5 rfl
      go_simp
      exact hK _ _ (hJ.quiet (World.grownBy.refl _ _) (by decide) (fun h => h) rfl)
     ·refine ⟨rfl, ?_⟩
      intro a W L vs hJ hk hb0 hd K hK
      have b3 := hb0 3 rfl
      refine wp_load_any 64 (.tmp 3) rfl ⟨w.heap.size, 0, none⟩ (show a.eval (.tmp 3) = _ from by simp only [Act.eval, Array.getD_eq_getD_getElem?]; exact b3) (ksC x) _ (Cells.sub (hJ.1.1.at_ 0 rfl) 0 (fun j u hu => by rw [Nat.zero_add]; exact hu)) Try.underlying64 rfl (by rw [HXX.out]; kernel_rfl) ?_
      exact hK _ _ (hJ.quiet (World.grownBy.refl _ _) (by decide) (fun h => h) rfl)
     ·refine ⟨rfl, ?_⟩
      intro a W L vs hJ hk hb0 hd K hK
      obtain ⟨h1, b33⟩ := hd ⟨1, .data⟩ (by simp) rfl
      replace b33 : a.tmps[33]?.getD undef = vs 1 := b33
      rw [show vs 1 = _ from hJ.1.get h1 (fun _ => by decide)] at b33
      refine wp_lit1 el_ks (.tmp 33) rfl (ksC x) (show a.eval (.tmp 33) = _ from by simp only [Act.eval, Array.getD_eq_getD_getElem?]; exact b33) HXX.out (by decide) ?_
      exact hK _ _ (hJ.quiet (grown_alloc _ _) (by decide) (fun h => h.alloc _) ⟨_, _, rfl, (Rd.lit W (ksC x).toArray _ 1 (by rw [List.size_toArray]; exact HXX.out)).mono (by simp)⟩)
     ·refine ⟨rfl, ?_⟩
      intro a W L vs hJ hk hb0 hd K hK
      obtain ⟨h0, b32⟩ := hd ⟨0, .data⟩ (by simp) rfl
      replace b32 : a.tmps[32]?.getD undef = vs 0 := b32
      rw [show vs 0 = _ from hJ.1.get h0 (fun _ => by decide)] at b32
      obtain ⟨h2, b34⟩ := hd ⟨2, .data⟩ (by simp) rfl
      replace b34 : a.tmps[34]?.getD undef = vs 2 := b34
      obtain ⟨A9, c9, e2, hrd⟩ : ∃ A9 c9, vs 2 = .slice A9 1 c9 ∧ Rd W W.heap.size 20 A9 1 (ksC x) := hJ.1.get h2 (fun h3 => by rw [hk] at h3; cases h3)
      rw [e2] at b34
      have hown := hJ.2.2 hk
      refine wp_app6 _ el_ks (.tmp 32) (.tmp 34) rfl (w.heap.size + 1) A' k c' _ (show a.eval (.tmp 32) = _ from by simp only [Act.eval, Array.getD_eq_getD_getElem?]; exact b32) hown W.heap.size A9 1 c9 (ksC x) (show a.eval (.tmp 34) = _ from by simp only [Act.eval, Array.getD_eq_getD_getElem?]; exact b34) hrd (ksC_one _) (by omega) hJ.2.1 ?_
      intro A3 c3 w3 hown3 hg3 hob3
      refine hK _ _ (hJ.write hg3 (HAP.out _ _ _ _ _ hown) hk ?_ ⟨Nat.le_trans hJ.2.1 hg3.size, A3, c3, rfl, hown3⟩)
      intro j u hb hne hf
      match j, hb, hne, hf with
      | 0, _, _, hf => exact hf
      | 1, _, _, hf => exact hf
      | 2, hb, _, _ => exact absurd hb (by decide)
      | 3, _, hne, _ => exact absurd rfl hne
      | 4, _, _, hf => exact hf
      | 5, _, _, hf => exact hf
      | 6, _, _, hf => exact hf
      | _ + 7, _, _, hf => exact hf
     ·refine ⟨rfl, ?_⟩
      intro a W L vs hJ hk hb0 hd K hK
      have b0 := hb0 0 rfl
      go_simp
      exact hK _ _ (hJ.quiet (World.grownBy.refl _ _) (by decide) (fun h => h) rfl)
     ·refine ⟨rfl, ?_⟩
      intro a W L vs hJ hk hb0 hd K hK
      have b6 := hb0 6 rfl
      go_simp
      exact hK _ _ (hJ.quiet (World.grownBy.refl _ _) (by decide) (fun h => h) rfl)
     ·refine ⟨rfl, ?_⟩
      intro a W L vs hJ hk hb0 hd K hK
      obtain ⟨h4, b36⟩ := hd ⟨4, .data⟩ (by simp) rfl
      replace b36 : a.tmps[36]?.getD undef = vs 4 := b36
      rw [show vs 4 = _ from hJ.1.get h4 (fun _ => by decide)] at b36
      obtain ⟨h5, b37⟩ := hd ⟨5, .data⟩ (by simp) rfl
      replace b37 : a.tmps[37]?.getD undef = vs 5 := b37
      rw [show vs 5 = _ from hJ.1.get h5 (fun _ => by decide)] at b37
      have d2 : 0 ≤ (k : Int) ∧ (k : Int) ≤ (n : Int) := by omega
      have d3 : ((k : Int)).toNat = k := by omega
      have hr : ∀ W, All W [.cells w.heap.size 64 (ksC x), .low (.kss B A n l), .kept w w.heap.size] → Rd W B 20 (if c = k then A else A.map (·.add (k * 20))) (n - k) (((l.drop k).map ksC).flatten) := fun W hW => by
       have hE : Kss W B A n l ∧ B ≤ W.heap.size := hW.at_ 1 rfl
       have := hE.1.els.rd.cut (k := k) (cap := c) (by omega) HNC.out
       rw [List.map_drop, ← flat_drop k HE20.out]
       exact this
      go_simp
      exact hK _ _ (hJ.quiet (World.grownBy.refl _ _) (by decide) (fun h => h) ⟨_, _, rfl, hr⟩)
    case fin =>
     intro vs W L hJ hall
     obtain ⟨hbs, A3, c3, e3, hown⟩ : (w.heap.size + 1) ≤ W.heap.size ∧ ∃ A3 c3, vs 3 = .slice A3 (k + 1) c3 ∧ Go.Adm.Own W (w.heap.size + 1) 64 20 A3 (k + 1) c3 ((((l.take k).map ksC).flatten) ++ ksC x) := hJ.1.get (hall 3 (by decide)) (fun _ => by decide)
     obtain ⟨A6, c6, e6, hrd⟩ : ∃ A6 c6, vs 6 = .slice A6 (n - k) c6 ∧ ∀ W, All W [.cells w.heap.size 64 (ksC x), .low (.kss B A n l), .kept w w.heap.size] → Rd W B 20 A6 (n - k) (((l.drop k).map ksC).flatten) := hJ.1.get (hall 6 (by decide)) (fun _ => by decide)
     have hW := hJ.1.1
     clear hJ hall
     simp only [putAll, List.drop_succ_cons, List.drop_zero, e3, e6, Act.put, List.setIfInBounds_toArray, List.set_cons_succ, List.set_cons_zero]
     clear e3 e6
     have hr := hrd W hW
     have ha := HAP.out _ _ _ _ _ hown
     clear hrd hI
     go_wp2_with (at_builtin; refine wl_app6 _ el_ks rfl (.tmp 35) (.tmp 38) rfl (w.heap.size + 1) A3 (k + 1) c3 _ rfl hown B A6 (n - k) c6 _ rfl hr (HONE.out _) (by omega) hbs ?_; intro A7 c7 w7 hown7 hg7 hob7)
     go_ret
     have hW7 := hW.step hg7 ha
     refine ⟨A7, c7, by rw [show k + 1 + (n - k) = n + 1 by omega]; rfl, ?_, (hW7.at_ 2 rfl : _ ∧ _).1⟩
     rw [HP.out]
     refine (hown7.less (by omega)).cast (by omega) ?_
     rw [List.map_append, List.map_cons, List.flatten_append, List.flatten_cons, List.append_assoc]

set_option maxHeartbeats 3200000 in
theorem refFindK_any (w : World) (B : Nat) (A : Option Addr) (n c : Nat) (l : List Ks) (d : List UInt8) (hl : Kss w B A n l) (hs : SortK l) (hd : d.length = 32) (hn2 : n ≤ 1000000) (hB : B ≤ w.heap.size) :
  Calls Try.prog 46 #[.slice A n c, .agg (d.map bv).toArray] w fun e w' => e = .returned (.int .i64 (findV l d)) ∧ Below w.heap.size w w' := by
 have hR : All w [.low (.kss B A n l), .kept w w.heap.size] := ⟨⟨hl, hB⟩, ⟨Below.refl _ _, Nat.le_refl _⟩, trivial⟩
 have HN := Lib.hid hl.len
 have HD := Lib.hid hd
 have HS := Lib.hid hs
 clear hl hd hs
 go_enter Try.func46, Try.ntmps46
 go_upto_region 1 with (fail)
 refine wp_gen (hR.new (l := d.map bv) _ 37 rfl rfl) ?_
 intro W1 hW1
 clear hR
 go_wp2_with fail
 go_loopw [5] (fun i wr => ∃ k : Nat, k ≤ n ∧ i = .int .i64 k ∧ Hid (∀ p (hp : p < l.length), p < k → idK l[p] ≠ d) ∧ All wr [.cells w.heap.size 37 (d.map bv), .low (.kss B A n l), .kept w w.heap.size]) (fun i _ => n - (intOf i).toNat)
 case atStart => exact ⟨0, by omega, rfl, Lib.hid (fun p hp h => absurd h (by omega)), hW1⟩
 case round =>
  clear hW1
  obtain ⟨k, hk, rfl, HA, hI⟩ := hrel
  by_cases hlt : k < n
  ·have d1 : decide ((k : Int) < (n : Int)) = true := by simp; omega
   have hkl : k < l.length := by rw [HN.out]; exact hlt
   have hbl := (hI.at_ 1 rfl : Kss wr B A n l ∧ B ≤ wr.heap.size)
   obtain ⟨ad, rfl, hadB, hc⟩ := Els.elem hbl.1.els hkl
   have hy := Lib.hid (hbl.1.each _ (List.getElem_mem hkl)).r16
   have HY : Hid (∀ W, All W [.cells w.heap.size 37 (d.map bv), .low (.kss B (some ad) n l), .kept w w.heap.size] → ∀ q s, (ksC l[k])[q]? = some s → W.cell? ((ad.add (k * 20)).add q) = some s) := Lib.hid (fun W hW => by
    obtain ⟨ad', e, _, hc⟩ := Els.elem (hW.at_ 1 rfl : Kss W B (some ad) n l ∧ B ≤ W.heap.size).1.els hkl
    obtain rfl := Option.some.inj e
    exact hc)
   have HYES : Hid (idK l[k] = d → hasK l d = true ∧ placeK l d = k) := Lib.hid (fun he => ⟨hasK_some hkl he, placeK_eq (by omega) (fun p hp hpk => by rw [← he]; exact HS.out p k hpk hkl) (fun _ => by rw [he]; exact lessD_irrefl d)⟩)
   have HNO : Hid (idK l[k] ≠ d → ∀ p (hp : p < l.length), p < k + 1 → idK l[p] ≠ d) := Lib.hid (fun hne p hp hpk => by
    rcases Nat.lt_succ_iff_lt_or_eq.1 hpk with h | h
    ·exact HA.out p hp h
    ·subst h; exact hne)
   clear hc hbl
   generalize l[k] = y at *
   have wk0 : (0 : Int) ≤ (k : Int) := by omega
   have wk1 : (k : Int) < (n : Int) := by omega
   have wk2 : ((k : Int)).toNat = k := by omega
   go_upto_region 4 with (fail)
   refine wp_region_hops 7 [12, 13, 14, 15, 16, 17, 18] [.cells w.heap.size 37 (d.map bv), .low (.kss B (some ad) n l), .kept w w.heap.size]
    [.eq (.slice (some ad) n c), .eq (.int .i64 k), .eq (.pointer (some (ad.add (k * 20)))), .eq (.pointer (some (ad.add (k * 20)))), .eq (.agg (pkCells y.h y.r).toArray), .eq (.agg ((idK y).map bv).toArray), .eq (.agg (d.map bv).toArray)]
    (by kernel_rfl) (by kernel_rfl) hI rfl ?hops ?fin
   case hops =>
    refine ⟨?_, ?_, ?_, ?_, ?_, ?_, ?_, trivial⟩
    ·intro a W hW hb hd K hK
     have b0 := hb 0 rfl
     go_simp
     exact hK _ _ (World.grownBy.refl _ _) rfl
    ·intro a W hW hb hd K hK
     have b5 := hb 5 rfl
     go_simp
     exact hK _ _ (World.grownBy.refl _ _) rfl
    ·intro a W hW hb hd K hK
     have b12 : a.tmps[12]?.getD undef = _ := hd ⟨0, .data⟩ (by simp) rfl
     have b13 : a.tmps[13]?.getD undef = _ := hd ⟨1, .data⟩ (by simp) rfl
     go_simp
     exact hK _ _ (World.grownBy.refl _ _) rfl
    ·intro a W hW hb hd K hK
     have b14 : a.tmps[14]?.getD undef = _ := hd ⟨2, .data⟩ (by simp) rfl
     go_simp
     exact hK _ _ (World.grownBy.refl _ _) (by first | rfl | (rw [add_zero]; rfl) | (simp [add_zero]; rfl))
    ·intro a W hW hb hd K hK
     have b15 : a.tmps[15]?.getD undef = _ := hd ⟨3, .data⟩ (by simp) rfl
     refine wp_load_any 62 (.tmp 15) rfl (ad.add (k * 20)) (show a.eval (.tmp 15) = _ from by simp only [Act.eval, Array.getD_eq_getD_getElem?]; exact b15) (pkCells y.h y.r) _ (fun q s hs => HY.out W hW q s (by have := ks_pk y q s hs; rwa [Nat.zero_add] at this)) Try.underlying62 rfl (by rw [pkLen hy.out]; kernel_rfl) ?_
     exact hK _ _ (World.grownBy.refl _ _) rfl
    ·intro a W hW hb hd K hK
     have b16 : a.tmps[16]?.getD undef = _ := hd ⟨4, .data⟩ (by simp) rfl
     have hid : ∀ W, Calls Try.prog 32 #[.agg (pkCells y.h y.r).toArray] W fun e w' => e = .returned (.agg ((idK y).map bv).toArray) ∧ Below W.heap.size W w' := fun W => refID_any W y.h y.r hy.out
     go_simp
     refine (hid W).mono ?_
     rintro e w' ⟨rfl, hb'⟩
     exact hK _ _ (grown_of_below hb') rfl
    ·intro a W hW hb hd K hK
     have b3 := hb 3 rfl
     refine wp_load_any 37 (.tmp 3) rfl ⟨w.heap.size, 0, none⟩ (show a.eval (.tmp 3) = _ from by simp only [Act.eval, Array.getD_eq_getD_getElem?]; exact b3) (d.map bv) _ (Cells.sub (hW.at_ 0 rfl) 0 (fun j u h => by rwa [Nat.zero_add])) Try.underlying37 rfl (by rw [List.length_map, HD.out]; kernel_rfl) ?_
     exact hK _ _ (World.grownBy.refl _ _) rfl
   case fin =>
    intro vs V hV hv
    have e5 : vs 5 = _ := hv 5 (by decide)
    have e6 : vs 6 = _ := hv 6 (by decide)
    clear hv hI
    simp only [putAll, List.drop_succ_cons, List.drop_zero, e5, e6, Act.put, List.setIfInBounds_toArray, List.set_cons_succ, List.set_cons_zero]
    clear e5 e6
    by_cases he : idK y = d
    ·have hF := HYES.out he
     have HF1 := Lib.hid hF.1
     have HF2 := Lib.hid hF.2
     have heq : ∀ W, (binOp .eql 37 (.agg ((idK y).map bv).toArray) (.agg (d.map bv).toArray)).run Try.prog W = .ok (.bool true) W := fun W => by rw [eq_dg W _ d (idK_len y) HD.out]; simp [he]
     clear he hF
     go_wp2_with fail
     go_ret
     exact ⟨by rw [findV_yes HF1.out HF2.out]; rfl, (hV.at_ 2 rfl : _ ∧ _).1⟩
    ·have HF := Lib.hid (HNO.out he)
     have heq : ∀ W, (binOp .eql 37 (.agg ((idK y).map bv).toArray) (.agg (d.map bv).toArray)).run Try.prog W = .ok (.bool false) W := fun W => by rw [eq_dg W _ d (idK_len y) HD.out]; simp [he]
     clear he
     go_wp2_with fail
     exact ⟨⟨k + 1, by omega, by go_num, HF, hV⟩, by simp [intOf]; omega⟩
  ·obtain rfl : k = n := by omega
   have d1 : decide ((k : Int) < (k : Int)) = false := by simp
   have HF : Hid (hasK l d = false) := Lib.hid (by
    cases hq : hasK l d with
    | false => rfl
    | true =>
     obtain ⟨s, hs, he⟩ := hasG_iff.1 hq
     obtain ⟨y, hy, rfl⟩ := List.mem_map.1 hs
     obtain ⟨p, hp, rfl⟩ := List.getElem_of_mem hy
     exact absurd he (HA.out p hp (by rw [← HN.out]; exact hp)))
   go_wp2_with fail
   go_ret
   exact ⟨by rw [findV_no HF.out]; rfl, (hI.at_ 2 rfl : _ ∧ _).1⟩
end Go.Proofs.Ytfakjamocpamiaa

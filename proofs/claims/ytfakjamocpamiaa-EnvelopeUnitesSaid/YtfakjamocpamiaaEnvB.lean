/- Where a key belongs among the signatures: the binary search. -/
import Derived.Test.YtfakjamocpamiaaEnvA
import Derived.Test.YtfakjamocpamiaaEnvS
set_option linter.unusedSimpArgs false
set_option linter.unusedVariables false
set_option maxRecDepth 100000
namespace Go.Adm
open Go Go.RowKit
/-- signatures in the order of their keys -/
def SortK (l : List Ks) : Prop := ∀ i j (hi : i < j) (hj : j < l.length), lessD (idK (l[i]'(Nat.lt_trans hi hj))) (idK l[j]) = true
theorem sortK_iff {l : List Ks} : SortK l ↔ SortG (l.map Ks.s) := by
 constructor
 ·intro h
  refine List.pairwise_iff_getElem.2 (fun i j hi hj hij => ?_)
  rw [List.length_map] at hi hj
  rw [List.getElem_map, List.getElem_map]
  exact h i j hij hj
 ·intro h i j hi hj
  have := List.pairwise_iff_getElem.1 h i j (by rw [List.length_map]; omega) (by rw [List.length_map]; exact hj) hi
  rw [List.getElem_map, List.getElem_map] at this
  exact this
def placeK (l : List Ks) (d : List UInt8) : Nat := placeG (l.map Ks.s) d
def hasK (l : List Ks) (d : List UInt8) : Bool := hasG (l.map Ks.s) d
theorem placeK_le (l : List Ks) (d : List UInt8) : placeK l d ≤ l.length := by
 have := placeG_le (l.map Ks.s) d
 rwa [List.length_map] at this
theorem placeK_eq {l : List Ks} {d : List UInt8} {k : Nat} (hk : k ≤ l.length) (h1 : ∀ p (hp : p < l.length), p < k → lessD (idK l[p]) d = true) (h2 : ∀ (hk : k < l.length), lessD (idK l[k]) d = false) : placeK l d = k :=
 placeG_eq (by rw [List.length_map]; exact hk) (fun p hp hpk => by rw [List.length_map] at hp; rw [List.getElem_map]; exact h1 p hp hpk) (fun hq => by rw [List.length_map] at hq; rw [List.getElem_map]; exact h2 hq)
theorem hasK_some {l : List Ks} {d : List UInt8} {k : Nat} (hk : k < l.length) (he : idK l[k] = d) : hasK l d = true :=
 hasG_iff.2 ⟨l[k].s, List.mem_map_of_mem (List.getElem_mem hk), he⟩
theorem hasK_none {l : List Ks} {d : List UInt8} {k : Nat} (hs : SortK l) (h1 : ∀ p (hp : p < l.length), p < k → lessD (idK l[p]) d = true) (h2 : ∀ (hk : k < l.length), lessD (idK l[k]) d = false ∧ idK l[k] ≠ d) : hasK l d = false := by
 cases hq : hasK l d with
 | false => rfl
 | true =>
  obtain ⟨x, hx, he⟩ := hasG_iff.1 hq
  obtain ⟨y, hy, rfl⟩ := List.mem_map.1 hx
  obtain ⟨p, hp, rfl⟩ := List.getElem_of_mem hy
  have he' : idK l[p] = d := he
  rcases Nat.lt_trichotomy p k with h | h | h
  ·have := h1 p hp h
   rw [he', lessD_irrefl] at this; cases this
  ·subst h; exact absurd he' (h2 hp).2
  ·have h3 := hs k p h hp
   rw [he', (h2 (by omega)).1] at h3; cases h3
end Go.Adm
namespace Go.Proofs.Ytfakjamocpamiaa
open Go Go.RowKit Go.Adm

set_option maxHeartbeats 3200000 in
theorem searchK_any (w : World) (B : Nat) (A : Option Addr) (n c : Nat) (l : List Ks) (d : List UInt8) (hl : Kss w B A n l) (hs : SortK l) (hd : d.length = 32) (hn2 : n ≤ 1000000) (hB : B ≤ w.heap.size) :
  Calls Try.prog 41 #[.slice A n c, .agg (d.map bv).toArray, (.func (.func 27) #[] #[])] w fun e w' => e = .returned (.tuple #[.int .i64 (placeK l d : Nat), .bool (hasK l d)]) ∧ Below w.heap.size w w' := by
 have hR : All w [.low (.kss B A n l), .kept w w.heap.size] := ⟨⟨hl, hB⟩, ⟨Below.refl _ _, Nat.le_refl _⟩, trivial⟩
 have HN := Lib.hid hl.len
 have HD := Lib.hid hd
 have HS := Lib.hid hs
 clear hl hd hs
 go_enter Try.func41, Try.ntmps41
 go_upto_region 1 with (fail)
 refine wp_gen (hR.new (l := d.map bv) _ 37 rfl rfl) ?_
 intro W1 hW1
 clear hR
 go_wp2
 go_loopw [9, 10, 11] (fun i j _ wr => ∃ a b : Nat, a ≤ b ∧ b ≤ n ∧ i = .int .i64 a ∧ j = .int .i64 b ∧ Hid (∀ p (hp : p < l.length), p < a → lessD (idK l[p]) d = true) ∧ Hid (∀ p (hp : p < l.length), b ≤ p → lessD (idK l[p]) d = false) ∧ All wr [.cells w.heap.size 37 (d.map bv), .low (.kss B A n l), .kept w w.heap.size]) (fun i j _ _ => (intOf j).toNat - (intOf i).toNat)
 case atStart => exact ⟨0, n, by omega, Nat.le_refl _, rfl, rfl, Lib.hid (fun p hp h => absurd h (by omega)), Lib.hid (fun p hp h => absurd hp (by have := HN.out; omega)), hW1⟩
 case round =>
  clear hW1
  obtain ⟨i, j, hij, hjn, rfl, rfl, HA, HB, hI⟩ := hrel
  by_cases hlt : i < j
  ·obtain ⟨h, hh⟩ : ∃ h, h = (i + j) / 2 := ⟨_, rfl⟩
   have hhi : i ≤ h := by omega
   have hhj : h < j := by omega
   have hkl : h < l.length := by rw [HN.out]; omega
   have hbl := (hI.at_ 1 rfl : Kss wr B A n l ∧ B ≤ wr.heap.size)
   obtain ⟨ad, rfl, hadB, hc⟩ := Els.elem hbl.1.els hkl
   have HX : Hid (∀ W, All W [.cells w.heap.size 37 (d.map bv), .low (.kss B (some ad) n l), .kept w w.heap.size] → ∀ q s, (ksC l[h])[q]? = some s → W.cell? ((ad.add (h * 20)).add q) = some s) := Lib.hid (fun W hW => by
    obtain ⟨ad', e, _, hc⟩ := Els.elem (hW.at_ 1 rfl : Kss W B (some ad) n l ∧ B ≤ W.heap.size).1.els hkl
    obtain rfl := Option.some.inj e
    exact hc)
   have hx := Lib.hid (hbl.1.each _ (List.getElem_mem hkl)).r16
   have HLESS : Hid (lessD (idK l[h]) d = true → ∀ p (hp : p < l.length), p < h + 1 → lessD (idK l[p]) d = true) := Lib.hid (fun hq p hp hph => by
    rcases Nat.lt_or_eq_of_le (Nat.le_of_lt_succ hph) with h1 | h1
    ·exact lessD_trans (HS.out p h h1 hkl) hq
    ·subst h1; exact hq)
   have HMORE : Hid (lessD (idK l[h]) d = false → ∀ p (hp : p < l.length), h ≤ p → lessD (idK l[p]) d = false) := Lib.hid (fun hq p hp hph => by
    rcases Nat.lt_or_eq_of_le hph with h1 | h1
    ·cases hz : lessD (idK l[p]) d with
     | false => rfl
     | true => rw [lessD_trans (HS.out h p h1 hp) hz] at hq; cases hq
    ·subst h1; exact hq)
   clear hc hbl
   generalize l[h] = x at *
   have d1 : decide ((i : Int) < (j : Int)) = true := by simp; omega
   have w1 : IntKind.i64.wrap ((i : Int) + (j : Int)) = ((i + j : Nat) : Int) := by rw [IntWalk.i64_in _ (by have := HN.out; omega)]; omega
   have wk0 : (0 : Int) ≤ (h : Int) := by omega
   have wk1 : (h : Int) < (n : Int) := by omega
   have wk2 : ((h : Int)).toNat = h := by omega
   obtain ⟨v, hv⟩ : ∃ v, Lib.compareBytes (idK x) d = v := ⟨_, rfl⟩
   have HV := Lib.hid hv
   have HL : Hid (lessD (idK x) d = decide (v < 0)) := Lib.hid (by rw [lessD, hv])
   clear hv
   have w2 : IntKind.u64.wrap ((i + j : Nat) : Int) = ((i + j : Nat) : Int) := IntWalk.u64_in _ (by omega)
   have w3 : ((i : Int) + (j : Int)) / 2 = (h : Int) := by omega
   have hh1 : 2 * h ≤ i + j := by omega
   have hh2 : i + j ≤ 2 * h + 1 := by omega
   clear hh
   have w4 : IntKind.i64.wrap (h : Int) = (h : Int) := IntWalk.i64_in _ (by omega)
   go_upto_region 5 with (fail)
   refine wp_region_hops 7 [24, 25, 26, 27, 28, 29, 30] [.cells w.heap.size 37 (d.map bv), .low (.kss B (some ad) n l), .kept w w.heap.size]
    [.eq (.func (.func 27) #[] #[]), .eq (.slice (some ad) n c), .eq (.int .i64 h), .eq (.pointer (some (ad.add (h * 20)))), .eq (.agg (ksC x).toArray), .eq (.agg (d.map bv).toArray), .eq (.int .i64 v)]
    (by kernel_rfl) (by kernel_rfl) hI rfl ?hops ?fin
   case hops =>
    refine ⟨?_, ?_, ?_, ?_, ?_, ?_, ?_, trivial⟩
    ·intro a W hW hb hd K hK
     have b2 := hb 2 rfl
     go_simp
     exact hK _ _ (World.grownBy.refl _ _) rfl
    ·intro a W hW hb hd K hK
     have b0 := hb 0 rfl
     go_simp
     exact hK _ _ (World.grownBy.refl _ _) rfl
    ·intro a W hW hb hd K hK
     have b11 := hb 11 rfl
     go_simp
     exact hK _ _ (World.grownBy.refl _ _) rfl
    ·intro a W hW hb hd K hK
     have b25 : a.tmps[25]?.getD undef = _ := hd ⟨1, .data⟩ (by simp) rfl
     have b26 : a.tmps[26]?.getD undef = _ := hd ⟨2, .data⟩ (by simp) rfl
     go_simp
     exact hK _ _ (World.grownBy.refl _ _) rfl
    ·intro a W hW hb hd K hK
     have b27 : a.tmps[27]?.getD undef = _ := hd ⟨3, .data⟩ (by simp) rfl
     refine wp_load_any 64 (.tmp 27) rfl (ad.add (h * 20)) (show a.eval (.tmp 27) = _ from by simp only [Act.eval, Array.getD_eq_getD_getElem?]; exact b27) (ksC x) _ (HX.out W hW) Try.underlying64 rfl (by rw [ksC_len hx.out]; kernel_rfl) ?_
     exact hK _ _ (World.grownBy.refl _ _) rfl
    ·intro a W hW hb hd K hK
     have b4 := hb 4 rfl
     refine wp_load_any 37 (.tmp 4) rfl ⟨w.heap.size, 0, none⟩ (show a.eval (.tmp 4) = _ from by simp only [Act.eval, Array.getD_eq_getD_getElem?]; exact b4) (d.map bv) _ (Cells.sub (hW.at_ 0 rfl) 0 (fun j u h => by rwa [Nat.zero_add])) Try.underlying37 rfl (by rw [List.length_map, HD.out]; kernel_rfl) ?_
     exact hK _ _ (World.grownBy.refl _ _) rfl
    ·intro a W hW hb hd K hK
     have b24 : a.tmps[24]?.getD undef = _ := hd ⟨0, .data⟩ (by simp) rfl
     have b28 : a.tmps[28]?.getD undef = _ := hd ⟨4, .data⟩ (by simp) rfl
     have b29 : a.tmps[29]?.getD undef = _ := hd ⟨5, .data⟩ (by simp) rfl
     go_simp
     refine (named_any W x d hx.out HD.out).mono ?_
     rintro e w' ⟨rfl, hb'⟩
     exact hK _ _ (grown_of_below hb') (congrArg (Value.int .i64) HV.out)
   case fin =>
    intro vs V hV hv
    have e6 : vs 6 = _ := hv 6 (by decide)
    clear hv
    simp only [putAll, List.drop_succ_cons, List.drop_zero, e6, Act.put, List.setIfInBounds_toArray, List.set_cons_succ, List.set_cons_zero]
    clear e6
    cases hb : decide (v < 0) with
     | true =>
      have HF := Lib.hid (HLESS.out (by rw [HL.out, hb]))
      have w5 : IntKind.i64.wrap ((h : Int) + 1) = ((h + 1 : Nat) : Int) := by rw [IntWalk.i64_in _ (by omega)]; omega
      go_wp2_with fail
      exact ⟨⟨h + 1, j, by omega, hjn, rfl, rfl, HF, HB, hV⟩, by simp [intOf]; omega⟩
     | false =>
      have HF := Lib.hid (HMORE.out (by rw [HL.out, hb]))
      go_wp2_with fail
      exact ⟨⟨i, h, by omega, by omega, rfl, rfl, HA, HF, hV⟩, by simp [intOf]; omega⟩
  ·obtain rfl : i = j := by omega
   have d1 : decide ((i : Int) < (i : Int)) = false := by simp
   have HP : Hid (placeK l d = i) := Lib.hid (placeK_eq (by rw [HN.out]; exact hjn) HA.out (fun hk => HB.out i hk (Nat.le_refl _)))
   by_cases hin : i < n
   ·have hkl : i < l.length := by rw [HN.out]; exact hin
    have hbl := (hI.at_ 1 rfl : Kss wr B A n l ∧ B ≤ wr.heap.size)
    obtain ⟨ad, rfl, hadB, hc⟩ := Els.elem hbl.1.els hkl
    have HX : Hid (∀ W, All W [.cells w.heap.size 37 (d.map bv), .low (.kss B (some ad) n l), .kept w w.heap.size] → ∀ q s, (ksC l[i])[q]? = some s → W.cell? ((ad.add (i * 20)).add q) = some s) := Lib.hid (fun W hW => by
     obtain ⟨ad', e, _, hc⟩ := Els.elem (hW.at_ 1 rfl : Kss W B (some ad) n l ∧ B ≤ W.heap.size).1.els hkl
     obtain rfl := Option.some.inj e
     exact hc)
    have hx := Lib.hid (hbl.1.each _ (List.getElem_mem hkl)).r16
    have HE : Hid (idK l[i] = d → hasK l d = true) := Lib.hid (fun he => hasK_some hkl he)
    have HNE : Hid (idK l[i] ≠ d → hasK l d = false) := Lib.hid (fun he => hasK_none HS.out HA.out (fun hk => ⟨HB.out i hk (Nat.le_refl _), he⟩))
    clear hc hbl
    generalize l[i] = x at *
    have d2 : decide ((i : Int) < (n : Int)) = true := by simp; omega
    have wk0 : (0 : Int) ≤ (i : Int) := by omega
    have wk1 : (i : Int) < (n : Int) := by omega
    have wk2 : ((i : Int)).toNat = i := by omega
    obtain ⟨v, hv⟩ : ∃ v, Lib.compareBytes (idK x) d = v := ⟨_, rfl⟩
    have HV := Lib.hid hv
    have HZ : Hid (v = 0 ↔ idK x = d) := Lib.hid (by rw [← hv]; exact lessD_cmp)
    clear hv
    go_upto_region 8 with (fail)
    cases hb : (v == 0) with
    | true =>
     have HF := Lib.hid (HE.out (HZ.out.1 (eq_of_beq hb)))
     refine wp_region_hopsH 15 (35 :: 36 :: 37 :: 38 :: 39 :: 40 :: 41 :: 42 :: 43 :: 44 :: 45 :: 46 :: 47 :: 48 :: 6 :: []) [.cells w.heap.size 37 (d.map bv), .low (.kss B (some ad) n l), .kept w w.heap.size]
      (.eq (.int .i64 i) :: .eq (.int .i64 i) :: .eq (.int .i64 n) :: .eq (.bool true) :: .eq (.bool true) :: .eq (.func (.func 27) #[] #[]) :: .eq (.slice (some ad) n c) :: .eq (.int .i64 i) :: .eq (.pointer (some (ad.add (i * 20)))) :: .eq (.agg (ksC x).toArray) :: .eq (.agg (d.map bv).toArray) :: .eq (.int .i64 v) :: .eq (.bool true) :: .eq (.bool true) :: .eq (.int .i64 i) :: [])
      (by kernel_rfl) (by kernel_rfl) hI rfl ?hops ?fin
     case hops =>
      refine ⟨?_, ?_, ?_, ?_, ?_, ?_, ?_, ?_, ?_, ?_, ?_, ?_, ?_, ?_, ?_, trivial⟩
      ·intro a W hW hb hd K hK
       have b9 := hb 9 rfl
       go_simp
       exact hK _ _ (World.grownBy.refl _ _) rfl
      ·intro a W hW hb hd K hK
       have b9 := hb 9 rfl
       go_simp
       exact hK _ _ (World.grownBy.refl _ _) rfl
      ·intro a W hW hb hd K hK
       have b8 := hb 8 rfl
       go_simp
       exact hK _ _ (World.grownBy.refl _ _) rfl
      ·intro a W hW hb hd K hK
       have b36 : a.tmps[36]?.getD undef = _ := hd ⟨1, .data⟩ (by simp) rfl
       have b37 : a.tmps[37]?.getD undef = _ := hd ⟨2, .data⟩ (by simp) rfl
       go_simp
       exact hK _ _ (World.grownBy.refl _ _) rfl
      ·intro a W hW hb hd K hK
       have b38 : a.tmps[38]?.getD undef = _ := hd ⟨3, .data⟩ (by simp) rfl
       go_simp
       exact hK _ _ (World.grownBy.refl _ _) rfl
      ·refine Or.inl ⟨fun v w h => h, ?_⟩
       intro a W hW hb hd K hK
       have b2 := hb 2 rfl
       go_simp
       exact hK _ _ (World.grownBy.refl _ _) rfl
      ·refine Or.inl ⟨fun v w h => h, ?_⟩
       intro a W hW hb hd K hK
       have b0 := hb 0 rfl
       go_simp
       exact hK _ _ (World.grownBy.refl _ _) rfl
      ·refine Or.inl ⟨fun v w h => h, ?_⟩
       intro a W hW hb hd K hK
       have b9 := hb 9 rfl
       go_simp
       exact hK _ _ (World.grownBy.refl _ _) rfl
      ·refine Or.inl ⟨fun v w h => h, ?_⟩
       intro a W hW hb hd K hK
       have b41 : a.tmps[41]?.getD undef = _ := hd ⟨6, .data⟩ (by simp) rfl
       have b42 : a.tmps[42]?.getD undef = _ := hd ⟨7, .data⟩ (by simp) rfl
       go_simp
       exact hK _ _ (World.grownBy.refl _ _) rfl
      ·refine Or.inl ⟨fun v w h => h, ?_⟩
       intro a W hW hb hd K hK
       have b43 : a.tmps[43]?.getD undef = _ := hd ⟨8, .data⟩ (by simp) rfl
       refine wp_load_any 64 (.tmp 43) rfl (ad.add (i * 20)) (show a.eval (.tmp 43) = _ from by simp only [Act.eval, Array.getD_eq_getD_getElem?]; exact b43) (ksC x) _ (HX.out W hW) Try.underlying64 rfl (by rw [ksC_len hx.out]; kernel_rfl) ?_
       exact hK _ _ (World.grownBy.refl _ _) rfl
      ·refine Or.inl ⟨fun v w h => h, ?_⟩
       intro a W hW hb hd K hK
       have b4 := hb 4 rfl
       refine wp_load_any 37 (.tmp 4) rfl ⟨w.heap.size, 0, none⟩ (show a.eval (.tmp 4) = _ from by simp only [Act.eval, Array.getD_eq_getD_getElem?]; exact b4) (d.map bv) _ (Cells.sub (hW.at_ 0 rfl) 0 (fun j u h => by rwa [Nat.zero_add])) Try.underlying37 rfl (by rw [List.length_map, HD.out]; kernel_rfl) ?_
       exact hK _ _ (World.grownBy.refl _ _) rfl
      ·refine Or.inl ⟨fun v w h => h, ?_⟩
       intro a W hW hb hd K hK
       have b40 : a.tmps[40]?.getD undef = _ := hd ⟨5, .data⟩ (by simp) rfl
       have b44 : a.tmps[44]?.getD undef = _ := hd ⟨9, .data⟩ (by simp) rfl
       have b45 : a.tmps[45]?.getD undef = _ := hd ⟨10, .data⟩ (by simp) rfl
       go_simp
       refine (named_any W x d hx.out HD.out).mono ?_
       rintro e w' ⟨rfl, hb'⟩
       exact hK _ _ (grown_of_below hb') (congrArg (Value.int .i64) HV.out)
      ·refine Or.inl ⟨fun v w h => h, ?_⟩
       intro a W hW hb hd K hK
       have b46 : a.tmps[46]?.getD undef = _ := hd ⟨11, .data⟩ (by simp) rfl
       go_simp
       exact hK _ _ (World.grownBy.refl _ _) rfl
      ·intro a W hW hb hd K hK
       have b39 : a.tmps[39]?.getD undef = _ := hd ⟨4, .data⟩ (by simp) rfl
       have b47 : a.tmps[47]?.getD undef = _ := hd ⟨12, .data⟩ (by simp) rfl
       go_simp
       exact hK _ _ (World.grownBy.refl _ _) rfl
      ·intro a W hW hb hd K hK
       have b35 : a.tmps[35]?.getD undef = _ := hd ⟨0, .data⟩ (by simp) rfl
       go_simp
       exact hK _ _ (World.grownBy.refl _ _) rfl
     case fin =>
      intro vs V hV hv
      have e0 : vs 0 = _ := hv 0 (by decide)
      have e13 : vs 13 = _ := hv 13 (by decide)
      have e14 : vs 14 = _ := hv 14 (by decide)
      clear hv
      simp only [putAll, List.drop_succ_cons, List.drop_zero, e0, e13, e14, Act.put, List.setIfInBounds_toArray, List.set_cons_succ, List.set_cons_zero]
      clear e0 e13 e14
      go_wp2_with fail
      go_ret2
      exact ⟨by rw [HP.out, HF.out]; rfl, (hV.at_ 2 rfl : _ ∧ _).1⟩
    | false =>
     have HF := Lib.hid (HNE.out (fun h => by rw [HZ.out.2 h] at hb; exact absurd hb (by decide)))
     refine wp_region_hopsH 15 (35 :: 36 :: 37 :: 38 :: 39 :: 40 :: 41 :: 42 :: 43 :: 44 :: 45 :: 46 :: 47 :: 48 :: 6 :: []) [.cells w.heap.size 37 (d.map bv), .low (.kss B (some ad) n l), .kept w w.heap.size]
      (.eq (.int .i64 i) :: .eq (.int .i64 i) :: .eq (.int .i64 n) :: .eq (.bool true) :: .eq (.bool true) :: .eq (.func (.func 27) #[] #[]) :: .eq (.slice (some ad) n c) :: .eq (.int .i64 i) :: .eq (.pointer (some (ad.add (i * 20)))) :: .eq (.agg (ksC x).toArray) :: .eq (.agg (d.map bv).toArray) :: .eq (.int .i64 v) :: .eq (.bool false) :: .eq (.bool false) :: .eq (.int .i64 i) :: [])
      (by kernel_rfl) (by kernel_rfl) hI rfl ?hops ?fin
     case hops =>
      refine ⟨?_, ?_, ?_, ?_, ?_, ?_, ?_, ?_, ?_, ?_, ?_, ?_, ?_, ?_, ?_, trivial⟩
      ·intro a W hW hb hd K hK
       have b9 := hb 9 rfl
       go_simp
       exact hK _ _ (World.grownBy.refl _ _) rfl
      ·intro a W hW hb hd K hK
       have b9 := hb 9 rfl
       go_simp
       exact hK _ _ (World.grownBy.refl _ _) rfl
      ·intro a W hW hb hd K hK
       have b8 := hb 8 rfl
       go_simp
       exact hK _ _ (World.grownBy.refl _ _) rfl
      ·intro a W hW hb hd K hK
       have b36 : a.tmps[36]?.getD undef = _ := hd ⟨1, .data⟩ (by simp) rfl
       have b37 : a.tmps[37]?.getD undef = _ := hd ⟨2, .data⟩ (by simp) rfl
       go_simp
       exact hK _ _ (World.grownBy.refl _ _) rfl
      ·intro a W hW hb hd K hK
       have b38 : a.tmps[38]?.getD undef = _ := hd ⟨3, .data⟩ (by simp) rfl
       go_simp
       exact hK _ _ (World.grownBy.refl _ _) rfl
      ·refine Or.inl ⟨fun v w h => h, ?_⟩
       intro a W hW hb hd K hK
       have b2 := hb 2 rfl
       go_simp
       exact hK _ _ (World.grownBy.refl _ _) rfl
      ·refine Or.inl ⟨fun v w h => h, ?_⟩
       intro a W hW hb hd K hK
       have b0 := hb 0 rfl
       go_simp
       exact hK _ _ (World.grownBy.refl _ _) rfl
      ·refine Or.inl ⟨fun v w h => h, ?_⟩
       intro a W hW hb hd K hK
       have b9 := hb 9 rfl
       go_simp
       exact hK _ _ (World.grownBy.refl _ _) rfl
      ·refine Or.inl ⟨fun v w h => h, ?_⟩
       intro a W hW hb hd K hK
       have b41 : a.tmps[41]?.getD undef = _ := hd ⟨6, .data⟩ (by simp) rfl
       have b42 : a.tmps[42]?.getD undef = _ := hd ⟨7, .data⟩ (by simp) rfl
       go_simp
       exact hK _ _ (World.grownBy.refl _ _) rfl
      ·refine Or.inl ⟨fun v w h => h, ?_⟩
       intro a W hW hb hd K hK
       have b43 : a.tmps[43]?.getD undef = _ := hd ⟨8, .data⟩ (by simp) rfl
       refine wp_load_any 64 (.tmp 43) rfl (ad.add (i * 20)) (show a.eval (.tmp 43) = _ from by simp only [Act.eval, Array.getD_eq_getD_getElem?]; exact b43) (ksC x) _ (HX.out W hW) Try.underlying64 rfl (by rw [ksC_len hx.out]; kernel_rfl) ?_
       exact hK _ _ (World.grownBy.refl _ _) rfl
      ·refine Or.inl ⟨fun v w h => h, ?_⟩
       intro a W hW hb hd K hK
       have b4 := hb 4 rfl
       refine wp_load_any 37 (.tmp 4) rfl ⟨w.heap.size, 0, none⟩ (show a.eval (.tmp 4) = _ from by simp only [Act.eval, Array.getD_eq_getD_getElem?]; exact b4) (d.map bv) _ (Cells.sub (hW.at_ 0 rfl) 0 (fun j u h => by rwa [Nat.zero_add])) Try.underlying37 rfl (by rw [List.length_map, HD.out]; kernel_rfl) ?_
       exact hK _ _ (World.grownBy.refl _ _) rfl
      ·refine Or.inl ⟨fun v w h => h, ?_⟩
       intro a W hW hb hd K hK
       have b40 : a.tmps[40]?.getD undef = _ := hd ⟨5, .data⟩ (by simp) rfl
       have b44 : a.tmps[44]?.getD undef = _ := hd ⟨9, .data⟩ (by simp) rfl
       have b45 : a.tmps[45]?.getD undef = _ := hd ⟨10, .data⟩ (by simp) rfl
       go_simp
       refine (named_any W x d hx.out HD.out).mono ?_
       rintro e w' ⟨rfl, hb'⟩
       exact hK _ _ (grown_of_below hb') (congrArg (Value.int .i64) HV.out)
      ·refine Or.inl ⟨fun v w h => h, ?_⟩
       intro a W hW hb hd K hK
       have b46 : a.tmps[46]?.getD undef = _ := hd ⟨11, .data⟩ (by simp) rfl
       go_simp
       exact hK _ _ (World.grownBy.refl _ _) rfl
      ·intro a W hW hb hd K hK
       have b39 : a.tmps[39]?.getD undef = _ := hd ⟨4, .data⟩ (by simp) rfl
       have b47 : a.tmps[47]?.getD undef = _ := hd ⟨12, .data⟩ (by simp) rfl
       go_simp
       exact hK _ _ (World.grownBy.refl _ _) rfl
      ·intro a W hW hb hd K hK
       have b35 : a.tmps[35]?.getD undef = _ := hd ⟨0, .data⟩ (by simp) rfl
       go_simp
       exact hK _ _ (World.grownBy.refl _ _) rfl
     case fin =>
      intro vs V hV hv
      have e0 : vs 0 = _ := hv 0 (by decide)
      have e13 : vs 13 = _ := hv 13 (by decide)
      have e14 : vs 14 = _ := hv 14 (by decide)
      clear hv
      simp only [putAll, List.drop_succ_cons, List.drop_zero, e0, e13, e14, Act.put, List.setIfInBounds_toArray, List.set_cons_succ, List.set_cons_zero]
      clear e0 e13 e14
      go_wp2_with fail
      go_ret2
      exact ⟨by rw [HP.out, HF.out]; rfl, (hV.at_ 2 rfl : _ ∧ _).1⟩
   ·have HF : Hid (hasK l d = false) := Lib.hid (hasK_none HS.out HA.out (fun hk => absurd hk (by have := HN.out; omega)))
    have d2 : decide ((i : Int) < (n : Int)) = false := by simp; omega
    go_upto_region 8 with (fail)
    refine wp_region_hopsH 15 (35 :: 36 :: 37 :: 38 :: 39 :: 40 :: 41 :: 42 :: 43 :: 44 :: 45 :: 46 :: 47 :: 48 :: 6 :: []) [.cells w.heap.size 37 (d.map bv), .low (.kss B A n l), .kept w w.heap.size]
     (.eq (.int .i64 i) :: .eq (.int .i64 i) :: .eq (.int .i64 n) :: .eq (.bool false) :: .eq (.bool false) :: .eq undef :: .eq undef :: .eq undef :: .eq undef :: .eq undef :: .eq undef :: .eq undef :: .eq undef :: .eq (.bool false) :: .eq (.int .i64 i) :: [])
     (by kernel_rfl) (by kernel_rfl) hI rfl ?hops ?fin
    case hops =>
     refine ⟨?_, ?_, ?_, ?_, ?_, ?_, ?_, ?_, ?_, ?_, ?_, ?_, ?_, ?_, ?_, trivial⟩
     ·intro a W hW hb hd K hK
      have b9 := hb 9 rfl
      go_simp
      exact hK _ _ (World.grownBy.refl _ _) rfl
     ·intro a W hW hb hd K hK
      have b9 := hb 9 rfl
      go_simp
      exact hK _ _ (World.grownBy.refl _ _) rfl
     ·intro a W hW hb hd K hK
      have b8 := hb 8 rfl
      go_simp
      exact hK _ _ (World.grownBy.refl _ _) rfl
     ·intro a W hW hb hd K hK
      have b36 : a.tmps[36]?.getD undef = _ := hd ⟨1, .data⟩ (by simp) rfl
      have b37 : a.tmps[37]?.getD undef = _ := hd ⟨2, .data⟩ (by simp) rfl
      go_simp
      exact hK _ _ (World.grownBy.refl _ _) rfl
     ·intro a W hW hb hd K hK
      have b38 : a.tmps[38]?.getD undef = _ := hd ⟨3, .data⟩ (by simp) rfl
      go_simp
      exact hK _ _ (World.grownBy.refl _ _) rfl
     ·exact Or.inr ⟨fun v w h => by rw [show v = _ from h]; first | (intro h2; cases h2) | (simp [undef]), fun w => rfl⟩
     ·exact Or.inr ⟨fun v w h => by rw [show v = _ from h]; first | (intro h2; cases h2) | (simp [undef]), fun w => rfl⟩
     ·exact Or.inr ⟨fun v w h => by rw [show v = _ from h]; first | (intro h2; cases h2) | (simp [undef]), fun w => rfl⟩
     ·exact Or.inr ⟨fun v w h => by rw [show v = _ from h]; first | (intro h2; cases h2) | (simp [undef]), fun w => rfl⟩
     ·exact Or.inr ⟨fun v w h => by rw [show v = _ from h]; first | (intro h2; cases h2) | (simp [undef]), fun w => rfl⟩
     ·exact Or.inr ⟨fun v w h => by rw [show v = _ from h]; first | (intro h2; cases h2) | (simp [undef]), fun w => rfl⟩
     ·exact Or.inr ⟨fun v w h => by rw [show v = _ from h]; first | (intro h2; cases h2) | (simp [undef]), fun w => rfl⟩
     ·exact Or.inr ⟨fun v w h => by rw [show v = _ from h]; first | (intro h2; cases h2) | (simp [undef]), fun w => rfl⟩
     ·intro a W hW hb hd K hK
      have b39 : a.tmps[39]?.getD undef = _ := hd ⟨4, .data⟩ (by simp) rfl
      have b47 : a.tmps[47]?.getD undef = _ := hd ⟨12, .data⟩ (by simp) rfl
      go_simp
      exact hK _ _ (World.grownBy.refl _ _) rfl
     ·intro a W hW hb hd K hK
      have b35 : a.tmps[35]?.getD undef = _ := hd ⟨0, .data⟩ (by simp) rfl
      go_simp
      exact hK _ _ (World.grownBy.refl _ _) rfl
    case fin =>
     intro vs V hV hv
     have e0 : vs 0 = _ := hv 0 (by decide)
     have e13 : vs 13 = _ := hv 13 (by decide)
     have e14 : vs 14 = _ := hv 14 (by decide)
     clear hv
     simp only [putAll, List.drop_succ_cons, List.drop_zero, e0, e13, e14, Act.put, List.setIfInBounds_toArray, List.set_cons_succ, List.set_cons_zero]
     clear e0 e13 e14
     go_wp2_with fail
     go_ret2
     exact ⟨by rw [HP.out, HF.out]; rfl, (hV.at_ 2 rfl : _ ∧ _).1⟩

end Go.Proofs.Ytfakjamocpamiaa

/- Ascending lists of digests: Has and Add. -/
import Derived.Test.YtfakjamocpamiaaSto15
set_option linter.unusedSimpArgs false
set_option linter.unusedVariables false
set_option maxRecDepth 100000
namespace Go.Adm
open Go Go.RowKit
def placeD (xs : List (List UInt8)) (d : List UInt8) : Nat := (xs.takeWhile fun x => lessD x d).length
theorem placeD_eq : ∀ {l : List (List UInt8)} {d : List UInt8} {k : Nat}, k ≤ l.length → (∀ p (hp : p < l.length), p < k → lessD l[p] d = true) → (∀ (hk : k < l.length), lessD l[k] d = false) → placeD l d = k
 | [], d, k, hk, _, _ => by
  have : k = 0 := by simpa using hk
  subst this; rfl
 | x :: l, d, 0, _, _, h => by
  have := h (by simp)
  unfold placeD
  rw [List.takeWhile_cons_of_neg (by simpa using this)]; rfl
 | x :: l, d, k + 1, hk, h1, h2 => by
  have h0 := h1 0 (by simp) (by omega)
  unfold placeD
  rw [List.takeWhile_cons_of_pos (by simpa using h0), List.length_cons]
  have := placeD_eq (l := l) (d := d) (k := k) (by simpa using hk) (fun p hp hpk => by have := h1 (p + 1) (by simpa using hp) (by omega); simpa using this) (fun hq => by have := h2 (by simpa using hq); simpa using this)
  unfold placeD at this
  rw [this]
theorem placeD_le (l : List (List UInt8)) (d : List UInt8) : placeD l d ≤ l.length := (List.takeWhile_prefix _).length_le
/-- an ascending list with one digest more -/
def addD (xs : List (List UInt8)) (d : List UInt8) : List (List UInt8) := if d ∈ xs then xs else xs.take (placeD xs d) ++ d :: xs.drop (placeD xs d)
theorem addD_len {xs : List (List UInt8)} {d : List UInt8} : (addD xs d).length ≤ xs.length + 1 := by
 unfold addD
 have := placeD_le xs d
 split
 ·omega
 ·rw [List.length_append, List.length_cons, List.length_take, List.length_drop]; omega
theorem addD_32 {xs : List (List UInt8)} {d : List UInt8} (h : ∀ x ∈ xs, x.length = 32) (hd : d.length = 32) : ∀ x ∈ addD xs d, x.length = 32 := by
 unfold addD
 intro x hx
 split at hx
 ·exact h x hx
 ·rcases List.mem_append.1 hx with h1 | h1
  ·exact h x (List.mem_of_mem_take h1)
  ·rcases List.mem_cons.1 h1 with h1 | h1
   ·rw [h1]; exact hd
   ·exact h x (List.mem_of_mem_drop h1)
end Go.Adm
namespace Go.Proofs.Ytfakjamocpamiaa
open Go Go.RowKit Go.Adm

set_option maxHeartbeats 3200000 in
theorem Has_any (w : World) (B : Nat) (A : Option Addr) (n c : Nat) (xs : List (List UInt8)) (d : List UInt8) (hl : Digs w B A n xs) (hd : d.length = 32) (hn2 : n ≤ 1000000000) (hB : B ≤ w.heap.size) :
  Calls Try.prog 51 #[.slice A n c, .agg (d.map bv).toArray] w fun e w' => e = .returned (.bool (decide (d ∈ xs))) ∧ Below w.heap.size w w' := by
 have hR : All w [.low (.digs B A n xs), .kept w w.heap.size] := ⟨⟨hl, hB⟩, ⟨Below.refl _ _, Nat.le_refl _⟩, trivial⟩
 have HN := Lib.hid hl.len
 have HD := Lib.hid hd
 clear hl hd
 go_enter Try.func51, Try.ntmps51
 go_upto_region 1 with (fail)
 refine wp_gen (hR.new (l := d.map bv) _ 37 rfl rfl) ?_
 intro W1 hW1
 clear hR
 go_wp2
 go_loopw [5] (fun i wr => ∃ k : Nat, k ≤ n ∧ i = .int .i64 k ∧ Hid (∀ j (hj : j < xs.length), j < k → xs[j] ≠ d) ∧ All wr [.cells w.heap.size 37 (d.map bv), .low (.digs B A n xs), .kept w w.heap.size]) (fun i _ => n - (intOf i).toNat)
 case atStart => exact ⟨0, by omega, rfl, Lib.hid (fun j hj h => absurd h (by omega)), hW1⟩
 case round =>
  clear hW1
  obtain ⟨k, hk, rfl, HA, hI⟩ := hrel
  by_cases hlt : k < n
  ·have hkl : k < xs.length := by rw [HN.out]; exact hlt
   have hbl := (hI.at_ 1 rfl : Digs wr B A n xs ∧ B ≤ wr.heap.size)
   obtain ⟨ad, rfl, -, -⟩ := Digs.elem hbl.1 hkl
   have HX : Hid (∀ W, All W [.cells w.heap.size 37 (d.map bv), .low (.digs B (some ad) n xs), .kept w w.heap.size] → ∀ q s, (xs[k].map bv)[q]? = some s → W.cell? ((ad.add (k * 32)).add q) = some s) := Lib.hid (fun W hW => by
    obtain ⟨ad', e, _, hc⟩ := Digs.elem (hW.at_ 1 rfl : Digs W B (some ad) n xs ∧ B ≤ W.heap.size).1 hkl
    obtain rfl := Option.some.inj e
    exact hc)
   have hx := Lib.hid (hbl.1.each _ (List.getElem_mem hkl))
   have HHIT : Hid (xs[k] = d → decide (d ∈ xs) = true) := Lib.hid (fun h => by rw [← h]; exact decide_eq_true (List.getElem_mem hkl))
   have HMISS : Hid (xs[k] ≠ d → ∀ j (hj : j < xs.length), j < k + 1 → xs[j] ≠ d) := Lib.hid (fun h j hj hjk => by
    rcases Nat.lt_or_eq_of_le (Nat.le_of_lt_succ hjk) with h1 | h1
    ·exact HA.out j hj h1
    ·subst h1; exact h)
   clear hbl
   generalize xs[k] = x at *
   have d1 : decide ((k : Int) < (n : Int)) = true := by simp; omega
   have wk0 : (0 : Int) ≤ (k : Int) := by omega
   have wk1 : (k : Int) < (n : Int) := by omega
   have wk2 : ((k : Int)).toNat = k := by omega
   go_upto_region 4 with (fail)
   refine wp_region_hops 5 [12, 13, 14, 15, 16] [.cells w.heap.size 37 (d.map bv), .low (.digs B (some ad) n xs), .kept w w.heap.size]
    [.eq (.slice (some ad) n c), .eq (.int .i64 k), .eq (.pointer (some (ad.add (k * 32)))), .eq (.agg (x.map bv).toArray), .eq (.agg (d.map bv).toArray)]
    (by kernel_rfl) (by kernel_rfl) hI rfl ?hops ?fin
   case hops =>
    refine ⟨?_, ?_, ?_, ?_, ?_, trivial⟩
    ·intro a W hW hb hd K hK
     have b0 := hb 0 rfl
     go_simp
     exact hK _ _ (World.grownBy.refl _ _) rfl
    ·intro a W hW hb hd K hK
     have b5 := hb 5 rfl
     go_simp
     exact hK _ _ (World.grownBy.refl _ _) rfl
    ·intro a W hW hb hd K hK
     have b12 : a.tmps[12]?.getD undef = _ := hd ⟨0, .data⟩ (by simp) rfl
     have b13 : a.tmps[13]?.getD undef = _ := hd ⟨1, .data⟩ (by simp) rfl
     go_simp
     exact hK _ _ (World.grownBy.refl _ _) rfl
    ·intro a W hW hb hd K hK
     have b14 : a.tmps[14]?.getD undef = _ := hd ⟨2, .data⟩ (by simp) rfl
     refine wp_load_any 37 (.tmp 14) rfl (ad.add (k * 32)) (show a.eval (.tmp 14) = _ from by simp only [Act.eval, Array.getD_eq_getD_getElem?]; exact b14) (x.map bv) _ (HX.out W hW) Try.underlying37 rfl (by rw [List.length_map, hx.out]; kernel_rfl) ?_
     exact hK _ _ (World.grownBy.refl _ _) rfl
    ·intro a W hW hb hd K hK
     have b3 := hb 3 rfl
     refine wp_load_any 37 (.tmp 3) rfl ⟨w.heap.size, 0, none⟩ (show a.eval (.tmp 3) = _ from by simp only [Act.eval, Array.getD_eq_getD_getElem?]; exact b3) (d.map bv) _ (Cells.sub (hW.at_ 0 rfl) 0 (fun j u h => by rwa [Nat.zero_add])) Try.underlying37 rfl (by rw [List.length_map, HD.out]; kernel_rfl) ?_
     exact hK _ _ (World.grownBy.refl _ _) rfl
   case fin =>
    intro vs V hV hv
    have e3 : vs 3 = _ := hv 3 (by decide)
    have e4 : vs 4 = _ := hv 4 (by decide)
    clear hv hI
    simp only [putAll, List.drop_succ_cons, List.drop_zero, e3, e4, Act.put, List.setIfInBounds_toArray, List.set_cons_succ, List.set_cons_zero]
    clear e3 e4
    have heq := eq_dg
    cases hz : decide (x = d) with
    | true =>
     have HF := Lib.hid (HHIT.out (of_decide_eq_true hz))
     have q1 : ∀ W : World, (binOp .eql 37 (.agg (x.map bv).toArray) (.agg (d.map bv).toArray)).run Try.prog W = .ok (.bool true) W := fun W => by have := heq W x d hx.out HD.out; rwa [hz] at this
     clear hz heq HHIT HMISS
     go_wp2_with fail
     go_ret
     exact ⟨ret_bool (by rw [HF.out]), (hV.at_ 2 rfl : _ ∧ _).1⟩
    | false =>
     have HF := Lib.hid (HMISS.out (of_decide_eq_false hz))
     have q1 : ∀ W : World, (binOp .eql 37 (.agg (x.map bv).toArray) (.agg (d.map bv).toArray)).run Try.prog W = .ok (.bool false) W := fun W => by have := heq W x d hx.out HD.out; rwa [hz] at this
     clear hz heq HHIT HMISS
     go_wp2_with fail
     exact ⟨⟨k + 1, by omega, by go_num, HF, hV⟩, by simp [intOf]; omega⟩
  ·have d1 : decide ((k : Int) < (n : Int)) = false := by simp; omega
   have HF : Hid (decide (d ∈ xs) = false) := Lib.hid (decide_eq_false fun hm => by
    obtain ⟨j, hj, e⟩ := List.getElem_of_mem hm
    exact HA.out j hj (by have := HN.out; omega) e)
   go_wp2_with fail
   go_ret
   exact ⟨ret_bool (by rw [HF.out]), (hI.at_ 2 rfl : _ ∧ _).1⟩

set_option maxHeartbeats 3200000 in
theorem Add_any (w : World) (B : Nat) (A : Option Addr) (n c : Nat) (xs : List (List UInt8)) (d : List UInt8) (hl : Digs w B A n xs) (hd : d.length = 32) (hn2 : n ≤ 1000000000) (hnc : n ≤ c) (hcm : c ≤ maxLen) (hB : B ≤ w.heap.size) :
  Calls Try.prog 24 #[.slice A n c, .agg (d.map bv).toArray] w fun e w' => ∃ A' n' c', e = .returned (.slice A' n' c') ∧ Digs w' w'.heap.size A' n' (addD xs d) ∧ n' ≤ c' ∧ c' ≤ maxLen ∧ Below w.heap.size w w' ∧ (d ∉ xs → Go.Adm.Own w' w.heap.size 37 32 A' n' c' (dvs (addD xs d)).flatten) := by
 have hR : All w [.low (.digs B A n xs), .kept w w.heap.size] := ⟨⟨hl, hB⟩, ⟨Below.refl _ _, Nat.le_refl _⟩, trivial⟩
 have HN := Lib.hid hl.len
 have HD := Lib.hid hd
 have HNC := Lib.hid hnc
 have HCM := Lib.hid hcm
 have H32A : Hid (∀ x ∈ addD xs d, x.length = 32) := Lib.hid (addD_32 hl.each hd)
 have HE32 : Hid (∀ e ∈ dvs xs, e.length = 32) := Lib.hid hl.els.each
 have H32 : Hid (∀ y ∈ xs, y.length = 32) := Lib.hid hl.each
 have HONE : Hid (∀ l' : List (List UInt8), ∀ u ∈ (dvs l').flatten, u.oneCell' = true) := Lib.hid fun l' u hu => by
  obtain ⟨es, he, hu⟩ := List.mem_flatten.1 hu
  obtain ⟨y, _, rfl⟩ := List.mem_map.1 he
  exact bv_one y u hu
 have HAP : Hid (∀ (W : World) (A0 : Option Addr) (m c0 : Nat) (xs' : List Value), Go.Adm.Own W (w.heap.size + 1) 37 32 A0 m c0 xs' → Apart (Value.slice A0 m c0).ownBlock [.cells w.heap.size 37 (d.map bv), .low (.digs B A n xs), .kept w w.heap.size]) := Lib.hid fun W A0 m c0 xs ho => by
  cases hq : (Value.slice A0 m c0).ownBlock with
  | none => exact Apart.none _
  | some g =>
   have hg := (ho.lt hq).1
   exact ⟨fun e => by injection e with e; omega, fun g' e => by injection e with e; have := hB; simp only [Low.digs]; omega, fun g' e => by injection e with e; omega, trivial⟩
 clear hl hd hnc hcm
 go_enter Try.func24, Try.ntmps24
 go_upto_region 1 with (fail)
 refine wp_gen (hR.new (l := d.map bv) _ 37 rfl rfl) ?_
 intro W0 hW0
 clear hR
 have hha := Has_any W0 B A n c xs d (hW0.at_ 1 rfl : Digs W0 B A n xs ∧ _).1 HD.out hn2 (hW0.at_ 1 rfl : _ ∧ B ≤ W0.heap.size).2
 go_wp2_with (refine wl_load_any rfl 37 (.tmp 3) rfl ⟨w.heap.size, 0, none⟩ rfl (d.map bv) _ (Cells.sub (hW0.at_ 0 rfl) 0 (fun j u h => by rwa [Nat.zero_add])) Try.underlying37 rfl (by rw [List.length_map, HD.out]; kernel_rfl) ?_)
 refine hha.mono ?_
 clear hha
 rintro e w1 ⟨rfl, hb1⟩
 have hW1 := hW0.call hb1
 clear hb1 hW0
 by_cases hmem : d ∈ xs
 ·have hm1 : decide (d ∈ xs) = true := decide_eq_true hmem
  have HADD : Hid (addD xs d = xs) := Lib.hid (by unfold addD; rw [if_pos hmem])
  have HMEM := Lib.hid hmem
  rw [hm1]
  clear hm1 hmem
  go_wp2_with fail
  go_ret
  exact ⟨A, n, c, rfl, by rw [HADD.out]; exact (hW1.at_ 1 rfl : Digs w1 B A n xs ∧ _).1.mono (hW1.at_ 1 rfl : _ ∧ B ≤ w1.heap.size).2, HNC.out, HCM.out, (hW1.at_ 2 rfl : _ ∧ _).1, fun h => absurd HMEM.out h⟩
 have hm1 : decide (d ∈ xs) = false := decide_eq_false hmem
 have HADD : Hid (addD xs d = xs.take (placeD xs d) ++ d :: xs.drop (placeD xs d)) := Lib.hid (by unfold addD; rw [if_neg hmem])
 rw [hm1]
 clear hm1 hmem
 have hR1 : All w1 (.own (w.heap.size + 1) 37 32 none 0 0 ((dvs (xs.take 0)).flatten) :: [.cells w.heap.size 37 (d.map bv), .low (.digs B A n xs), .kept w w.heap.size]) := ⟨Go.Adm.Own.nil _ _ _ _, hW1⟩
 have hs1 : w.heap.size + 1 ≤ w1.heap.size := Cells.lt (hW1.at_ 0 rfl)
 clear hW1
 go_wp2
 go_loopw [5, 6] (fun v i wr => ∃ (k : Nat) (A' : Option Addr) (c' : Nat), k ≤ n ∧ i = .int .i64 k ∧ v = .slice A' k c' ∧ (w.heap.size + 1) ≤ wr.heap.size ∧ (∀ j (hj : j < xs.length), j < k → lessD xs[j] d = true) ∧ All wr (.own (w.heap.size + 1) 37 32 A' k c' ((dvs (xs.take k)).flatten) :: [.cells w.heap.size 37 (d.map bv), .low (.digs B A n xs), .kept w w.heap.size])) (fun _ i _ => n - (intOf i).toNat)
 case atStart => exact ⟨0, none, 0, by omega, rfl, rfl, hs1, fun _ _ h => absurd h (by omega), hR1⟩
 case round =>
  obtain ⟨k, A', c', hk, rfl, rfl, hsr, hall, hI⟩ := hrel
  have Hall := Lib.hid hall
  clear hR1 hs1 hall
  by_cases hlt : k < n
  ·have hkl : k < xs.length := by rw [HN.out]; exact hlt
   have hbl := (hI.at_ 2 rfl : Digs wr B A n xs ∧ B ≤ wr.heap.size)
   obtain ⟨ad, rfl, hadB, hc⟩ := Digs.elem hbl.1 hkl
   have hy := Lib.hid (H32.out _ (List.getElem_mem hkl))
   have HY : Hid (∀ W, All W (.own (w.heap.size + 1) 37 32 A' k c' ((dvs (xs.take k)).flatten) :: [.cells w.heap.size 37 (d.map bv), .low (.digs B (some ad) n xs), .kept w w.heap.size]) → ∀ q s, (xs[k].map bv)[q]? = some s → W.cell? ((ad.add (k * 32)).add q) = some s) := Lib.hid (fun W hW => by
    obtain ⟨ad', e, _, hc⟩ := Digs.elem (hW.at_ 2 rfl : Digs W B (some ad) n xs ∧ B ≤ W.heap.size).1 hkl
    obtain rfl := Option.some.inj e
    exact hc)
   have HM : Hid (lessD xs[k] d = true → ∀ j (hj : j < xs.length), j < k + 1 → lessD xs[j] d = true) := Lib.hid (fun h j hj h2 => by
    rcases Nat.lt_succ_iff_lt_or_eq.1 h2 with h4 | h4
    ·exact Hall.out j hj h4
    ·subst h4; exact h)
   have HPUT' : Hid (lessD xs[k] d = false → placeD xs d = k) := Lib.hid (fun h => placeD_eq (by omega) (fun j hj h2 => Hall.out j hj h2) (fun _ => h))
   have HT : Hid (xs.take (k + 1) = xs.take k ++ [xs[k]]) := Lib.hid (List.take_succ_eq_append_getElem hkl)
   clear hc hbl
   generalize xs[k] = y at *
   have d1 : decide ((k : Int) < (n : Int)) = true := by simp; omega
   have wk0 : (0 : Int) ≤ (k : Int) := by omega
   have wk1 : (k : Int) < (n : Int) := by omega
   have wk2 : ((k : Int)).toNat = k := by omega
   go_upto_region 5 with (fail)
   cases hb : lessD y d with
   | true =>
    have hm := Lib.hid (HM.out hb)
    have HB := Lib.hid hb
    clear hb
    refine wp_region_hopsH 11 (11 :: 12 :: 13 :: 14 :: 15 :: 16 :: 17 :: 18 :: 19 :: 20 :: 21 :: []) (.own (w.heap.size + 1) 37 32 A' k c' ((dvs (xs.take k)).flatten) :: [.cells w.heap.size 37 (d.map bv), .low (.digs B (some ad) n xs), .kept w w.heap.size])
     (.eq (.int .i64 k) :: .eq (.slice (some ad) n c) :: .eq (.int .i64 (n : Int)) :: .eq (.bool true) :: .eq (.bool true) :: .eq (.slice (some ad) n c) :: .eq (.int .i64 k) :: .eq (.pointer (some (ad.add (k * 32)))) :: .eq (.agg (y.map bv).toArray) :: .eq (.agg (d.map bv).toArray) :: .eq (.bool true) :: [])
     (by kernel_rfl) (by kernel_rfl) hI rfl ?hops ?fin
    case hops =>
     refine ⟨?_, ?_, ?_, ?_, ?_, ?_, ?_, ?_, ?_, ?_, ?_, trivial⟩
     ·intro a W hW hb hd K hK
      have b6 := hb 6 rfl
      go_simp
      exact hK _ _ (World.grownBy.refl _ _) rfl
     ·intro a W hW hb hd K hK
      have b0 := hb 0 rfl
      go_simp
      exact hK _ _ (World.grownBy.refl _ _) rfl
     ·intro a W hW hb hd K hK
      have b12 : a.tmps[12]?.getD undef = _ := hd ⟨1, .data⟩ (by simp) rfl
      go_simp
      exact hK _ _ (World.grownBy.refl _ _) rfl
     ·intro a W hW hb hd K hK
      have b11 : a.tmps[11]?.getD undef = _ := hd ⟨0, .data⟩ (by simp) rfl
      have b13 : a.tmps[13]?.getD undef = _ := hd ⟨2, .data⟩ (by simp) rfl
      go_simp
      exact hK _ _ (World.grownBy.refl _ _) rfl
     ·intro a W hW hb hd K hK
      have b14 : a.tmps[14]?.getD undef = _ := hd ⟨3, .data⟩ (by simp) rfl
      go_simp
      exact hK _ _ (World.grownBy.refl _ _) rfl
     ·refine Or.inl ⟨fun v w h => h, ?_⟩
      intro a W hW hb hd K hK
      have b0 := hb 0 rfl
      go_simp
      exact hK _ _ (World.grownBy.refl _ _) rfl
     ·refine Or.inl ⟨fun v w h => h, ?_⟩
      intro a W hW hb hd K hK
      have b6 := hb 6 rfl
      go_simp
      exact hK _ _ (World.grownBy.refl _ _) rfl
     ·refine Or.inl ⟨fun v w h => h, ?_⟩
      intro a W hW hb hd K hK
      have b16 : a.tmps[16]?.getD undef = _ := hd ⟨5, .data⟩ (by simp) rfl
      have b17 : a.tmps[17]?.getD undef = _ := hd ⟨6, .data⟩ (by simp) rfl
      go_simp
      exact hK _ _ (World.grownBy.refl _ _) rfl
     ·refine Or.inl ⟨fun v w h => h, ?_⟩
      intro a W hW hb hd K hK
      have b18 : a.tmps[18]?.getD undef = _ := hd ⟨7, .data⟩ (by simp) rfl
      refine wp_load_any 37 (.tmp 18) rfl (ad.add (k * 32)) (show a.eval (.tmp 18) = _ from by simp only [Act.eval, Array.getD_eq_getD_getElem?]; exact b18) (y.map bv) _ (HY.out W hW) Try.underlying37 rfl (by rw [List.length_map, hy.out]; kernel_rfl) ?_
      exact hK _ _ (World.grownBy.refl _ _) rfl
     ·refine Or.inl ⟨fun v w h => h, ?_⟩
      intro a W hW hb hd K hK
      have b3 := hb 3 rfl
      refine wp_load_any 37 (.tmp 3) rfl ⟨w.heap.size, 0, none⟩ (show a.eval (.tmp 3) = _ from by simp only [Act.eval, Array.getD_eq_getD_getElem?]; exact b3) (d.map bv) _ (Cells.sub (hW.at_ 1 rfl) 0 (fun j u h => by rwa [Nat.zero_add])) Try.underlying37 rfl (by rw [List.length_map, HD.out]; kernel_rfl) ?_
      exact hK _ _ (World.grownBy.refl _ _) rfl
     ·refine Or.inl ⟨fun v w h => h, ?_⟩
      intro a W hW hb hd K hK
      have b19 : a.tmps[19]?.getD undef = _ := hd ⟨8, .data⟩ (by simp) rfl
      have b20 : a.tmps[20]?.getD undef = _ := hd ⟨9, .data⟩ (by simp) rfl
      go_simp
      refine (Less_any W y d hy.out HD.out).mono ?_
      rintro e w' ⟨rfl, hb'⟩
      exact hK _ _ (grown_of_below hb') (congrArg Value.bool HB.out)
    case fin =>
     intro vs wq hI1 hv
     have e4 : vs 4 = _ := hv 4 (by decide)
     have e10 : vs 10 = _ := hv 10 (by decide)
     clear hv
     simp only [putAll, List.drop_succ_cons, List.drop_zero, e4, e10, Act.put, List.setIfInBounds_toArray, List.set_cons_succ, List.set_cons_zero]
     clear e4 e10
     have hsr1 : (w.heap.size + 1) ≤ wq.heap.size := Cells.lt (hI1.at_ 1 rfl)
     clear hI hsr
     have HC1 := Lib.hid (HY.out wq hI1)
     go_wp2_with (first
      | (refine wl_load_any rfl 37 (.tmp 26) rfl (ad.add (k * 32)) rfl (y.map bv) _ HC1.out Try.underlying37 rfl (by rw [List.length_map, hy.out]; kernel_rfl) ?_)
      | (refine wl_lit1 el_dg rfl _ rfl (y.map bv) rfl (by rw [List.length_map]; exact hy.out) (by decide) ?_)
      | (at_builtin; refine wl_app_at el_dg (hI1.alloc _) 0 rfl (.tmp 23) (.tmp 28) rfl (w.heap.size + 1) _ _ _ _ rfl rfl (wq.heap.size + 1) _ 1 1 (y.map bv) rfl (Rd.lit wq (y.map bv).toArray _ 1 (by rw [List.size_toArray, List.length_map]; exact hy.out)) (bv_one _) (by omega) (by simp; omega) (by intro g hg h; simp [Apart, Res.apart, Low.digs] <;> omega) ?_; intro A7 c7 w7 hI7 hs7))
     refine ⟨⟨k + 1, A7, c7, by omega, by go_num, rfl, by simp at hs7; omega, hm.out, ?_⟩, by simp [intOf]; omega⟩
     rw [HT.out]
     simpa [dvs] using hI7
   | false =>
    have HP := Lib.hid (HPUT'.out hb)
    have HB := Lib.hid hb
    clear hb
    refine wp_region_hopsH 11 (11 :: 12 :: 13 :: 14 :: 15 :: 16 :: 17 :: 18 :: 19 :: 20 :: 21 :: []) (.own (w.heap.size + 1) 37 32 A' k c' ((dvs (xs.take k)).flatten) :: [.cells w.heap.size 37 (d.map bv), .low (.digs B (some ad) n xs), .kept w w.heap.size])
     (.eq (.int .i64 k) :: .eq (.slice (some ad) n c) :: .eq (.int .i64 (n : Int)) :: .eq (.bool true) :: .eq (.bool true) :: .eq (.slice (some ad) n c) :: .eq (.int .i64 k) :: .eq (.pointer (some (ad.add (k * 32)))) :: .eq (.agg (y.map bv).toArray) :: .eq (.agg (d.map bv).toArray) :: .eq (.bool false) :: [])
     (by kernel_rfl) (by kernel_rfl) hI rfl ?hops ?fin
    case hops =>
     refine ⟨?_, ?_, ?_, ?_, ?_, ?_, ?_, ?_, ?_, ?_, ?_, trivial⟩
     ·intro a W hW hb hd K hK
      have b6 := hb 6 rfl
      go_simp
      exact hK _ _ (World.grownBy.refl _ _) rfl
     ·intro a W hW hb hd K hK
      have b0 := hb 0 rfl
      go_simp
      exact hK _ _ (World.grownBy.refl _ _) rfl
     ·intro a W hW hb hd K hK
      have b12 : a.tmps[12]?.getD undef = _ := hd ⟨1, .data⟩ (by simp) rfl
      go_simp
      exact hK _ _ (World.grownBy.refl _ _) rfl
     ·intro a W hW hb hd K hK
      have b11 : a.tmps[11]?.getD undef = _ := hd ⟨0, .data⟩ (by simp) rfl
      have b13 : a.tmps[13]?.getD undef = _ := hd ⟨2, .data⟩ (by simp) rfl
      go_simp
      exact hK _ _ (World.grownBy.refl _ _) rfl
     ·intro a W hW hb hd K hK
      have b14 : a.tmps[14]?.getD undef = _ := hd ⟨3, .data⟩ (by simp) rfl
      go_simp
      exact hK _ _ (World.grownBy.refl _ _) rfl
     ·refine Or.inl ⟨fun v w h => h, ?_⟩
      intro a W hW hb hd K hK
      have b0 := hb 0 rfl
      go_simp
      exact hK _ _ (World.grownBy.refl _ _) rfl
     ·refine Or.inl ⟨fun v w h => h, ?_⟩
      intro a W hW hb hd K hK
      have b6 := hb 6 rfl
      go_simp
      exact hK _ _ (World.grownBy.refl _ _) rfl
     ·refine Or.inl ⟨fun v w h => h, ?_⟩
      intro a W hW hb hd K hK
      have b16 : a.tmps[16]?.getD undef = _ := hd ⟨5, .data⟩ (by simp) rfl
      have b17 : a.tmps[17]?.getD undef = _ := hd ⟨6, .data⟩ (by simp) rfl
      go_simp
      exact hK _ _ (World.grownBy.refl _ _) rfl
     ·refine Or.inl ⟨fun v w h => h, ?_⟩
      intro a W hW hb hd K hK
      have b18 : a.tmps[18]?.getD undef = _ := hd ⟨7, .data⟩ (by simp) rfl
      refine wp_load_any 37 (.tmp 18) rfl (ad.add (k * 32)) (show a.eval (.tmp 18) = _ from by simp only [Act.eval, Array.getD_eq_getD_getElem?]; exact b18) (y.map bv) _ (HY.out W hW) Try.underlying37 rfl (by rw [List.length_map, hy.out]; kernel_rfl) ?_
      exact hK _ _ (World.grownBy.refl _ _) rfl
     ·refine Or.inl ⟨fun v w h => h, ?_⟩
      intro a W hW hb hd K hK
      have b3 := hb 3 rfl
      refine wp_load_any 37 (.tmp 3) rfl ⟨w.heap.size, 0, none⟩ (show a.eval (.tmp 3) = _ from by simp only [Act.eval, Array.getD_eq_getD_getElem?]; exact b3) (d.map bv) _ (Cells.sub (hW.at_ 1 rfl) 0 (fun j u h => by rwa [Nat.zero_add])) Try.underlying37 rfl (by rw [List.length_map, HD.out]; kernel_rfl) ?_
      exact hK _ _ (World.grownBy.refl _ _) rfl
     ·refine Or.inl ⟨fun v w h => h, ?_⟩
      intro a W hW hb hd K hK
      have b19 : a.tmps[19]?.getD undef = _ := hd ⟨8, .data⟩ (by simp) rfl
      have b20 : a.tmps[20]?.getD undef = _ := hd ⟨9, .data⟩ (by simp) rfl
      go_simp
      refine (Less_any W y d hy.out HD.out).mono ?_
      rintro e w' ⟨rfl, hb'⟩
      exact hK _ _ (grown_of_below hb') (congrArg Value.bool HB.out)
    case fin =>
     intro vs wq hI1 hv
     have e4 : vs 4 = _ := hv 4 (by decide)
     have e10 : vs 10 = _ := hv 10 (by decide)
     clear hv
     simp only [putAll, List.drop_succ_cons, List.drop_zero, e4, e10, Act.put, List.setIfInBounds_toArray, List.set_cons_succ, List.set_cons_zero]
     clear e4 e10
     have hsr1 : (w.heap.size + 1) ≤ wq.heap.size := Cells.lt (hI1.at_ 1 rfl)
     clear hI hsr
     have hI := hI1
     have hsr := hsr1
     clear hI1 hsr1
     generalize wq = wr at *
     go_upto_region 8 with (fail)
     refine wp_region_cut 7 [32, 33, 34, 35, 36, 37, 38] (JIns [.cells w.heap.size 37 (d.map bv), .low (.digs B (some ad) n xs), .kept w w.heap.size]
      [.eq (.slice A' k c'), .eq (.agg (d.map bv).toArray), .rd 32 1 (d.map bv), .own (w.heap.size + 1) 37 32 (k + 1) (((dvs (xs.take k)).flatten) ++ d.map bv), .eq (.slice (some ad) n c), .eq (.int .i64 k), .gen (fun _ v => ∃ A6 c6, v = .slice A6 (n - k) c6 ∧ ∀ W, All W [.cells w.heap.size 37 (d.map bv), .low (.digs B (some ad) n xs), .kept w w.heap.size] → Rd W B 32 A6 (n - k) ((dvs (xs.drop k)).flatten)) (fun _ _ _ _ h => h)]
      (fun W => Go.Adm.Own W (w.heap.size + 1) 37 32 A' k c' ((dvs (xs.take k)).flatten)) (w.heap.size + 1))
      (by kernel_rfl) (by kernel_rfl) ⟨JW.start ⟨hI.drew.at_ 1 rfl, hI.drew.at_ 2 rfl, hI.drew.at_ 3 rfl, trivial⟩, hsr, fun _ => hI.drew.at_ 0 rfl⟩ rfl ?hops ?fin
     case hops =>
      refine ⟨?_, ?_, ?_, ?_, ?_, ?_, ?_, trivial⟩
      ·refine ⟨rfl, ?_⟩
       intro a W L vs hJ hk hb0 hd K hK
       have b5 := hb0 5 rfl
       go_simp
       exact hK _ _ (hJ.quiet (World.grownBy.refl _ _) (by decide) (fun h => h) rfl)
      ·refine ⟨rfl, ?_⟩
       intro a W L vs hJ hk hb0 hd K hK
       have b3 := hb0 3 rfl
       refine wp_load_any 37 (.tmp 3) rfl ⟨w.heap.size, 0, none⟩ (show a.eval (.tmp 3) = _ from by simp only [Act.eval, Array.getD_eq_getD_getElem?]; exact b3) (d.map bv) _ (Cells.sub (hJ.1.1.at_ 0 rfl) 0 (fun j u hu => by rw [Nat.zero_add]; exact hu)) Try.underlying37 rfl (by rw [List.length_map, HD.out]; kernel_rfl) ?_
       exact hK _ _ (hJ.quiet (World.grownBy.refl _ _) (by decide) (fun h => h) rfl)
      ·refine ⟨rfl, ?_⟩
       intro a W L vs hJ hk hb0 hd K hK
       obtain ⟨h1, b33⟩ := hd ⟨1, .data⟩ (by simp) rfl
       replace b33 : a.tmps[33]?.getD undef = vs 1 := b33
       rw [show vs 1 = _ from hJ.1.get h1 (fun _ => by decide)] at b33
       refine wp_lit1 el_dg (.tmp 33) rfl (d.map bv) (show a.eval (.tmp 33) = _ from by simp only [Act.eval, Array.getD_eq_getD_getElem?]; exact b33) (by rw [List.length_map]; exact HD.out) (by decide) ?_
       exact hK _ _ (hJ.quiet (grown_alloc _ _) (by decide) (fun h => h.alloc _) ⟨_, _, rfl, (Rd.lit W (d.map bv).toArray _ 1 (by rw [List.size_toArray, List.length_map]; exact HD.out)).mono (by simp)⟩)
      ·refine ⟨rfl, ?_⟩
       intro a W L vs hJ hk hb0 hd K hK
       obtain ⟨h0, b32⟩ := hd ⟨0, .data⟩ (by simp) rfl
       replace b32 : a.tmps[32]?.getD undef = vs 0 := b32
       rw [show vs 0 = _ from hJ.1.get h0 (fun _ => by decide)] at b32
       obtain ⟨h2, b34⟩ := hd ⟨2, .data⟩ (by simp) rfl
       replace b34 : a.tmps[34]?.getD undef = vs 2 := b34
       obtain ⟨A9, c9, e2, hrd⟩ : ∃ A9 c9, vs 2 = .slice A9 1 c9 ∧ Rd W W.heap.size 32 A9 1 (d.map bv) := hJ.1.get h2 (fun h3 => by rw [hk] at h3; cases h3)
       rw [e2] at b34
       have hown := hJ.2.2 hk
       refine wp_app6 _ el_dg (.tmp 32) (.tmp 34) rfl (w.heap.size + 1) A' k c' _ (show a.eval (.tmp 32) = _ from by simp only [Act.eval, Array.getD_eq_getD_getElem?]; exact b32) hown W.heap.size A9 1 c9 (d.map bv) (show a.eval (.tmp 34) = _ from by simp only [Act.eval, Array.getD_eq_getD_getElem?]; exact b34) hrd (bv_one _) (by omega) hJ.2.1 ?_
       intro A3 c3 w3 hown3 hg3 hob3
       refine hK _ _ (hJ.write hg3 (HAP.out _ _ _ _ _ hown) hk ?_ ⟨Nat.le_trans hJ.2.1 hg3.size, A3, c3, rfl, hown3⟩)
       intro j u hb hne hf
       match j, hb, hne, hf with
       | 0, _, _, hf => exact hf
       | 1, _, _, hf => exact hf
       | 2, hb, _, _ => exact absurd hb (by decide)
       | 3, _, hne, _ => exact absurd rfl hne
       | 4, _, _, hf => exact hf
       | 5, _, _, hf => exact hf
       | 6, _, _, hf => exact hf
       | _ + 7, _, _, hf => exact hf
      ·refine ⟨rfl, ?_⟩
       intro a W L vs hJ hk hb0 hd K hK
       have b0 := hb0 0 rfl
       go_simp
       exact hK _ _ (hJ.quiet (World.grownBy.refl _ _) (by decide) (fun h => h) rfl)
      ·refine ⟨rfl, ?_⟩
       intro a W L vs hJ hk hb0 hd K hK
       have b6 := hb0 6 rfl
       go_simp
       exact hK _ _ (hJ.quiet (World.grownBy.refl _ _) (by decide) (fun h => h) rfl)
      ·refine ⟨rfl, ?_⟩
       intro a W L vs hJ hk hb0 hd K hK
       obtain ⟨h4, b36⟩ := hd ⟨4, .data⟩ (by simp) rfl
       replace b36 : a.tmps[36]?.getD undef = vs 4 := b36
       rw [show vs 4 = _ from hJ.1.get h4 (fun _ => by decide)] at b36
       obtain ⟨h5, b37⟩ := hd ⟨5, .data⟩ (by simp) rfl
       replace b37 : a.tmps[37]?.getD undef = vs 5 := b37
       rw [show vs 5 = _ from hJ.1.get h5 (fun _ => by decide)] at b37
       have d2 : 0 ≤ (k : Int) ∧ (k : Int) ≤ (n : Int) := by omega
       have d3 : ((k : Int)).toNat = k := by omega
       have hr : ∀ W, All W [.cells w.heap.size 37 (d.map bv), .low (.digs B (some ad) n xs), .kept w w.heap.size] → Rd W B 32 (if c = k then (some ad) else (some ad : Option Addr).map (·.add (k * 32))) (n - k) ((dvs (xs.drop k)).flatten) := fun W hW => by
        have hE : Digs W B (some ad) n xs ∧ B ≤ W.heap.size := hW.at_ 1 rfl
        have := hE.1.els.rd.cut (k := k) (cap := c) (by omega) HNC.out
        rw [show dvs (xs.drop k) = (dvs xs).drop k from List.map_drop, ← flat_drop k HE32.out]
        exact this
       go_simp
       exact hK _ _ (hJ.quiet (World.grownBy.refl _ _) (by decide) (fun h => h) ⟨_, _, rfl, hr⟩)
     case fin =>
      intro vs W L hJ hall
      obtain ⟨hbs, A3, c3, e3, hown⟩ : (w.heap.size + 1) ≤ W.heap.size ∧ ∃ A3 c3, vs 3 = .slice A3 (k + 1) c3 ∧ Go.Adm.Own W (w.heap.size + 1) 37 32 A3 (k + 1) c3 (((dvs (xs.take k)).flatten) ++ d.map bv) := hJ.1.get (hall 3 (by decide)) (fun _ => by decide)
      obtain ⟨A6, c6, e6, hrd⟩ : ∃ A6 c6, vs 6 = .slice A6 (n - k) c6 ∧ ∀ W, All W [.cells w.heap.size 37 (d.map bv), .low (.digs B (some ad) n xs), .kept w w.heap.size] → Rd W B 32 A6 (n - k) ((dvs (xs.drop k)).flatten) := hJ.1.get (hall 6 (by decide)) (fun _ => by decide)
      have hW := hJ.1.1
      clear hJ hall
      simp only [putAll, List.drop_succ_cons, List.drop_zero, e3, e6, Act.put, List.setIfInBounds_toArray, List.set_cons_succ, List.set_cons_zero]
      clear e3 e6
      have hr := hrd W hW
      have ha := HAP.out _ _ _ _ _ hown
      clear hrd hI
      go_wp2_with (at_builtin; refine wl_app6 _ el_dg rfl (.tmp 35) (.tmp 38) rfl (w.heap.size + 1) A3 (k + 1) c3 _ rfl hown B A6 (n - k) c6 _ rfl hr (HONE.out _) (by omega) hbs ?_; intro A7 c7 w7 hown7 hg7 hob7)
      go_ret
      have hW7 := hW.step hg7 ha
      have hfl : ((dvs (xs.take k)).flatten) ++ d.map bv ++ (dvs (xs.drop k)).flatten = (dvs (addD xs d)).flatten := by
       rw [HADD.out, HP.out]
       simp [dvs]
      rw [hfl] at hown7
      have hln : (addD xs d).length = k + 1 + (n - k) := by rw [HADD.out, HP.out, List.length_append, List.length_cons, List.length_take, List.length_drop, HN.out]; omega
      exact ⟨A7, k + 1 + (n - k), c7, rfl, ⟨Els.of hown7 (fun e he => by obtain ⟨y, hy, rfl⟩ := List.mem_map.1 he; rw [List.length_map]; exact H32A.out y hy) (by rw [dvs_len]; exact hln), H32A.out, hln⟩, hown7.cap.1, hown7.cap.2, (hW7.at_ 2 rfl : _ ∧ _).1, fun _ => hown7.less (Nat.le_succ _)⟩
  ·have d1 : decide ((k : Int) < (n : Int)) = false := by simp; omega
   have HP : Hid (placeD xs d = k) := Lib.hid (placeD_eq (by rw [HN.out]; omega) (fun j hj h2 => Hall.out j hj h2) (fun h => by rw [HN.out] at h; omega))
   go_upto_region 5 with (fail)
   refine wp_region_hopsH 11 (11 :: 12 :: 13 :: 14 :: 15 :: 16 :: 17 :: 18 :: 19 :: 20 :: 21 :: []) (.own (w.heap.size + 1) 37 32 A' k c' ((dvs (xs.take k)).flatten) :: [.cells w.heap.size 37 (d.map bv), .low (.digs B A n xs), .kept w w.heap.size])
    (.eq (.int .i64 k) :: .eq (.slice A n c) :: .eq (.int .i64 (n : Int)) :: .eq (.bool false) :: .eq (.bool false) :: .eq undef :: .eq undef :: .eq undef :: .eq undef :: .eq undef :: .eq undef :: [])
    (by kernel_rfl) (by kernel_rfl) hI rfl ?hops ?fin
   case hops =>
    refine ⟨?_, ?_, ?_, ?_, ?_, ?_, ?_, ?_, ?_, ?_, ?_, trivial⟩
    ·intro a W hW hb hd K hK
     have b6 := hb 6 rfl
     go_simp
     exact hK _ _ (World.grownBy.refl _ _) rfl
    ·intro a W hW hb hd K hK
     have b0 := hb 0 rfl
     go_simp
     exact hK _ _ (World.grownBy.refl _ _) rfl
    ·intro a W hW hb hd K hK
     have b12 : a.tmps[12]?.getD undef = _ := hd ⟨1, .data⟩ (by simp) rfl
     go_simp
     exact hK _ _ (World.grownBy.refl _ _) rfl
    ·intro a W hW hb hd K hK
     have b11 : a.tmps[11]?.getD undef = _ := hd ⟨0, .data⟩ (by simp) rfl
     have b13 : a.tmps[13]?.getD undef = _ := hd ⟨2, .data⟩ (by simp) rfl
     go_simp
     exact hK _ _ (World.grownBy.refl _ _) rfl
    ·intro a W hW hb hd K hK
     have b14 : a.tmps[14]?.getD undef = _ := hd ⟨3, .data⟩ (by simp) rfl
     go_simp
     exact hK _ _ (World.grownBy.refl _ _) rfl
    ·exact Or.inr ⟨fun v w h => by rw [show v = _ from h]; first | (intro h2; cases h2) | (simp [undef]), fun w => rfl⟩
    ·exact Or.inr ⟨fun v w h => by rw [show v = _ from h]; first | (intro h2; cases h2) | (simp [undef]), fun w => rfl⟩
    ·exact Or.inr ⟨fun v w h => by rw [show v = _ from h]; first | (intro h2; cases h2) | (simp [undef]), fun w => rfl⟩
    ·exact Or.inr ⟨fun v w h => by rw [show v = _ from h]; first | (intro h2; cases h2) | (simp [undef]), fun w => rfl⟩
    ·exact Or.inr ⟨fun v w h => by rw [show v = _ from h]; first | (intro h2; cases h2) | (simp [undef]), fun w => rfl⟩
    ·exact Or.inr ⟨fun v w h => by rw [show v = _ from h]; first | (intro h2; cases h2) | (simp [undef]), fun w => rfl⟩
   case fin =>
    intro vs wq hI1 hv
    have e4 : vs 4 = _ := hv 4 (by decide)
    have e10 : vs 10 = _ := hv 10 (by decide)
    clear hv
    simp only [putAll, List.drop_succ_cons, List.drop_zero, e4, e10, Act.put, List.setIfInBounds_toArray, List.set_cons_succ, List.set_cons_zero]
    clear e4 e10
    have hsr1 : (w.heap.size + 1) ≤ wq.heap.size := Cells.lt (hI1.at_ 1 rfl)
    clear hI hsr
    have hI := hI1
    have hsr := hsr1
    clear hI1 hsr1
    go_upto_region 8 with (fail)
    refine wp_region_cut 7 [32, 33, 34, 35, 36, 37, 38] (JIns [.cells w.heap.size 37 (d.map bv), .low (.digs B A n xs), .kept w w.heap.size]
     [.eq (.slice A' k c'), .eq (.agg (d.map bv).toArray), .rd 32 1 (d.map bv), .own (w.heap.size + 1) 37 32 (k + 1) (((dvs (xs.take k)).flatten) ++ d.map bv), .eq (.slice A n c), .eq (.int .i64 k), .gen (fun _ v => ∃ A6 c6, v = .slice A6 (n - k) c6 ∧ ∀ W, All W [.cells w.heap.size 37 (d.map bv), .low (.digs B A n xs), .kept w w.heap.size] → Rd W B 32 A6 (n - k) ((dvs (xs.drop k)).flatten)) (fun _ _ _ _ h => h)]
     (fun W => Go.Adm.Own W (w.heap.size + 1) 37 32 A' k c' ((dvs (xs.take k)).flatten)) (w.heap.size + 1))
     (by kernel_rfl) (by kernel_rfl) ⟨JW.start ⟨hI.drew.at_ 1 rfl, hI.drew.at_ 2 rfl, hI.drew.at_ 3 rfl, trivial⟩, hsr, fun _ => hI.drew.at_ 0 rfl⟩ rfl ?hops ?fin
    case hops =>
     refine ⟨?_, ?_, ?_, ?_, ?_, ?_, ?_, trivial⟩
     ·refine ⟨rfl, ?_⟩
      intro a W L vs hJ hk hb0 hd K hK
      have b5 := hb0 5 rfl
      go_simp
      exact hK _ _ (hJ.quiet (World.grownBy.refl _ _) (by decide) (fun h => h) rfl)
     ·refine ⟨rfl, ?_⟩
      intro a W L vs hJ hk hb0 hd K hK
      have b3 := hb0 3 rfl
      refine wp_load_any 37 (.tmp 3) rfl ⟨w.heap.size, 0, none⟩ (show a.eval (.tmp 3) = _ from by simp only [Act.eval, Array.getD_eq_getD_getElem?]; exact b3) (d.map bv) _ (Cells.sub (hJ.1.1.at_ 0 rfl) 0 (fun j u hu => by rw [Nat.zero_add]; exact hu)) Try.underlying37 rfl (by rw [List.length_map, HD.out]; kernel_rfl) ?_
      exact hK _ _ (hJ.quiet (World.grownBy.refl _ _) (by decide) (fun h => h) rfl)
     ·refine ⟨rfl, ?_⟩
      intro a W L vs hJ hk hb0 hd K hK
      obtain ⟨h1, b33⟩ := hd ⟨1, .data⟩ (by simp) rfl
      replace b33 : a.tmps[33]?.getD undef = vs 1 := b33
      rw [show vs 1 = _ from hJ.1.get h1 (fun _ => by decide)] at b33
      refine wp_lit1 el_dg (.tmp 33) rfl (d.map bv) (show a.eval (.tmp 33) = _ from by simp only [Act.eval, Array.getD_eq_getD_getElem?]; exact b33) (by rw [List.length_map]; exact HD.out) (by decide) ?_
      exact hK _ _ (hJ.quiet (grown_alloc _ _) (by decide) (fun h => h.alloc _) ⟨_, _, rfl, (Rd.lit W (d.map bv).toArray _ 1 (by rw [List.size_toArray, List.length_map]; exact HD.out)).mono (by simp)⟩)
     ·refine ⟨rfl, ?_⟩
      intro a W L vs hJ hk hb0 hd K hK
      obtain ⟨h0, b32⟩ := hd ⟨0, .data⟩ (by simp) rfl
      replace b32 : a.tmps[32]?.getD undef = vs 0 := b32
      rw [show vs 0 = _ from hJ.1.get h0 (fun _ => by decide)] at b32
      obtain ⟨h2, b34⟩ := hd ⟨2, .data⟩ (by simp) rfl
      replace b34 : a.tmps[34]?.getD undef = vs 2 := b34
      obtain ⟨A9, c9, e2, hrd⟩ : ∃ A9 c9, vs 2 = .slice A9 1 c9 ∧ Rd W W.heap.size 32 A9 1 (d.map bv) := hJ.1.get h2 (fun h3 => by rw [hk] at h3; cases h3)
      rw [e2] at b34
      have hown := hJ.2.2 hk
      refine wp_app6 _ el_dg (.tmp 32) (.tmp 34) rfl (w.heap.size + 1) A' k c' _ (show a.eval (.tmp 32) = _ from by simp only [Act.eval, Array.getD_eq_getD_getElem?]; exact b32) hown W.heap.size A9 1 c9 (d.map bv) (show a.eval (.tmp 34) = _ from by simp only [Act.eval, Array.getD_eq_getD_getElem?]; exact b34) hrd (bv_one _) (by omega) hJ.2.1 ?_
      intro A3 c3 w3 hown3 hg3 hob3
      refine hK _ _ (hJ.write hg3 (HAP.out _ _ _ _ _ hown) hk ?_ ⟨Nat.le_trans hJ.2.1 hg3.size, A3, c3, rfl, hown3⟩)
      intro j u hb hne hf
      match j, hb, hne, hf with
      | 0, _, _, hf => exact hf
      | 1, _, _, hf => exact hf
      | 2, hb, _, _ => exact absurd hb (by decide)
      | 3, _, hne, _ => exact absurd rfl hne
      | 4, _, _, hf => exact hf
      | 5, _, _, hf => exact hf
      | 6, _, _, hf => exact hf
      | _ + 7, _, _, hf => exact hf
     ·refine ⟨rfl, ?_⟩
      intro a W L vs hJ hk hb0 hd K hK
      have b0 := hb0 0 rfl
      go_simp
      exact hK _ _ (hJ.quiet (World.grownBy.refl _ _) (by decide) (fun h => h) rfl)
     ·refine ⟨rfl, ?_⟩
      intro a W L vs hJ hk hb0 hd K hK
      have b6 := hb0 6 rfl
      go_simp
      exact hK _ _ (hJ.quiet (World.grownBy.refl _ _) (by decide) (fun h => h) rfl)
     ·refine ⟨rfl, ?_⟩
      intro a W L vs hJ hk hb0 hd K hK
      obtain ⟨h4, b36⟩ := hd ⟨4, .data⟩ (by simp) rfl
      replace b36 : a.tmps[36]?.getD undef = vs 4 := b36
      rw [show vs 4 = _ from hJ.1.get h4 (fun _ => by decide)] at b36
      obtain ⟨h5, b37⟩ := hd ⟨5, .data⟩ (by simp) rfl
      replace b37 : a.tmps[37]?.getD undef = vs 5 := b37
      rw [show vs 5 = _ from hJ.1.get h5 (fun _ => by decide)] at b37
      have d2 : 0 ≤ (k : Int) ∧ (k : Int) ≤ (n : Int) := by omega
      have d3 : ((k : Int)).toNat = k := by omega
      have hr : ∀ W, All W [.cells w.heap.size 37 (d.map bv), .low (.digs B A n xs), .kept w w.heap.size] → Rd W B 32 (if c = k then A else A.map (·.add (k * 32))) (n - k) ((dvs (xs.drop k)).flatten) := fun W hW => by
       have hE : Digs W B A n xs ∧ B ≤ W.heap.size := hW.at_ 1 rfl
       have := hE.1.els.rd.cut (k := k) (cap := c) (by omega) HNC.out
       rw [show dvs (xs.drop k) = (dvs xs).drop k from List.map_drop, ← flat_drop k HE32.out]
       exact this
      go_simp
      exact hK _ _ (hJ.quiet (World.grownBy.refl _ _) (by decide) (fun h => h) ⟨_, _, rfl, hr⟩)
    case fin =>
     intro vs W L hJ hall
     obtain ⟨hbs, A3, c3, e3, hown⟩ : (w.heap.size + 1) ≤ W.heap.size ∧ ∃ A3 c3, vs 3 = .slice A3 (k + 1) c3 ∧ Go.Adm.Own W (w.heap.size + 1) 37 32 A3 (k + 1) c3 (((dvs (xs.take k)).flatten) ++ d.map bv) := hJ.1.get (hall 3 (by decide)) (fun _ => by decide)
     obtain ⟨A6, c6, e6, hrd⟩ : ∃ A6 c6, vs 6 = .slice A6 (n - k) c6 ∧ ∀ W, All W [.cells w.heap.size 37 (d.map bv), .low (.digs B A n xs), .kept w w.heap.size] → Rd W B 32 A6 (n - k) ((dvs (xs.drop k)).flatten) := hJ.1.get (hall 6 (by decide)) (fun _ => by decide)
     have hW := hJ.1.1
     clear hJ hall
     simp only [putAll, List.drop_succ_cons, List.drop_zero, e3, e6, Act.put, List.setIfInBounds_toArray, List.set_cons_succ, List.set_cons_zero]
     clear e3 e6
     have hr := hrd W hW
     have ha := HAP.out _ _ _ _ _ hown
     clear hrd hI
     go_wp2_with (at_builtin; refine wl_app6 _ el_dg rfl (.tmp 35) (.tmp 38) rfl (w.heap.size + 1) A3 (k + 1) c3 _ rfl hown B A6 (n - k) c6 _ rfl hr (HONE.out _) (by omega) hbs ?_; intro A7 c7 w7 hown7 hg7 hob7)
     go_ret
     have hW7 := hW.step hg7 ha
     have hfl : ((dvs (xs.take k)).flatten) ++ d.map bv ++ (dvs (xs.drop k)).flatten = (dvs (addD xs d)).flatten := by
      rw [HADD.out, HP.out]
      simp [dvs]
     rw [hfl] at hown7
     have hln : (addD xs d).length = k + 1 + (n - k) := by rw [HADD.out, HP.out, List.length_append, List.length_cons, List.length_take, List.length_drop, HN.out]; omega
     exact ⟨A7, k + 1 + (n - k), c7, rfl, ⟨Els.of hown7 (fun e he => by obtain ⟨y, hy, rfl⟩ := List.mem_map.1 he; rw [List.length_map]; exact H32A.out y hy) (by rw [dvs_len]; exact hln), H32A.out, hln⟩, hown7.cap.1, hown7.cap.2, (hW7.at_ 2 rfl : _ ∧ _).1, fun _ => hown7.less (Nat.le_succ _)⟩

end Go.Proofs.Ytfakjamocpamiaa

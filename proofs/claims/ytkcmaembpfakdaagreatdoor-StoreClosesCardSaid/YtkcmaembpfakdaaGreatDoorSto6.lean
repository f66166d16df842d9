/- The place of a digest in a store: find and the binary search. -/
import Derived.Test.YtkcmaembpfakdaaGreatDoorSto5
set_option linter.unusedSimpArgs false
set_option linter.unusedVariables false
set_option maxRecDepth 100000
namespace Go.Adm
open Go Go.RowKit
theorem lessD_nil (y : UInt8) (ys : List UInt8) : lessD [] (y :: ys) = true := rfl
theorem lessD_none : ∀ x : List UInt8, lessD x [] = false
  | [] => rfl
  | _ :: _ => rfl
theorem lessD_cons (a b : UInt8) (x y : List UInt8) : lessD (a :: x) (b :: y) = true ↔ a < b ∨ (a = b ∧ lessD x y = true) := by
  unfold lessD
  rw [show Lib.compareBytes (a :: x) (b :: y) = if a < b then -1 else if b < a then 1 else Lib.compareBytes x y from rfl]
  by_cases h1 : a < b
  · rw [if_pos h1]; exact ⟨fun _ => Or.inl h1, fun _ => rfl⟩
  · rw [if_neg h1]
    by_cases h2 : b < a
    · rw [if_pos h2]
      refine ⟨fun h => by simp at h, fun h => ?_⟩
      rcases h with h | h
      · exact absurd h h1
      · rw [h.1] at h2; exact absurd h2 (UInt8.lt_irrefl b)
    · rw [if_neg h2]
      have h3 : a = b := by
        have h4 : ¬ a.toNat < b.toNat := fun h => h1 (UInt8.lt_iff_toNat_lt.2 h)
        have h5 : ¬ b.toNat < a.toNat := fun h => h2 (UInt8.lt_iff_toNat_lt.2 h)
        exact UInt8.toNat_inj.1 (by omega)
      exact ⟨fun h => Or.inr ⟨h3, h⟩, fun h => by
        rcases h with h | h
        · exact absurd h h1
        · exact h.2⟩
theorem lessD_irrefl (x : List UInt8) : lessD x x = false := by
  unfold lessD
  rw [cmp_same]; rfl
theorem lessD_trans : ∀ {x y z : List UInt8}, lessD x y = true → lessD y z = true → lessD x z = true
  | _, _, [], _, h => by rw [lessD_none] at h; cases h
  | _, [], _ :: _, h, _ => by rw [lessD_none] at h; cases h
  | [], _ :: _, _ :: _, _, _ => rfl
  | a :: x, b :: y, c :: z, h1, h2 => by
    rw [lessD_cons] at h1 h2 ⊢
    rcases h1 with h1 | ⟨rfl, h1⟩
    · rcases h2 with h2 | ⟨rfl, h2⟩
      · exact Or.inl (UInt8.lt_trans h1 h2)
      · exact Or.inl h1
    · rcases h2 with h2 | ⟨rfl, h2⟩
      · exact Or.inl h2
      · exact Or.inr ⟨rfl, lessD_trans h1 h2⟩
theorem lessD_total : ∀ {x y : List UInt8}, lessD x y = false → lessD y x = false → x = y
  | [], [], _, _ => rfl
  | [], _ :: _, h, _ => by rw [lessD_nil] at h; cases h
  | _ :: _, [], _, h => by rw [lessD_nil] at h; cases h
  | a :: x, b :: y, h1, h2 => by
    have h3 : ¬ (a < b ∨ (a = b ∧ lessD x y = true)) := fun h => by rw [(lessD_cons a b x y).2 h] at h1; cases h1
    have h4 : ¬ (b < a ∨ (b = a ∧ lessD y x = true)) := fun h => by rw [(lessD_cons b a y x).2 h] at h2; cases h2
    have h5 : a = b := by
      have h6 : ¬ a.toNat < b.toNat := fun h => h3 (Or.inl (UInt8.lt_iff_toNat_lt.2 h))
      have h7 : ¬ b.toNat < a.toNat := fun h => h4 (Or.inl (UInt8.lt_iff_toNat_lt.2 h))
      exact UInt8.toNat_inj.1 (by omega)
    subst h5
    have h8 : lessD x y = false := by
      cases hq : lessD x y with
      | true => exact absurd (Or.inr ⟨rfl, hq⟩) h3
      | false => rfl
    have h9 : lessD y x = false := by
      cases hq : lessD y x with
      | true => exact absurd (Or.inr ⟨rfl, hq⟩) h4
      | false => rfl
    rw [lessD_total h8 h9]
theorem lessD_cmp {x y : List UInt8} : Lib.compareBytes x y = 0 ↔ x = y := by
  refine ⟨fun h => ?_, fun h => by rw [h, cmp_same]⟩
  induction x generalizing y with
  | nil =>
    cases y with
    | nil => rfl
    | cons b y => exact absurd h (by rw [show Lib.compareBytes [] (b :: y) = -1 from rfl]; decide)
  | cons a x ih =>
    cases y with
    | nil => exact absurd h (by rw [show Lib.compareBytes (a :: x) [] = 1 from rfl]; decide)
    | cons b y =>
      rw [show Lib.compareBytes (a :: x) (b :: y) = if a < b then -1 else if b < a then 1 else Lib.compareBytes x y from rfl] at h
      by_cases h1 : a < b
      · rw [if_pos h1] at h; exact absurd h (by decide)
      · rw [if_neg h1] at h
        by_cases h2 : b < a
        · rw [if_pos h2] at h; exact absurd h (by decide)
        · rw [if_neg h2] at h
          have h4 : ¬ a.toNat < b.toNat := fun h => h1 (UInt8.lt_iff_toNat_lt.2 h)
          have h5 : ¬ b.toNat < a.toNat := fun h => h2 (UInt8.lt_iff_toNat_lt.2 h)
          rw [UInt8.toNat_inj.1 (show a.toNat = b.toNat by omega), ih h]
/-- ascending digests -/
def SortedB (l : List Bl) : Prop := ∀ i j (hi : i < j) (hj : j < l.length), lessD (l[i]'(Nat.lt_trans hi hj)).d l[j].d = true
theorem validB_sorted {l : List Bl} (h : validB l = true) : SortedB l := by
  have h1 : ∀ k, k < l.length → okAtB l k = true := fun k hk => by
    have := (Bool.and_eq_true_iff.1 h).2
    exact List.all_eq_true.1 this k (List.mem_range.2 hk)
  intro i j
  induction j with
  | zero => intro hi; omega
  | succ j ih =>
    intro hi hj
    have h2 := h1 (j + 1) hj
    rw [okAtB_at l (j + 1) hj] at h2
    have h3 : lessD l[j].d l[j + 1].d = true := by
      have := (Bool.and_eq_true_iff.1 h2).2
      simp only [List.getElem?_eq_getElem (show j < l.length by omega)] at this
      exact this
    rcases Nat.lt_or_eq_of_le (Nat.le_of_lt_succ hi) with h4 | h4
    · exact lessD_trans (ih h4 (by omega)) h3
    · subst h4; exact h3
theorem validB_each {l : List Bl} (h : validB l = true) : ∀ x ∈ l, x.n ≤ 262144 := by
  intro x hx
  obtain ⟨k, hk, rfl⟩ := List.getElem_of_mem hx
  have := List.all_eq_true.1 (Bool.and_eq_true_iff.1 h).2 k (List.mem_range.2 hk)
  rw [okAtB_at l k hk] at this
  exact of_decide_eq_true (Bool.and_eq_true_iff.1 this).1
theorem validB_len {l : List Bl} (h : validB l = true) : l.length ≤ 256 := of_decide_eq_true (Bool.and_eq_true_iff.1 h).1
/-- the place of a digest -/
def placeB (l : List Bl) (d : List UInt8) : Nat := (l.takeWhile fun x => lessD x.d d).length
theorem placeB_eq : ∀ {l : List Bl} {d : List UInt8} {k : Nat}, k ≤ l.length → (∀ p (hp : p < l.length), p < k → lessD l[p].d d = true) → (∀ (hk : k < l.length), lessD l[k].d d = false) → placeB l d = k
  | [], d, k, hk, _, _ => by
    have : k = 0 := by simpa using hk
    subst this; rfl
  | x :: l, d, 0, _, _, h => by
    have := h (by simp)
    unfold placeB
    rw [List.takeWhile_cons_of_neg (by simpa using this)]; rfl
  | x :: l, d, k + 1, hk, h1, h2 => by
    have h0 := h1 0 (by simp) (by omega)
    unfold placeB
    rw [List.takeWhile_cons_of_pos (by simpa using h0), List.length_cons]
    have := placeB_eq (l := l) (d := d) (k := k) (by simpa using hk) (fun p hp hpk => by have := h1 (p + 1) (by simpa using hp) (by omega); simpa using this) (fun hq => by have := h2 (by simpa using hq); simpa using this)
    unfold placeB at this
    rw [this]
theorem placeB_le (l : List Bl) (d : List UInt8) : placeB l d ≤ l.length := (List.takeWhile_prefix _).length_le
theorem find_some {l : List Bl} {d : List UInt8} {k : Nat} (hk : k < l.length) (he : l[k].d = d) : (lookB l d).isSome = true := by
  unfold lookB
  rw [List.find?_isSome]
  exact ⟨l[k], List.getElem_mem hk, by simpa using he⟩
theorem find_none {l : List Bl} {d : List UInt8} {k : Nat} (hs : SortedB l) (h1 : ∀ p (hp : p < l.length), p < k → lessD l[p].d d = true) (h2 : ∀ (hk : k < l.length), lessD l[k].d d = false ∧ l[k].d ≠ d) : (lookB l d).isSome = false := by
  rw [lookB_miss, Option.isSome_none]
  intro p hp he
  rcases Nat.lt_trichotomy p k with h | h | h
  · have := h1 p hp h
    rw [he, lessD_irrefl] at this; cases this
  · subst h; exact (h2 hp).2 he
  · have h3 := hs k p h hp
    rw [he, (h2 (by omega)).1] at h3; cases h3
end Go.Adm
namespace Go.Proofs.YtkcmaembpfakdaaGreatDoor
open Go Go.RowKit Go.Adm

set_option maxHeartbeats 1600000 in
theorem find1_any (w : World) (x : Bl) (d : List UInt8) (hx : x.d.length = 32) (hd : d.length = 32) :
    Calls Tryz.prog 59 #[.agg (blC x).toArray, .agg (d.map bv).toArray] w fun e w' => e = .returned (.int .i64 (Lib.compareBytes x.d d)) ∧ Below w.heap.size w w' := by
  have hR : All w [.kept w w.heap.size] := ⟨⟨Below.refl _ _, Nat.le_refl _⟩, trivial⟩
  have HX := Lib.hid hx
  have HD := Lib.hid hd
  clear hx hd
  go_enter Tryz.func59, Tryz.ntmps59
  go_upto_region 1 with (fail)
  refine wp_gen ((hR.new (l := blC x) _ 51 rfl rfl).new (l := d.map bv) (g := w.heap.size + 1) _ 32 (by simp) rfl) ?_
  intro W1 hW1
  clear hR
  have hcl := order_any W1 x.d d HX.out HD.out
  go_wp2_with (first
    | (refine wl_load_any rfl 32 (.tmp 5) rfl ⟨w.heap.size, 0, none⟩ rfl (x.d.map bv) _ (Cells.sub (hW1.at_ 1 rfl) 0 (bl_sub0 x)) Tryz.underlying32 rfl (by rw [List.length_map, HX.out]; kernel_rfl) ?_)
    | (refine wl_load_any rfl 32 (.tmp 3) rfl ⟨w.heap.size + 1, 0, none⟩ rfl (d.map bv) _ (Cells.sub (hW1.at_ 0 rfl) 0 (fun j u h => by rwa [Nat.zero_add])) Tryz.underlying32 rfl (by rw [List.length_map, HD.out]; kernel_rfl) ?_))
  refine hcl.mono ?_
  clear hcl
  rintro e w2 ⟨rfl, hb2⟩
  have hW2 := hW1.call hb2
  go_wp2_with fail
  go_ret
  exact ⟨rfl, (hW2.at_ 2 rfl : _ ∧ _).1⟩

set_option maxHeartbeats 3200000 in
theorem search_any (w : World) (B : Nat) (A : Option Addr) (n c : Nat) (l : List Bl) (d : List UInt8) (hl : Blobs w B A n l) (hs : SortedB l) (hd : d.length = 32) (hn2 : n ≤ 1000000) (hB : B ≤ w.heap.size) :
    Calls Tryz.prog 58 #[.slice A n c, .agg (d.map bv).toArray, (.func (.func 59) #[] #[])] w fun e w' => e = .returned (.tuple #[.int .i64 (placeB l d : Nat), .bool (lookB l d).isSome]) ∧ Below w.heap.size w w' := by
  have hR : All w [.low (.blobs B A n l), .kept w w.heap.size] := ⟨⟨hl, hB⟩, ⟨Below.refl _ _, Nat.le_refl _⟩, trivial⟩
  have HN := Lib.hid hl.len
  have HD := Lib.hid hd
  have HS := Lib.hid hs
  clear hl hd hs
  go_enter Tryz.func58, Tryz.ntmps58
  go_upto_region 1 with (fail)
  refine wp_gen (hR.new (l := d.map bv) _ 32 rfl rfl) ?_
  intro W1 hW1
  clear hR
  go_wp2
  go_loopw [9, 10, 11] (fun i j _ wr => ∃ a b : Nat, a ≤ b ∧ b ≤ n ∧ i = .int .i64 a ∧ j = .int .i64 b ∧ Hid (∀ p (hp : p < l.length), p < a → lessD l[p].d d = true) ∧ Hid (∀ p (hp : p < l.length), b ≤ p → lessD l[p].d d = false) ∧ All wr [.cells w.heap.size 32 (d.map bv), .low (.blobs B A n l), .kept w w.heap.size]) (fun i j _ _ => (intOf j).toNat - (intOf i).toNat)
  case atStart => exact ⟨0, n, by omega, Nat.le_refl _, rfl, rfl, Lib.hid (fun p hp h => absurd h (by omega)), Lib.hid (fun p hp h => absurd hp (by have := HN.out; omega)), hW1⟩
  case round =>
    clear hW1
    obtain ⟨i, j, hij, hjn, rfl, rfl, HA, HB, hI⟩ := hrel
    by_cases hlt : i < j
    · obtain ⟨h, hh⟩ : ∃ h, h = (i + j) / 2 := ⟨_, rfl⟩
      have hhi : i ≤ h := by omega
      have hhj : h < j := by omega
      have hkl : h < l.length := by rw [HN.out]; omega
      have hbl := (hI.at_ 1 rfl : Blobs wr B A n l ∧ B ≤ wr.heap.size)
      obtain ⟨ad, rfl, hadB, hc⟩ := Els.elem hbl.1.els hkl
      have HX : Hid (∀ W, All W [.cells w.heap.size 32 (d.map bv), .low (.blobs B (some ad) n l), .kept w w.heap.size] → ∀ q s, (blC l[h])[q]? = some s → W.cell? ((ad.add (h * 33)).add q) = some s) := Lib.hid (fun W hW => by
        obtain ⟨ad', e, _, hc⟩ := Els.elem (hW.at_ 1 rfl : Blobs W B (some ad) n l ∧ B ≤ W.heap.size).1.els hkl
        obtain rfl := Option.some.inj e
        exact hc)
      have hx := Lib.hid (hbl.1.each _ (List.getElem_mem hkl)).d32
      have HLESS : Hid (lessD l[h].d d = true → ∀ p (hp : p < l.length), p < h + 1 → lessD l[p].d d = true) := Lib.hid (fun hq p hp hph => by
        rcases Nat.lt_or_eq_of_le (Nat.le_of_lt_succ hph) with h1 | h1
        · exact lessD_trans (HS.out p h h1 hkl) hq
        · subst h1; exact hq)
      have HMORE : Hid (lessD l[h].d d = false → ∀ p (hp : p < l.length), h ≤ p → lessD l[p].d d = false) := Lib.hid (fun hq p hp hph => by
        rcases Nat.lt_or_eq_of_le hph with h1 | h1
        · cases hz : lessD l[p].d d with
          | false => rfl
          | true => rw [lessD_trans (HS.out h p h1 hp) hz] at hq; cases hq
        · subst h1; exact hq)
      clear hc hbl
      generalize l[h] = x at *
      have d1 : decide ((i : Int) < (j : Int)) = true := by simp; omega
      have w1 : IntKind.i64.wrap ((i : Int) + (j : Int)) = ((i + j : Nat) : Int) := by rw [IntWalk.i64_in _ (by have := HN.out; omega)]; omega
      have wk0 : (0 : Int) ≤ (h : Int) := by omega
      have wk1 : (h : Int) < (n : Int) := by omega
      have wk2 : ((h : Int)).toNat = h := by omega
      obtain ⟨v, hv⟩ : ∃ v, Lib.compareBytes x.d d = v := ⟨_, rfl⟩
      have HV := Lib.hid hv
      have HL : Hid (lessD x.d d = decide (v < 0)) := Lib.hid (by rw [lessD, hv])
      clear hv
      have w2 : IntKind.u64.wrap ((i + j : Nat) : Int) = ((i + j : Nat) : Int) := IntWalk.u64_in _ (by omega)
      have w3 : ((i : Int) + (j : Int)) / 2 = (h : Int) := by omega
      have hh1 : 2 * h ≤ i + j := by omega
      have hh2 : i + j ≤ 2 * h + 1 := by omega
      clear hh
      have w4 : IntKind.i64.wrap (h : Int) = (h : Int) := IntWalk.i64_in _ (by omega)
      go_upto_region 5 with (fail)
      refine wp_region_hops 7 [24, 25, 26, 27, 28, 29, 30] [.cells w.heap.size 32 (d.map bv), .low (.blobs B (some ad) n l), .kept w w.heap.size]
        [.eq (.func (.func 59) #[] #[]), .eq (.slice (some ad) n c), .eq (.int .i64 h), .eq (.pointer (some (ad.add (h * 33)))), .eq (.agg (blC x).toArray), .eq (.agg (d.map bv).toArray), .eq (.int .i64 v)]
        (by kernel_rfl) (by kernel_rfl) hI rfl ?hops ?fin
      case hops =>
        refine ⟨?_, ?_, ?_, ?_, ?_, ?_, ?_, trivial⟩
        · intro a W hW hb hd K hK
          have b2 := hb 2 rfl
          go_simp
          exact hK _ _ (World.grownBy.refl _ _) rfl
        · intro a W hW hb hd K hK
          have b0 := hb 0 rfl
          go_simp
          exact hK _ _ (World.grownBy.refl _ _) rfl
        · intro a W hW hb hd K hK
          have b11 := hb 11 rfl
          go_simp
          exact hK _ _ (World.grownBy.refl _ _) rfl
        · intro a W hW hb hd K hK
          have b25 : a.tmps[25]?.getD undef = _ := hd ⟨1, .data⟩ (by simp) rfl
          have b26 : a.tmps[26]?.getD undef = _ := hd ⟨2, .data⟩ (by simp) rfl
          go_simp
          exact hK _ _ (World.grownBy.refl _ _) rfl
        · intro a W hW hb hd K hK
          have b27 : a.tmps[27]?.getD undef = _ := hd ⟨3, .data⟩ (by simp) rfl
          refine wp_load_any 51 (.tmp 27) rfl (ad.add (h * 33)) (show a.eval (.tmp 27) = _ from by simp only [Act.eval, Array.getD_eq_getD_getElem?]; exact b27) (blC x) _ (HX.out W hW) Tryz.underlying51 rfl (by rw [blC_len hx.out]; kernel_rfl) ?_
          exact hK _ _ (World.grownBy.refl _ _) rfl
        · intro a W hW hb hd K hK
          have b4 := hb 4 rfl
          refine wp_load_any 32 (.tmp 4) rfl ⟨w.heap.size, 0, none⟩ (show a.eval (.tmp 4) = _ from by simp only [Act.eval, Array.getD_eq_getD_getElem?]; exact b4) (d.map bv) _ (Cells.sub (hW.at_ 0 rfl) 0 (fun j u h => by rwa [Nat.zero_add])) Tryz.underlying32 rfl (by rw [List.length_map, HD.out]; kernel_rfl) ?_
          exact hK _ _ (World.grownBy.refl _ _) rfl
        · intro a W hW hb hd K hK
          have b24 : a.tmps[24]?.getD undef = _ := hd ⟨0, .data⟩ (by simp) rfl
          have b28 : a.tmps[28]?.getD undef = _ := hd ⟨4, .data⟩ (by simp) rfl
          have b29 : a.tmps[29]?.getD undef = _ := hd ⟨5, .data⟩ (by simp) rfl
          go_simp
          refine (find1_any W x d hx.out HD.out).mono ?_
          rintro e w' ⟨rfl, hb'⟩
          exact hK _ _ (grown_of_below hb') (congrArg (Value.int .i64) HV.out)
      case fin =>
        intro vs V hV hv
        have e6 : vs 6 = _ := hv 6 (by decide)
        clear hv
        simp only [putAll, List.drop_succ_cons, List.drop_zero, e6, Act.put, List.setIfInBounds_toArray, List.set_cons_succ, List.set_cons_zero]
        clear e6
        cases hb : decide (v < 0) with
          | true =>
            have HF := Lib.hid (HLESS.out (by rw [HL.out, hb]))
            have w5 : IntKind.i64.wrap ((h : Int) + 1) = ((h + 1 : Nat) : Int) := by rw [IntWalk.i64_in _ (by omega)]; omega
            go_wp2_with fail
            exact ⟨⟨h + 1, j, by omega, hjn, rfl, rfl, HF, HB, hV⟩, by simp [intOf]; omega⟩
          | false =>
            have HF := Lib.hid (HMORE.out (by rw [HL.out, hb]))
            go_wp2_with fail
            exact ⟨⟨i, h, by omega, by omega, rfl, rfl, HA, HF, hV⟩, by simp [intOf]; omega⟩
    · obtain rfl : i = j := by omega
      have d1 : decide ((i : Int) < (i : Int)) = false := by simp
      have HP : Hid (placeB l d = i) := Lib.hid (placeB_eq (by rw [HN.out]; exact hjn) HA.out (fun hk => HB.out i hk (Nat.le_refl _)))
      by_cases hin : i < n
      · have hkl : i < l.length := by rw [HN.out]; exact hin
        have hbl := (hI.at_ 1 rfl : Blobs wr B A n l ∧ B ≤ wr.heap.size)
        obtain ⟨ad, rfl, hadB, hc⟩ := Els.elem hbl.1.els hkl
        have HX : Hid (∀ W, All W [.cells w.heap.size 32 (d.map bv), .low (.blobs B (some ad) n l), .kept w w.heap.size] → ∀ q s, (blC l[i])[q]? = some s → W.cell? ((ad.add (i * 33)).add q) = some s) := Lib.hid (fun W hW => by
          obtain ⟨ad', e, _, hc⟩ := Els.elem (hW.at_ 1 rfl : Blobs W B (some ad) n l ∧ B ≤ W.heap.size).1.els hkl
          obtain rfl := Option.some.inj e
          exact hc)
        have hx := Lib.hid (hbl.1.each _ (List.getElem_mem hkl)).d32
        have HE : Hid (l[i].d = d → (lookB l d).isSome = true) := Lib.hid (fun he => find_some hkl he)
        have HNE : Hid (l[i].d ≠ d → (lookB l d).isSome = false) := Lib.hid (fun he => find_none HS.out HA.out (fun hk => ⟨HB.out i hk (Nat.le_refl _), he⟩))
        clear hc hbl
        generalize l[i] = x at *
        have d2 : decide ((i : Int) < (n : Int)) = true := by simp; omega
        have wk0 : (0 : Int) ≤ (i : Int) := by omega
        have wk1 : (i : Int) < (n : Int) := by omega
        have wk2 : ((i : Int)).toNat = i := by omega
        obtain ⟨v, hv⟩ : ∃ v, Lib.compareBytes x.d d = v := ⟨_, rfl⟩
        have HV := Lib.hid hv
        have HZ : Hid (v = 0 ↔ x.d = d) := Lib.hid (by rw [← hv]; exact lessD_cmp)
        clear hv
        go_upto_region 8 with (fail)
        cases hb : (v == 0) with
        | true =>
          have HF := Lib.hid (HE.out (HZ.out.1 (eq_of_beq hb)))
          refine wp_region_hopsH 15 (35 :: 36 :: 37 :: 38 :: 39 :: 40 :: 41 :: 42 :: 43 :: 44 :: 45 :: 46 :: 47 :: 48 :: 6 :: []) [.cells w.heap.size 32 (d.map bv), .low (.blobs B (some ad) n l), .kept w w.heap.size]
            (.eq (.int .i64 i) :: .eq (.int .i64 i) :: .eq (.int .i64 n) :: .eq (.bool true) :: .eq (.bool true) :: .eq (.func (.func 59) #[] #[]) :: .eq (.slice (some ad) n c) :: .eq (.int .i64 i) :: .eq (.pointer (some (ad.add (i * 33)))) :: .eq (.agg (blC x).toArray) :: .eq (.agg (d.map bv).toArray) :: .eq (.int .i64 v) :: .eq (.bool true) :: .eq (.bool true) :: .eq (.int .i64 i) :: [])
            (by kernel_rfl) (by kernel_rfl) hI rfl ?hops ?fin
          case hops =>
            refine ⟨?_, ?_, ?_, ?_, ?_, ?_, ?_, ?_, ?_, ?_, ?_, ?_, ?_, ?_, ?_, trivial⟩
            · intro a W hW hb hd K hK
              have b9 := hb 9 rfl
              go_simp
              exact hK _ _ (World.grownBy.refl _ _) rfl
            · intro a W hW hb hd K hK
              have b9 := hb 9 rfl
              go_simp
              exact hK _ _ (World.grownBy.refl _ _) rfl
            · intro a W hW hb hd K hK
              have b8 := hb 8 rfl
              go_simp
              exact hK _ _ (World.grownBy.refl _ _) rfl
            · intro a W hW hb hd K hK
              have b36 : a.tmps[36]?.getD undef = _ := hd ⟨1, .data⟩ (by simp) rfl
              have b37 : a.tmps[37]?.getD undef = _ := hd ⟨2, .data⟩ (by simp) rfl
              go_simp
              exact hK _ _ (World.grownBy.refl _ _) rfl
            · intro a W hW hb hd K hK
              have b38 : a.tmps[38]?.getD undef = _ := hd ⟨3, .data⟩ (by simp) rfl
              go_simp
              exact hK _ _ (World.grownBy.refl _ _) rfl
            · refine Or.inl ⟨fun v w h => h, ?_⟩
              intro a W hW hb hd K hK
              have b2 := hb 2 rfl
              go_simp
              exact hK _ _ (World.grownBy.refl _ _) rfl
            · refine Or.inl ⟨fun v w h => h, ?_⟩
              intro a W hW hb hd K hK
              have b0 := hb 0 rfl
              go_simp
              exact hK _ _ (World.grownBy.refl _ _) rfl
            · refine Or.inl ⟨fun v w h => h, ?_⟩
              intro a W hW hb hd K hK
              have b9 := hb 9 rfl
              go_simp
              exact hK _ _ (World.grownBy.refl _ _) rfl
            · refine Or.inl ⟨fun v w h => h, ?_⟩
              intro a W hW hb hd K hK
              have b41 : a.tmps[41]?.getD undef = _ := hd ⟨6, .data⟩ (by simp) rfl
              have b42 : a.tmps[42]?.getD undef = _ := hd ⟨7, .data⟩ (by simp) rfl
              go_simp
              exact hK _ _ (World.grownBy.refl _ _) rfl
            · refine Or.inl ⟨fun v w h => h, ?_⟩
              intro a W hW hb hd K hK
              have b43 : a.tmps[43]?.getD undef = _ := hd ⟨8, .data⟩ (by simp) rfl
              refine wp_load_any 51 (.tmp 43) rfl (ad.add (i * 33)) (show a.eval (.tmp 43) = _ from by simp only [Act.eval, Array.getD_eq_getD_getElem?]; exact b43) (blC x) _ (HX.out W hW) Tryz.underlying51 rfl (by rw [blC_len hx.out]; kernel_rfl) ?_
              exact hK _ _ (World.grownBy.refl _ _) rfl
            · refine Or.inl ⟨fun v w h => h, ?_⟩
              intro a W hW hb hd K hK
              have b4 := hb 4 rfl
              refine wp_load_any 32 (.tmp 4) rfl ⟨w.heap.size, 0, none⟩ (show a.eval (.tmp 4) = _ from by simp only [Act.eval, Array.getD_eq_getD_getElem?]; exact b4) (d.map bv) _ (Cells.sub (hW.at_ 0 rfl) 0 (fun j u h => by rwa [Nat.zero_add])) Tryz.underlying32 rfl (by rw [List.length_map, HD.out]; kernel_rfl) ?_
              exact hK _ _ (World.grownBy.refl _ _) rfl
            · refine Or.inl ⟨fun v w h => h, ?_⟩
              intro a W hW hb hd K hK
              have b40 : a.tmps[40]?.getD undef = _ := hd ⟨5, .data⟩ (by simp) rfl
              have b44 : a.tmps[44]?.getD undef = _ := hd ⟨9, .data⟩ (by simp) rfl
              have b45 : a.tmps[45]?.getD undef = _ := hd ⟨10, .data⟩ (by simp) rfl
              go_simp
              refine (find1_any W x d hx.out HD.out).mono ?_
              rintro e w' ⟨rfl, hb'⟩
              exact hK _ _ (grown_of_below hb') (congrArg (Value.int .i64) HV.out)
            · refine Or.inl ⟨fun v w h => h, ?_⟩
              intro a W hW hb hd K hK
              have b46 : a.tmps[46]?.getD undef = _ := hd ⟨11, .data⟩ (by simp) rfl
              go_simp
              exact hK _ _ (World.grownBy.refl _ _) rfl
            · intro a W hW hb hd K hK
              have b39 : a.tmps[39]?.getD undef = _ := hd ⟨4, .data⟩ (by simp) rfl
              have b47 : a.tmps[47]?.getD undef = _ := hd ⟨12, .data⟩ (by simp) rfl
              go_simp
              exact hK _ _ (World.grownBy.refl _ _) rfl
            · intro a W hW hb hd K hK
              have b35 : a.tmps[35]?.getD undef = _ := hd ⟨0, .data⟩ (by simp) rfl
              go_simp
              exact hK _ _ (World.grownBy.refl _ _) rfl
          case fin =>
            intro vs V hV hv
            have e0 : vs 0 = _ := hv 0 (by decide)
            have e13 : vs 13 = _ := hv 13 (by decide)
            have e14 : vs 14 = _ := hv 14 (by decide)
            clear hv
            simp only [putAll, List.drop_succ_cons, List.drop_zero, e0, e13, e14, Act.put, List.setIfInBounds_toArray, List.set_cons_succ, List.set_cons_zero]
            clear e0 e13 e14
            go_wp2_with fail
            go_ret2
            exact ⟨by rw [HP.out, HF.out]; rfl, (hV.at_ 2 rfl : _ ∧ _).1⟩
        | false =>
          have HF := Lib.hid (HNE.out (fun h => by rw [HZ.out.2 h] at hb; exact absurd hb (by decide)))
          refine wp_region_hopsH 15 (35 :: 36 :: 37 :: 38 :: 39 :: 40 :: 41 :: 42 :: 43 :: 44 :: 45 :: 46 :: 47 :: 48 :: 6 :: []) [.cells w.heap.size 32 (d.map bv), .low (.blobs B (some ad) n l), .kept w w.heap.size]
            (.eq (.int .i64 i) :: .eq (.int .i64 i) :: .eq (.int .i64 n) :: .eq (.bool true) :: .eq (.bool true) :: .eq (.func (.func 59) #[] #[]) :: .eq (.slice (some ad) n c) :: .eq (.int .i64 i) :: .eq (.pointer (some (ad.add (i * 33)))) :: .eq (.agg (blC x).toArray) :: .eq (.agg (d.map bv).toArray) :: .eq (.int .i64 v) :: .eq (.bool false) :: .eq (.bool false) :: .eq (.int .i64 i) :: [])
            (by kernel_rfl) (by kernel_rfl) hI rfl ?hops ?fin
          case hops =>
            refine ⟨?_, ?_, ?_, ?_, ?_, ?_, ?_, ?_, ?_, ?_, ?_, ?_, ?_, ?_, ?_, trivial⟩
            · intro a W hW hb hd K hK
              have b9 := hb 9 rfl
              go_simp
              exact hK _ _ (World.grownBy.refl _ _) rfl
            · intro a W hW hb hd K hK
              have b9 := hb 9 rfl
              go_simp
              exact hK _ _ (World.grownBy.refl _ _) rfl
            · intro a W hW hb hd K hK
              have b8 := hb 8 rfl
              go_simp
              exact hK _ _ (World.grownBy.refl _ _) rfl
            · intro a W hW hb hd K hK
              have b36 : a.tmps[36]?.getD undef = _ := hd ⟨1, .data⟩ (by simp) rfl
              have b37 : a.tmps[37]?.getD undef = _ := hd ⟨2, .data⟩ (by simp) rfl
              go_simp
              exact hK _ _ (World.grownBy.refl _ _) rfl
            · intro a W hW hb hd K hK
              have b38 : a.tmps[38]?.getD undef = _ := hd ⟨3, .data⟩ (by simp) rfl
              go_simp
              exact hK _ _ (World.grownBy.refl _ _) rfl
            · refine Or.inl ⟨fun v w h => h, ?_⟩
              intro a W hW hb hd K hK
              have b2 := hb 2 rfl
              go_simp
              exact hK _ _ (World.grownBy.refl _ _) rfl
            · refine Or.inl ⟨fun v w h => h, ?_⟩
              intro a W hW hb hd K hK
              have b0 := hb 0 rfl
              go_simp
              exact hK _ _ (World.grownBy.refl _ _) rfl
            · refine Or.inl ⟨fun v w h => h, ?_⟩
              intro a W hW hb hd K hK
              have b9 := hb 9 rfl
              go_simp
              exact hK _ _ (World.grownBy.refl _ _) rfl
            · refine Or.inl ⟨fun v w h => h, ?_⟩
              intro a W hW hb hd K hK
              have b41 : a.tmps[41]?.getD undef = _ := hd ⟨6, .data⟩ (by simp) rfl
              have b42 : a.tmps[42]?.getD undef = _ := hd ⟨7, .data⟩ (by simp) rfl
              go_simp
              exact hK _ _ (World.grownBy.refl _ _) rfl
            · refine Or.inl ⟨fun v w h => h, ?_⟩
              intro a W hW hb hd K hK
              have b43 : a.tmps[43]?.getD undef = _ := hd ⟨8, .data⟩ (by simp) rfl
              refine wp_load_any 51 (.tmp 43) rfl (ad.add (i * 33)) (show a.eval (.tmp 43) = _ from by simp only [Act.eval, Array.getD_eq_getD_getElem?]; exact b43) (blC x) _ (HX.out W hW) Tryz.underlying51 rfl (by rw [blC_len hx.out]; kernel_rfl) ?_
              exact hK _ _ (World.grownBy.refl _ _) rfl
            · refine Or.inl ⟨fun v w h => h, ?_⟩
              intro a W hW hb hd K hK
              have b4 := hb 4 rfl
              refine wp_load_any 32 (.tmp 4) rfl ⟨w.heap.size, 0, none⟩ (show a.eval (.tmp 4) = _ from by simp only [Act.eval, Array.getD_eq_getD_getElem?]; exact b4) (d.map bv) _ (Cells.sub (hW.at_ 0 rfl) 0 (fun j u h => by rwa [Nat.zero_add])) Tryz.underlying32 rfl (by rw [List.length_map, HD.out]; kernel_rfl) ?_
              exact hK _ _ (World.grownBy.refl _ _) rfl
            · refine Or.inl ⟨fun v w h => h, ?_⟩
              intro a W hW hb hd K hK
              have b40 : a.tmps[40]?.getD undef = _ := hd ⟨5, .data⟩ (by simp) rfl
              have b44 : a.tmps[44]?.getD undef = _ := hd ⟨9, .data⟩ (by simp) rfl
              have b45 : a.tmps[45]?.getD undef = _ := hd ⟨10, .data⟩ (by simp) rfl
              go_simp
              refine (find1_any W x d hx.out HD.out).mono ?_
              rintro e w' ⟨rfl, hb'⟩
              exact hK _ _ (grown_of_below hb') (congrArg (Value.int .i64) HV.out)
            · refine Or.inl ⟨fun v w h => h, ?_⟩
              intro a W hW hb hd K hK
              have b46 : a.tmps[46]?.getD undef = _ := hd ⟨11, .data⟩ (by simp) rfl
              go_simp
              exact hK _ _ (World.grownBy.refl _ _) rfl
            · intro a W hW hb hd K hK
              have b39 : a.tmps[39]?.getD undef = _ := hd ⟨4, .data⟩ (by simp) rfl
              have b47 : a.tmps[47]?.getD undef = _ := hd ⟨12, .data⟩ (by simp) rfl
              go_simp
              exact hK _ _ (World.grownBy.refl _ _) rfl
            · intro a W hW hb hd K hK
              have b35 : a.tmps[35]?.getD undef = _ := hd ⟨0, .data⟩ (by simp) rfl
              go_simp
              exact hK _ _ (World.grownBy.refl _ _) rfl
          case fin =>
            intro vs V hV hv
            have e0 : vs 0 = _ := hv 0 (by decide)
            have e13 : vs 13 = _ := hv 13 (by decide)
            have e14 : vs 14 = _ := hv 14 (by decide)
            clear hv
            simp only [putAll, List.drop_succ_cons, List.drop_zero, e0, e13, e14, Act.put, List.setIfInBounds_toArray, List.set_cons_succ, List.set_cons_zero]
            clear e0 e13 e14
            go_wp2_with fail
            go_ret2
            exact ⟨by rw [HP.out, HF.out]; rfl, (hV.at_ 2 rfl : _ ∧ _).1⟩
      · have HF : Hid ((lookB l d).isSome = false) := Lib.hid (find_none HS.out HA.out (fun hk => absurd hk (by have := HN.out; omega)))
        have d2 : decide ((i : Int) < (n : Int)) = false := by simp; omega
        go_upto_region 8 with (fail)
        refine wp_region_hopsH 15 (35 :: 36 :: 37 :: 38 :: 39 :: 40 :: 41 :: 42 :: 43 :: 44 :: 45 :: 46 :: 47 :: 48 :: 6 :: []) [.cells w.heap.size 32 (d.map bv), .low (.blobs B A n l), .kept w w.heap.size]
          (.eq (.int .i64 i) :: .eq (.int .i64 i) :: .eq (.int .i64 n) :: .eq (.bool false) :: .eq (.bool false) :: .eq undef :: .eq undef :: .eq undef :: .eq undef :: .eq undef :: .eq undef :: .eq undef :: .eq undef :: .eq (.bool false) :: .eq (.int .i64 i) :: [])
          (by kernel_rfl) (by kernel_rfl) hI rfl ?hops ?fin
        case hops =>
          refine ⟨?_, ?_, ?_, ?_, ?_, ?_, ?_, ?_, ?_, ?_, ?_, ?_, ?_, ?_, ?_, trivial⟩
          · intro a W hW hb hd K hK
            have b9 := hb 9 rfl
            go_simp
            exact hK _ _ (World.grownBy.refl _ _) rfl
          · intro a W hW hb hd K hK
            have b9 := hb 9 rfl
            go_simp
            exact hK _ _ (World.grownBy.refl _ _) rfl
          · intro a W hW hb hd K hK
            have b8 := hb 8 rfl
            go_simp
            exact hK _ _ (World.grownBy.refl _ _) rfl
          · intro a W hW hb hd K hK
            have b36 : a.tmps[36]?.getD undef = _ := hd ⟨1, .data⟩ (by simp) rfl
            have b37 : a.tmps[37]?.getD undef = _ := hd ⟨2, .data⟩ (by simp) rfl
            go_simp
            exact hK _ _ (World.grownBy.refl _ _) rfl
          · intro a W hW hb hd K hK
            have b38 : a.tmps[38]?.getD undef = _ := hd ⟨3, .data⟩ (by simp) rfl
            go_simp
            exact hK _ _ (World.grownBy.refl _ _) rfl
          · exact Or.inr ⟨fun v w h => by rw [show v = _ from h]; first | (intro h2; cases h2) | (simp [undef]), fun w => rfl⟩
          · exact Or.inr ⟨fun v w h => by rw [show v = _ from h]; first | (intro h2; cases h2) | (simp [undef]), fun w => rfl⟩
          · exact Or.inr ⟨fun v w h => by rw [show v = _ from h]; first | (intro h2; cases h2) | (simp [undef]), fun w => rfl⟩
          · exact Or.inr ⟨fun v w h => by rw [show v = _ from h]; first | (intro h2; cases h2) | (simp [undef]), fun w => rfl⟩
          · exact Or.inr ⟨fun v w h => by rw [show v = _ from h]; first | (intro h2; cases h2) | (simp [undef]), fun w => rfl⟩
          · exact Or.inr ⟨fun v w h => by rw [show v = _ from h]; first | (intro h2; cases h2) | (simp [undef]), fun w => rfl⟩
          · exact Or.inr ⟨fun v w h => by rw [show v = _ from h]; first | (intro h2; cases h2) | (simp [undef]), fun w => rfl⟩
          · exact Or.inr ⟨fun v w h => by rw [show v = _ from h]; first | (intro h2; cases h2) | (simp [undef]), fun w => rfl⟩
          · intro a W hW hb hd K hK
            have b39 : a.tmps[39]?.getD undef = _ := hd ⟨4, .data⟩ (by simp) rfl
            have b47 : a.tmps[47]?.getD undef = _ := hd ⟨12, .data⟩ (by simp) rfl
            go_simp
            exact hK _ _ (World.grownBy.refl _ _) rfl
          · intro a W hW hb hd K hK
            have b35 : a.tmps[35]?.getD undef = _ := hd ⟨0, .data⟩ (by simp) rfl
            go_simp
            exact hK _ _ (World.grownBy.refl _ _) rfl
        case fin =>
          intro vs V hV hv
          have e0 : vs 0 = _ := hv 0 (by decide)
          have e13 : vs 13 = _ := hv 13 (by decide)
          have e14 : vs 14 = _ := hv 14 (by decide)
          clear hv
          simp only [putAll, List.drop_succ_cons, List.drop_zero, e0, e13, e14, Act.put, List.setIfInBounds_toArray, List.set_cons_succ, List.set_cons_zero]
          clear e0 e13 e14
          go_wp2_with fail
          go_ret2
          exact ⟨by rw [HP.out, HF.out]; rfl, (hV.at_ 2 rfl : _ ∧ _).1⟩

set_option maxHeartbeats 800000 in
theorem find_any (w : World) (B : Nat) (A : Option Addr) (n c : Nat) (l : List Bl) (d : List UInt8) (hl : Blobs w B A n l) (hs : SortedB l) (hd : d.length = 32) (hn2 : n ≤ 1000000) (hB : B ≤ w.heap.size) :
    Calls Tryz.prog 39 #[.slice A n c, .agg (d.map bv).toArray] w fun e w' => e = .returned (.tuple #[.int .i64 (placeB l d : Nat), .bool (lookB l d).isSome]) ∧ Below w.heap.size w w' := by
  have hR : All w [.low (.blobs B A n l), .kept w w.heap.size] := ⟨⟨hl, hB⟩, ⟨Below.refl _ _, Nat.le_refl _⟩, trivial⟩
  have HD := Lib.hid hd
  have HS := Lib.hid hs
  clear hl hd hs
  go_enter Tryz.func39, Tryz.ntmps39
  go_upto_region 1 with (fail)
  refine wp_gen (hR.new (l := d.map bv) _ 32 rfl rfl) ?_
  intro W1 hW1
  clear hR
  have hcl := search_any W1 B A n c l d (hW1.at_ 1 rfl : Blobs W1 B A n l ∧ _).1 HS.out HD.out hn2 (hW1.at_ 1 rfl : _ ∧ B ≤ W1.heap.size).2
  go_wp2_with (refine wl_load_any rfl 32 (.tmp 3) rfl ⟨w.heap.size, 0, none⟩ rfl (d.map bv) _ (Cells.sub (hW1.at_ 0 rfl) 0 (fun j u h => by rwa [Nat.zero_add])) Tryz.underlying32 rfl (by rw [List.length_map, HD.out]; kernel_rfl) ?_)
  refine hcl.mono ?_
  clear hcl
  rintro e w2 ⟨rfl, hb2⟩
  have hW2 := hW1.call hb2
  go_wp2_with fail
  go_ret2
  exact ⟨rfl, (hW2.at_ 2 rfl : _ ∧ _).1⟩
end Go.Proofs.YtkcmaembpfakdaaGreatDoor

/- Merkle trees over lists of digests: both sides. -/
import Derived.Test.YtahfhlpolhibdaaSto25
import Derived.Test.YtahfhlpolhibdaaSto15
import Derived.Test.YtahfhlpolhibdaaLayBits
import Derived.Laws.MathBits
set_option linter.unusedSimpArgs false
set_option linter.unusedVariables false
set_option maxRecDepth 100000
namespace Go.Adm
open Go Go.RowKit
/-- where a list is split -/
def kOf (n : Nat) : Nat := 2 ^ (Lib.bitLen (n - 1) - 1)
def treeF : Nat → List (List UInt8) → List UInt8
  | 0, _ => z32
  | f + 1, l => if l.length = 0 then z32 else if l.length = 1 then l.headD [] else nodeS (treeF f (l.take (kOf l.length))) (treeF f (l.drop (kOf l.length)))
/-- the root of the tree over a list of digests -/
def treeS (l : List (List UInt8)) : List UInt8 := treeF l.length l
theorem bl_step (f x : Nat) (h : x ≠ 0) : Lib.bitLenAux (f + 1) x = 1 + Lib.bitLenAux f (x / 2) := by
  rw [Lib.bitLenAux, if_neg h]
theorem bl_spec : ∀ (f x : Nat), x < 2 ^ f → x ≠ 0 → 0 < Lib.bitLenAux f x ∧ 2 ^ (Lib.bitLenAux f x - 1) ≤ x ∧ x < 2 ^ Lib.bitLenAux f x
  | 0, x, h, h0 => by simp at h; omega
  | f + 1, x, h, h0 => by
    rw [bl_step f x h0]
    by_cases h1 : x / 2 = 0
    · rw [h1]
      have e : Lib.bitLenAux f 0 = 0 := by cases f <;> simp [Lib.bitLenAux]
      rw [e]
      have : x = 1 := by omega
      subst this
      decide
    · obtain ⟨i1, i2, i3⟩ := bl_spec f (x / 2) (by rw [Nat.pow_succ] at h; omega) h1
      generalize Lib.bitLenAux f (x / 2) = b at *
      obtain ⟨c, rfl⟩ : ∃ c, b = c + 1 := ⟨b - 1, by omega⟩
      have e1 : 1 + (c + 1) - 1 = c + 1 := by omega
      have e2 : c + 1 - 1 = c := by omega
      rw [e1]
      rw [e2] at i2
      refine ⟨by omega, by rw [Nat.pow_succ]; omega, ?_⟩
      rw [show 1 + (c + 1) = (c + 1) + 1 from by omega, Nat.pow_succ]
      omega
theorem kOf_spec {n : Nat} (h : 2 ≤ n) (hn : n ≤ 2000000) : kOf n < n ∧ n ≤ 2 * kOf n ∧ 0 < kOf n ∧ Lib.bitLen (n - 1) - 1 < 21 ∧ 1 ≤ Lib.bitLen (n - 1) := by
  obtain ⟨i1, i2, i3⟩ := bl_spec 64 (n - 1) (by omega) (by omega)
  show 2 ^ (Lib.bitLenAux 64 (n - 1) - 1) < n ∧ n ≤ 2 * 2 ^ (Lib.bitLenAux 64 (n - 1) - 1) ∧ 0 < 2 ^ (Lib.bitLenAux 64 (n - 1) - 1) ∧ Lib.bitLenAux 64 (n - 1) - 1 < 21 ∧ 1 ≤ Lib.bitLenAux 64 (n - 1)
  generalize Lib.bitLenAux 64 (n - 1) = b at *
  obtain ⟨c, rfl⟩ : ∃ c, b = c + 1 := ⟨b - 1, by omega⟩
  have e2 : c + 1 - 1 = c := by omega
  rw [e2] at i2 ⊢
  rw [Nat.pow_succ] at i3
  refine ⟨by omega, by omega, Nat.two_pow_pos c, ?_, by omega⟩
  rcases Nat.lt_or_ge c 21 with h1 | h1
  · exact h1
  · have : 2 ^ 21 ≤ 2 ^ c := Nat.pow_le_pow_right (by decide) h1
    omega
theorem treeF_enough : ∀ (f g : Nat) (l : List (List UInt8)), l.length ≤ f → l.length ≤ g → l.length ≤ 2000000 → treeF f l = treeF g l
  | 0, 0, l, _, _, _ => rfl
  | 0, g + 1, l, h, _, _ => by
    have : l.length = 0 := by omega
    rw [treeF, treeF, if_pos this]
  | f + 1, 0, l, _, h, _ => by
    have : l.length = 0 := by omega
    rw [treeF, treeF, if_pos this]
  | f + 1, g + 1, l, hf, hg, hm => by
    rw [treeF, treeF]
    by_cases h0 : l.length = 0
    · rw [if_pos h0, if_pos h0]
    · rw [if_neg h0, if_neg h0]
      by_cases h1 : l.length = 1
      · rw [if_pos h1, if_pos h1]
      · rw [if_neg h1, if_neg h1]
        obtain ⟨k1, k2, k3, _⟩ := kOf_spec (n := l.length) (by omega) hm
        rw [treeF_enough f g (l.take (kOf l.length)) (by rw [List.length_take]; omega) (by rw [List.length_take]; omega) (by rw [List.length_take]; omega),
          treeF_enough f g (l.drop (kOf l.length)) (by rw [List.length_drop]; omega) (by rw [List.length_drop]; omega) (by rw [List.length_drop]; omega)]
theorem treeS_zero {l : List (List UInt8)} (h : l.length = 0) : treeS l = z32 := by
  unfold treeS; rw [h, treeF]
theorem treeS_one {l : List (List UInt8)} (h : l.length = 1) : treeS l = l.headD [] := by
  unfold treeS; rw [h, treeF, if_neg (by omega), if_pos h]
theorem treeS_step {l : List (List UInt8)} (h : 2 ≤ l.length) (hm : l.length ≤ 2000000) : treeS l = nodeS (treeS (l.take (kOf l.length))) (treeS (l.drop (kOf l.length))) := by
  obtain ⟨f, hf⟩ : ∃ f, l.length = f + 1 := ⟨l.length - 1, by omega⟩
  obtain ⟨k1, k2, k3, _⟩ := kOf_spec h hm
  have e : treeF (f + 1) l = nodeS (treeF f (l.take (kOf l.length))) (treeF f (l.drop (kOf l.length))) := by
    rw [treeF, if_neg (by omega), if_neg (by omega)]
  show treeF l.length l = nodeS (treeF _ _) (treeF _ _)
  rw [hf] at k1 k2 ⊢
  rw [e, hf, treeF_enough f (l.take (kOf (f + 1))).length _ (by rw [List.length_take]; omega) (Nat.le_refl _) (by rw [List.length_take]; omega),
    treeF_enough f (l.drop (kOf (f + 1))).length _ (by rw [List.length_drop]; omega) (Nat.le_refl _) (by rw [List.length_drop]; omega)]
theorem treeS_len : ∀ (m : Nat) {l : List (List UInt8)}, l.length ≤ m → l.length ≤ 2000000 → (∀ x ∈ l, x.length = 32) → (treeS l).length = 32
  | m, l, h, hm, he => by
    by_cases h0 : l.length = 0
    · rw [treeS_zero h0]; rfl
    · by_cases h1 : l.length = 1
      · rw [treeS_one h1]
        cases l with
        | nil => cases h1
        | cons x r => exact he x List.mem_cons_self
      · rw [treeS_step (by omega) hm]; exact nodeS_len _ _
theorem Digs.take {w : World} {B n k : Nat} {A : Option Addr} {xs : List (List UInt8)} (h : Digs w B A n xs) (hk : k ≤ n) : Digs w B A k (xs.take k) := by
  refine ⟨?_, fun x hx => h.each x (List.mem_of_mem_take hx), by rw [List.length_take, h.len]; omega⟩
  have := h.els.take hk
  unfold dvs at this ⊢
  rwa [List.map_take]
theorem Digs.cut {w : World} {B n k : Nat} {ad : Addr} {xs : List (List UInt8)} (h : Digs w B (some ad) n xs) (hk : k < n) : Digs w B (some (ad.add (k * 32))) (n - k) (xs.drop k) := by
  refine ⟨?_, fun x hx => h.each x (List.mem_of_mem_drop hx), by rw [List.length_drop, h.len]⟩
  have := h.els.cut (cap := n) (Nat.le_of_lt hk) (Nat.le_refl _)
  rw [if_neg (by omega)] at this
  unfold dvs at this ⊢
  rwa [List.map_drop]
/-- the exponent of a power that is next below -/
theorem pow_next {n j : Nat} (h : 2 ≤ n) (hn : n ≤ 2000000) (h1 : 2 ^ j < n) (h2 : n ≤ 2 * 2 ^ j) : 2 ^ j = kOf n := by
  obtain ⟨k1, k2, _⟩ := kOf_spec h hn
  unfold kOf at *
  generalize Lib.bitLen (n - 1) - 1 = i at *
  rcases Nat.lt_trichotomy i j with h3 | h3 | h3
  · have : 2 ^ (i + 1) ≤ 2 ^ j := Nat.pow_le_pow_right (by decide) h3
    rw [Nat.pow_succ] at this; omega
  · rw [h3]
  · have : 2 ^ (j + 1) ≤ 2 ^ i := Nat.pow_le_pow_right (by decide) h3
    rw [Nat.pow_succ] at this; omega
end Go.Adm
namespace Go.Proofs.Ytahfhlpolhibdaa
open Go Go.RowKit Go.Adm
set_option maxHeartbeats 3200000 in
theorem Tree_any : ∀ (m : Nat) (w : World) (B : Nat) (A : Option Addr) (n c : Nat) (xs : List (List UInt8)), Digs w B A n xs → n < m → n ≤ 1000000 → n ≤ c → c ≤ maxLen → B ≤ w.heap.size →
    Calls Try.prog 42 #[.slice A n c] w fun e w' => e = .returned (.agg ((treeS xs).map bv).toArray) ∧ Below w.heap.size w w' := by
  intro m
  induction m with
  | zero => exact fun _ _ _ _ _ _ _ h => absurd h (Nat.not_lt_zero _)
  | succ m ih =>
    intro w B A n c xs hx hm hn hnc hcm hB
    have hR : All w [.low (.digs B A n xs), .kept w w.heap.size] := ⟨⟨hx, hB⟩, ⟨Below.refl _ _, Nat.le_refl _⟩, trivial⟩
    have HN := Lib.hid hx.len
    have HL := Lib.hid (treeS_len n (l := xs) (by rw [hx.len]; exact Nat.le_refl _) (by rw [hx.len]; omega) hx.each)
    have hzr := zero_dg
    have hcm' : c ≤ 9223372036854775807 := hcm
    clear hx hcm
    go_enter Try.func42, Try.ntmps42
    go_upto_region 1 with (fail)
    refine wp_gen (hR.new (l := z32.map bv) _ 31 rfl rfl) ?_
    intro W1 hW1
    clear hR
    by_cases h0 : n = 0
    · have HT : Hid (treeS xs = z32) := Lib.hid (treeS_zero (by rw [HN.out]; exact h0))
      have d1 : ((n : Int) == 0) = true := by simp; omega
      have d2 : (n == 0) = true := by simp; omega
      clear h0
      go_wp2_with (refine wl_store_at hW1 0 rfl 31 (.tmp 2) (.tmp 8) rfl w.heap.size _ _ (z32.map bv) rfl rfl rfl rfl (by kernel_rfl) (bv_one _) (by simp [Apart, Res.apart, Low.digs] <;> omega) ?_; intro w9 hI9 hs9)
      refine bodyPost_ret (v := .agg (z32.map bv).toArray) ?_ rfl ⟨by rw [HT.out], (hI9.at_ 2 rfl : _ ∧ _).1⟩
      exact results_cell_row rfl _ _ w.heap.size 31 (z32.map bv).toArray (0, 0) _ rfl (hI9.at_ 0 rfl) Try.underlying31 rfl (by kernel_rfl)
    have d1 : ((n : Int) == 0) = false := by simp; omega
    have d2 : (n == 0) = false := by simp; omega
    by_cases h1 : n = 1
    · have hbl := (hW1.at_ 1 rfl : Digs _ B A n xs ∧ _).1
      have h0l : 0 < xs.length := by rw [HN.out]; omega
      obtain ⟨ad, rfl, -, hc⟩ := Digs.elem hbl h0l
      have hx := hbl.each _ (List.getElem_mem h0l)
      have HT : Hid (treeS xs = xs[0]) := Lib.hid (by
        rw [treeS_one (by rw [HN.out]; exact h1)]
        cases xs with
        | nil => simp at h0l
        | cons y r => rfl)
      have HT2 : Hid (Ending.returned (.agg (xs[0].map bv).toArray) = Ending.returned (.agg ((treeS xs).map bv).toArray)) := Lib.hid (by rw [HT.out])
      clear HT
      generalize xs[0] = x at *
      have HX := Lib.hid hx
      have HC := Lib.hid hc
      have d3 : ((n : Int) == 1) = true := by simp; omega
      have d4 : (n == 1) = true := by simp; omega
      have hn0 : (0 : Int) < (n : Int) := by omega
      have hn1 : 0 < n := by omega
      clear h1 h0 hbl h0l hx hc
      go_wp2_with (first
        | (refine wl_load_any rfl 31 (.tmp 12) rfl ad rfl (x.map bv) _ (fun j u h => by have := HC.out j u h; rwa [Nat.zero_mul, add_zero] at this) Try.underlying31 rfl (by rw [List.length_map, HX.out]; kernel_rfl) ?_)
        | (refine wl_store_at hW1 0 rfl 31 (.tmp 2) (.tmp 13) rfl w.heap.size _ _ (x.map bv) rfl rfl rfl (by rw [List.length_map, HX.out]; rfl) (by rw [List.length_map, HX.out]; kernel_rfl) (bv_one _) (by simp [Apart, Res.apart, Low.digs] <;> omega) ?_; intro w9 hI9 hs9))
      refine bodyPost_ret (v := .agg (x.map bv).toArray) ?_ rfl ⟨HT2.out, (hI9.at_ 2 rfl : _ ∧ _).1⟩
      exact results_cell_row rfl _ _ w.heap.size 31 (x.map bv).toArray (0, 0) _ rfl (hI9.at_ 0 rfl) Try.underlying31 rfl (by rw [List.size_toArray, List.length_map, HX.out]; kernel_rfl)
    have d3 : ((n : Int) == 1) = false := by simp; omega
    have d4 : (n == 1) = false := by simp; omega
    have h2 : 2 ≤ n := by omega
    clear h0 h1
    have HK := Lib.hid (kOf_spec h2 (by omega))
    have HST : Hid (treeS xs = nodeS (treeS (xs.take (kOf n))) (treeS (xs.drop (kOf n)))) := Lib.hid (by rw [treeS_step (by rw [HN.out]; exact h2) (by rw [HN.out]; omega), HN.out])
    have w1 : IntKind.i64.wrap ((n : Int) - 1) = ((n - 1 : Nat) : Int) := by rw [IntWalk.i64_in _ (by omega)]; omega
    have w2 : IntKind.u64.wrap ((n - 1 : Nat) : Int) = ((n - 1 : Nat) : Int) := by show ((n - 1 : Nat) : Int) % 18446744073709551616 = _; omega
    have hbits := Try.bits_Len ((n - 1 : Nat) : Int) W1 (by omega) (by omega)
    rw [Int.toNat_natCast] at hbits
    obtain ⟨q, hq⟩ : ∃ q, Lib.bitLen (n - 1) = q + 1 := ⟨Lib.bitLen (n - 1) - 1, by have := HK.out.2.2.2.2; omega⟩
    have hq21 : q < 21 := by have := HK.out.2.2.2.1; omega
    obtain ⟨kk, hkk⟩ : ∃ kk, kOf n = kk := ⟨_, rfl⟩
    have hk2 : (2 : Int) ^ q = (kk : Int) := by rw [← hkk, kOf, hq]; simp
    obtain ⟨k1, k2, k3, -, -⟩ := HK.out
    rw [hkk] at k1 k2 k3 HST
    rw [hq] at hbits
    clear HK hkk hq
    go_wp2_with fail
    refine hbits.mono ?_
    clear hbits w2
    rintro e w3 ⟨rfl, h3⟩
    obtain rfl : W1 = w3 := h3.symm
    have wi0 : (0 : Int) ≤ (kk : Int) := by omega
    have wi1 : (kk : Int) ≤ (n : Int) := by omega
    have wi2 : (kk : Int) ≤ (c : Int) := by omega
    have wi3 : ¬ (c = kk) := by omega
    have wi4 : ((kk : Int)).toNat = kk := by omega
    have w4 : IntKind.i64.wrap (((q + 1 : Nat) : Int) - 1) = (q : Int) := by rw [IntWalk.i64_in _ (by omega)]; omega
    have w5 : wrap64 (((q + 1 : Nat) : Int) - 1) = (q : Int) := by rw [IntWalk.wrap64_in _ ⟨by omega, by omega⟩]; omega
    have q0 : (0 : Int) ≤ (q : Int) := by omega
    have q64 : (q : Int) ≤ 64 := by omega
    have w6 : IntKind.i64.wrap ((2 : Int) ^ q) = (kk : Int) := by rw [hk2, IntWalk.i64_in _ (by omega)]
    have w7 : wrap64 ((2 : Int) ^ q) = (kk : Int) := by rw [hk2, IntWalk.wrap64_in _ ⟨by omega, by omega⟩]
    clear hk2
    go_upto_region 7 with (fail)
    clear w1 w4 w5 w6 w7 q0 q64 hq21
    have hdx := (hW1.at_ 1 rfl : Digs _ B A n xs ∧ _).1
    obtain ⟨ad, rfl, -, -⟩ := Digs.elem hdx (k := 0) (by rw [HN.out]; omega)
    clear hdx
    have HL1 : Hid ((treeS (xs.take kk)).length = 32) := Lib.hid (by
      have h1 := (hW1.at_ 1 rfl : Digs _ B (some ad) n xs ∧ _).1.take (k := kk) (by omega)
      exact treeS_len kk (by rw [h1.len]; exact Nat.le_refl _) (by rw [h1.len]; omega) h1.each)
    have HL2 : Hid ((treeS (xs.drop kk)).length = 32) := Lib.hid (by
      have h1 := (hW1.at_ 1 rfl : Digs _ B (some ad) n xs ∧ _).1.cut (k := kk) (by omega)
      exact treeS_len (n - kk) (by rw [h1.len]; exact Nat.le_refl _) (by rw [h1.len]; omega) h1.each)
    generalize hr : treeS xs = r at *
    have HR := Lib.hid hr
    clear hr
    obtain ⟨t1, ht1⟩ : ∃ t, treeS (xs.take kk) = t := ⟨_, rfl⟩
    obtain ⟨t2, ht2⟩ : ∃ t, treeS (xs.drop kk) = t := ⟨_, rfl⟩
    have HT1 := Lib.hid ht1
    have HT2 := Lib.hid ht2
    rw [ht1] at HL1 HST
    rw [ht2] at HL2 HST
    replace HST : Hid (nodeS t1 t2 = r) := Lib.hid HST.out.symm
    clear ht1 ht2
    refine wp_region_hops 9 [21, 22, 23, 24, 25, 26, 27, 28, 29] [.cells w.heap.size 31 (z32.map bv), .low (.digs B (some ad) n xs), .kept w w.heap.size]
      [.eq (.slice (some ad) n c), .eq (.int .i64 kk), .eq (.slice (some ad) kk c), .eq (.agg (t1.map bv).toArray), .eq (.slice (some ad) n c), .eq (.int .i64 kk), .eq (.slice (some (ad.add (kk * 32))) (n - kk) (c - kk)), .eq (.agg (t2.map bv).toArray), .eq (.agg (r.map bv).toArray)]
      (by kernel_rfl) (by kernel_rfl) hW1 rfl ?hops ?fin
    case hops =>
      refine ⟨?_, ?_, ?_, ?_, ?_, ?_, ?_, ?_, ?_, trivial⟩
      · intro a W hW hb hd K hK
        have b0 := hb 0 rfl
        go_simp
        exact hK _ _ (World.grownBy.refl _ _) rfl
      · intro a W hW hb hd K hK
        have b3 := hb 3 rfl
        go_simp
        exact hK _ _ (World.grownBy.refl _ _) rfl
      · intro a W hW hb hd K hK
        have b21 : a.tmps[21]?.getD undef = _ := hd ⟨0, .data⟩ (by simp) rfl
        have b22 : a.tmps[22]?.getD undef = _ := hd ⟨1, .data⟩ (by simp) rfl
        go_simp
        exact hK _ _ (World.grownBy.refl _ _) rfl
      · intro a W hW hb hd K hK
        have b23 : a.tmps[23]?.getD undef = _ := hd ⟨2, .data⟩ (by simp) rfl
        go_simp
        refine (ih W B (some ad) kk c (xs.take kk) ((hW.at_ 1 rfl : Digs W B (some ad) n xs ∧ B ≤ W.heap.size).1.take (by omega)) (by omega) (by omega) (by omega) hcm' (hW.at_ 1 rfl : Digs W B (some ad) n xs ∧ B ≤ W.heap.size).2).mono ?_
        rintro e w' ⟨rfl, hb'⟩
        rw [HT1.out]
        exact hK _ _ (grown_of_below hb') rfl
      · intro a W hW hb hd K hK
        have b0 := hb 0 rfl
        go_simp
        exact hK _ _ (World.grownBy.refl _ _) rfl
      · intro a W hW hb hd K hK
        have b3 := hb 3 rfl
        go_simp
        exact hK _ _ (World.grownBy.refl _ _) rfl
      · intro a W hW hb hd K hK
        have b25 : a.tmps[25]?.getD undef = _ := hd ⟨4, .data⟩ (by simp) rfl
        have b26 : a.tmps[26]?.getD undef = _ := hd ⟨5, .data⟩ (by simp) rfl
        go_simp
        exact hK _ _ (World.grownBy.refl _ _) rfl
      · intro a W hW hb hd K hK
        have b27 : a.tmps[27]?.getD undef = _ := hd ⟨6, .data⟩ (by simp) rfl
        go_simp
        refine (ih W B (some (ad.add (kk * 32))) (n - kk) (c - kk) (xs.drop kk) ((hW.at_ 1 rfl : Digs W B (some ad) n xs ∧ B ≤ W.heap.size).1.cut (by omega)) (by omega) (by omega) (by omega) (Nat.le_trans (Nat.sub_le _ _) hcm') (hW.at_ 1 rfl : Digs W B (some ad) n xs ∧ B ≤ W.heap.size).2).mono ?_
        rintro e w' ⟨rfl, hb'⟩
        rw [HT2.out]
        exact hK _ _ (grown_of_below hb') rfl
      · intro a W hW hb hd K hK
        have b24 : a.tmps[24]?.getD undef = _ := hd ⟨3, .data⟩ (by simp) rfl
        have b28 : a.tmps[28]?.getD undef = _ := hd ⟨7, .data⟩ (by simp) rfl
        go_simp
        refine (Node_any W _ _ HL1.out HL2.out).mono ?_
        rintro e w' ⟨rfl, hb'⟩
        rw [HST.out]
        exact hK _ _ (grown_of_below hb') rfl
    case fin =>
      intro vs V hV hv
      have e8 : vs 8 = _ := hv 8 (by decide)
      clear hv hW1
      simp only [putAll, List.drop_succ_cons, List.drop_zero, e8, Act.put, List.setIfInBounds_toArray, List.set_cons_succ, List.set_cons_zero]
      clear e8 HST
      go_wp2_with (refine wl_store_at hV 0 rfl 31 (.tmp 2) (.tmp 29) rfl w.heap.size _ _ (r.map bv) rfl rfl rfl (by rw [List.length_map, HL.out]; rfl) (by rw [List.length_map, HL.out]; kernel_rfl) (bv_one _) (by simp [Apart, Res.apart, Low.digs] <;> omega) ?_; intro w9 hI9 hs9)
      refine bodyPost_ret (v := .agg (r.map bv).toArray) ?_ rfl ⟨by rw [HR.out], (hI9.at_ 2 rfl : _ ∧ _).1⟩
      exact results_cell_row rfl _ _ w.heap.size 31 (r.map bv).toArray (0, 0) _ rfl (hI9.at_ 0 rfl) Try.underlying31 rfl (by rw [List.size_toArray, List.length_map, HL.out]; kernel_rfl)

set_option maxHeartbeats 3200000 in
theorem refTree_any : ∀ (m : Nat) (w : World) (B : Nat) (A : Option Addr) (n c : Nat) (xs : List (List UInt8)), Digs w B A n xs → n < m → n ≤ 1000000 → n ≤ c → c ≤ maxLen → B ≤ w.heap.size →
    Calls Try.prog 43 #[.slice A n c] w fun e w' => e = .returned (.agg ((treeS xs).map bv).toArray) ∧ Below w.heap.size w w' := by
  intro m
  induction m with
  | zero => exact fun _ _ _ _ _ _ _ h => absurd h (Nat.not_lt_zero _)
  | succ m ih =>
    intro w B A n c xs hx hm hn hnc hcm hB
    have hR : All w [.low (.digs B A n xs), .kept w w.heap.size] := ⟨⟨hx, hB⟩, ⟨Below.refl _ _, Nat.le_refl _⟩, trivial⟩
    have HN := Lib.hid hx.len
    have HL := Lib.hid (treeS_len n (l := xs) (by rw [hx.len]; exact Nat.le_refl _) (by rw [hx.len]; omega) hx.each)
    have hzr := zero_dg
    have hcm' : c ≤ 9223372036854775807 := hcm
    clear hx hcm
    go_enter Try.func43, Try.ntmps43
    go_upto_region 1 with (fail)
    refine wp_gen (hR.new (l := z32.map bv) _ 31 rfl rfl) ?_
    intro W1 hW1
    clear hR
    by_cases h0 : n = 0
    · have HT : Hid (treeS xs = z32) := Lib.hid (treeS_zero (by rw [HN.out]; exact h0))
      have d1 : ((n : Int) == 0) = true := by simp; omega
      have d2 : (n == 0) = true := by simp; omega
      clear h0
      go_wp2_with (refine wl_store_at hW1 0 rfl 31 (.tmp 2) (.tmp 7) rfl w.heap.size _ _ (z32.map bv) rfl rfl rfl rfl (by kernel_rfl) (bv_one _) (by simp [Apart, Res.apart, Low.digs] <;> omega) ?_; intro w9 hI9 hs9)
      refine bodyPost_ret (v := .agg (z32.map bv).toArray) ?_ rfl ⟨by rw [HT.out], (hI9.at_ 2 rfl : _ ∧ _).1⟩
      exact results_cell_row rfl _ _ w.heap.size 31 (z32.map bv).toArray (0, 0) _ rfl (hI9.at_ 0 rfl) Try.underlying31 rfl (by kernel_rfl)
    have d1 : ((n : Int) == 0) = false := by simp; omega
    have d2 : (n == 0) = false := by simp; omega
    by_cases h1 : n = 1
    · have hbl := (hW1.at_ 1 rfl : Digs _ B A n xs ∧ _).1
      have h0l : 0 < xs.length := by rw [HN.out]; omega
      obtain ⟨ad, rfl, -, hc⟩ := Digs.elem hbl h0l
      have hx := hbl.each _ (List.getElem_mem h0l)
      have HT : Hid (treeS xs = xs[0]) := Lib.hid (by
        rw [treeS_one (by rw [HN.out]; exact h1)]
        cases xs with
        | nil => simp at h0l
        | cons y r => rfl)
      have HT2 : Hid (Ending.returned (.agg (xs[0].map bv).toArray) = Ending.returned (.agg ((treeS xs).map bv).toArray)) := Lib.hid (by rw [HT.out])
      clear HT
      generalize xs[0] = x at *
      have HX := Lib.hid hx
      have HC := Lib.hid hc
      have d3 : ((n : Int) == 1) = true := by simp; omega
      have d4 : (n == 1) = true := by simp; omega
      have hn0 : (0 : Int) < (n : Int) := by omega
      have hn1 : 0 < n := by omega
      clear h1 h0 hbl h0l hx hc
      go_wp2_with (first
        | (refine wl_load_any rfl 31 (.tmp 12) rfl ad rfl (x.map bv) _ (fun j u h => by have := HC.out j u h; rwa [Nat.zero_mul, add_zero] at this) Try.underlying31 rfl (by rw [List.length_map, HX.out]; kernel_rfl) ?_)
        | (refine wl_store_at hW1 0 rfl 31 (.tmp 2) (.tmp 13) rfl w.heap.size _ _ (x.map bv) rfl rfl rfl (by rw [List.length_map, HX.out]; rfl) (by rw [List.length_map, HX.out]; kernel_rfl) (bv_one _) (by simp [Apart, Res.apart, Low.digs] <;> omega) ?_; intro w9 hI9 hs9))
      refine bodyPost_ret (v := .agg (x.map bv).toArray) ?_ rfl ⟨HT2.out, (hI9.at_ 2 rfl : _ ∧ _).1⟩
      exact results_cell_row rfl _ _ w.heap.size 31 (x.map bv).toArray (0, 0) _ rfl (hI9.at_ 0 rfl) Try.underlying31 rfl (by rw [List.size_toArray, List.length_map, HX.out]; kernel_rfl)
    have d3 : ((n : Int) == 1) = false := by simp; omega
    have d4 : (n == 1) = false := by simp; omega
    have h2 : 2 ≤ n := by omega
    clear h0 h1
    have HST0 : Hid (treeS xs = nodeS (treeS (xs.take (kOf n))) (treeS (xs.drop (kOf n)))) := Lib.hid (by rw [treeS_step (by rw [HN.out]; exact h2) (by rw [HN.out]; omega), HN.out])
    have hJ0 := hW1
    clear hW1
    go_wp2_with fail
    go_loopw [3] (fun v wr => ∃ kk : Nat, v = .int .i64 kk ∧ 0 < kk ∧ kk < n ∧ Hid (∃ j, kk = 2 ^ j) ∧ All wr [.cells w.heap.size 31 (z32.map bv), .low (.digs B A n xs), .kept w w.heap.size]) (fun v _ => n - (intOf v).toNat)
    case atStart => exact ⟨1, rfl, by omega, by omega, Lib.hid ⟨0, rfl⟩, hJ0⟩
    case round =>
    clear hJ0
    obtain ⟨kk, rfl, k3, k1, HJ, hW1⟩ := hrel
    have w1 : IntKind.i64.wrap (2 * (kk : Int)) = ((2 * kk : Nat) : Int) := by rw [IntWalk.i64_in _ (by omega)]; omega
    by_cases hlt : 2 * kk < n
    · have d5 : decide (((2 * kk : Nat) : Int) < (n : Int)) = true := by simp; omega
      have d6 : decide (2 * (kk : Int) < (n : Int)) = true := by simp; omega
      have HJ2 : Hid (∃ j, 2 * kk = 2 ^ j) := Lib.hid (by
        obtain ⟨j, hj⟩ := HJ.out
        exact ⟨j + 1, by rw [Nat.pow_succ, hj, Nat.mul_comm]⟩)
      clear HJ
      go_wp2_with fail
      exact ⟨⟨2 * kk, by go_num, by omega, hlt, HJ2, hW1⟩, by simp [intOf]; omega⟩
    have d5 : decide (((2 * kk : Nat) : Int) < (n : Int)) = false := by simp; omega
    have d6 : decide (2 * (kk : Int) < (n : Int)) = false := by simp; omega
    have HST : Hid (treeS xs = nodeS (treeS (xs.take kk)) (treeS (xs.drop kk))) := Lib.hid (by
      obtain ⟨j, hj⟩ := HJ.out
      have := pow_next h2 (by omega) (by rw [← hj]; exact k1) (by rw [← hj]; omega)
      rw [HST0.out, ← this, ← hj])
    have wi0 : (0 : Int) ≤ (kk : Int) := by omega
    have wi1 : (kk : Int) ≤ (n : Int) := by omega
    have wi2 : (kk : Int) ≤ (c : Int) := by omega
    have wi3 : ¬ (c = kk) := by omega
    have wi4 : ((kk : Int)).toNat = kk := by omega
    clear HJ HST0 hlt
    go_upto_region 8 with (fail)
    clear w1
    have hdx := (hW1.at_ 1 rfl : Digs _ B A n xs ∧ _).1
    obtain ⟨ad, rfl, -, -⟩ := Digs.elem hdx (k := 0) (by rw [HN.out]; omega)
    clear hdx
    have HL1 : Hid ((treeS (xs.take kk)).length = 32) := Lib.hid (by
      have h1 := (hW1.at_ 1 rfl : Digs _ B (some ad) n xs ∧ _).1.take (k := kk) (by omega)
      exact treeS_len kk (by rw [h1.len]; exact Nat.le_refl _) (by rw [h1.len]; omega) h1.each)
    have HL2 : Hid ((treeS (xs.drop kk)).length = 32) := Lib.hid (by
      have h1 := (hW1.at_ 1 rfl : Digs _ B (some ad) n xs ∧ _).1.cut (k := kk) (by omega)
      exact treeS_len (n - kk) (by rw [h1.len]; exact Nat.le_refl _) (by rw [h1.len]; omega) h1.each)
    generalize hr : treeS xs = r at *
    have HR := Lib.hid hr
    clear hr
    obtain ⟨t1, ht1⟩ : ∃ t, treeS (xs.take kk) = t := ⟨_, rfl⟩
    obtain ⟨t2, ht2⟩ : ∃ t, treeS (xs.drop kk) = t := ⟨_, rfl⟩
    have HT1 := Lib.hid ht1
    have HT2 := Lib.hid ht2
    rw [ht1] at HL1 HST
    rw [ht2] at HL2 HST
    replace HST : Hid (nodeS t1 t2 = r) := Lib.hid HST.out.symm
    clear ht1 ht2
    refine wp_region_hops 9 [21, 22, 23, 24, 25, 26, 27, 28, 29] [.cells w.heap.size 31 (z32.map bv), .low (.digs B (some ad) n xs), .kept w w.heap.size]
      [.eq (.slice (some ad) n c), .eq (.int .i64 kk), .eq (.slice (some ad) kk c), .eq (.agg (t1.map bv).toArray), .eq (.slice (some ad) n c), .eq (.int .i64 kk), .eq (.slice (some (ad.add (kk * 32))) (n - kk) (c - kk)), .eq (.agg (t2.map bv).toArray), .eq (.agg (r.map bv).toArray)]
      (by kernel_rfl) (by kernel_rfl) hW1 rfl ?hops ?fin
    case hops =>
      refine ⟨?_, ?_, ?_, ?_, ?_, ?_, ?_, ?_, ?_, trivial⟩
      · intro a W hW hb hd K hK
        have b0 := hb 0 rfl
        go_simp
        exact hK _ _ (World.grownBy.refl _ _) rfl
      · intro a W hW hb hd K hK
        have b3 := hb 3 rfl
        go_simp
        exact hK _ _ (World.grownBy.refl _ _) rfl
      · intro a W hW hb hd K hK
        have b21 : a.tmps[21]?.getD undef = _ := hd ⟨0, .data⟩ (by simp) rfl
        have b22 : a.tmps[22]?.getD undef = _ := hd ⟨1, .data⟩ (by simp) rfl
        go_simp
        exact hK _ _ (World.grownBy.refl _ _) rfl
      · intro a W hW hb hd K hK
        have b23 : a.tmps[23]?.getD undef = _ := hd ⟨2, .data⟩ (by simp) rfl
        go_simp
        refine (ih W B (some ad) kk c (xs.take kk) ((hW.at_ 1 rfl : Digs W B (some ad) n xs ∧ B ≤ W.heap.size).1.take (by omega)) (by omega) (by omega) (by omega) hcm' (hW.at_ 1 rfl : Digs W B (some ad) n xs ∧ B ≤ W.heap.size).2).mono ?_
        rintro e w' ⟨rfl, hb'⟩
        rw [HT1.out]
        exact hK _ _ (grown_of_below hb') rfl
      · intro a W hW hb hd K hK
        have b0 := hb 0 rfl
        go_simp
        exact hK _ _ (World.grownBy.refl _ _) rfl
      · intro a W hW hb hd K hK
        have b3 := hb 3 rfl
        go_simp
        exact hK _ _ (World.grownBy.refl _ _) rfl
      · intro a W hW hb hd K hK
        have b25 : a.tmps[25]?.getD undef = _ := hd ⟨4, .data⟩ (by simp) rfl
        have b26 : a.tmps[26]?.getD undef = _ := hd ⟨5, .data⟩ (by simp) rfl
        go_simp
        exact hK _ _ (World.grownBy.refl _ _) rfl
      · intro a W hW hb hd K hK
        have b27 : a.tmps[27]?.getD undef = _ := hd ⟨6, .data⟩ (by simp) rfl
        go_simp
        refine (ih W B (some (ad.add (kk * 32))) (n - kk) (c - kk) (xs.drop kk) ((hW.at_ 1 rfl : Digs W B (some ad) n xs ∧ B ≤ W.heap.size).1.cut (by omega)) (by omega) (by omega) (by omega) (Nat.le_trans (Nat.sub_le _ _) hcm') (hW.at_ 1 rfl : Digs W B (some ad) n xs ∧ B ≤ W.heap.size).2).mono ?_
        rintro e w' ⟨rfl, hb'⟩
        rw [HT2.out]
        exact hK _ _ (grown_of_below hb') rfl
      · intro a W hW hb hd K hK
        have b24 : a.tmps[24]?.getD undef = _ := hd ⟨3, .data⟩ (by simp) rfl
        have b28 : a.tmps[28]?.getD undef = _ := hd ⟨7, .data⟩ (by simp) rfl
        go_simp
        refine (refNode_any W _ _ HL1.out HL2.out).mono ?_
        rintro e w' ⟨rfl, hb'⟩
        rw [HST.out]
        exact hK _ _ (grown_of_below hb') rfl
    case fin =>
      intro vs V hV hv
      have e8 : vs 8 = _ := hv 8 (by decide)
      clear hv hW1
      simp only [putAll, List.drop_succ_cons, List.drop_zero, e8, Act.put, List.setIfInBounds_toArray, List.set_cons_succ, List.set_cons_zero]
      clear e8 HST
      go_wp2_with (refine wl_store_at hV 0 rfl 31 (.tmp 2) (.tmp 29) rfl w.heap.size _ _ (r.map bv) rfl rfl rfl (by rw [List.length_map, HL.out]; rfl) (by rw [List.length_map, HL.out]; kernel_rfl) (bv_one _) (by simp [Apart, Res.apart, Low.digs] <;> omega) ?_; intro w9 hI9 hs9)
      refine bodyPost_ret (v := .agg (r.map bv).toArray) ?_ rfl ⟨by rw [HR.out], (hI9.at_ 2 rfl : _ ∧ _).1⟩
      exact results_cell_row rfl _ _ w.heap.size 31 (r.map bv).toArray (0, 0) _ rfl (hI9.at_ 0 rfl) Try.underlying31 rfl (by rw [List.size_toArray, List.length_map, HL.out]; kernel_rfl)
end Go.Proofs.Ytahfhlpolhibdaa

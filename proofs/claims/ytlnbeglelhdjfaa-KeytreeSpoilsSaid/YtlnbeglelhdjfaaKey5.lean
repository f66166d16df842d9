/- Combine and Public, both of the program and of the reference. -/
import Derived.Test.YtlnbeglelhdjfaaKey4
import Derived.Test.YtlnbeglelhdjfaaGen2
set_option linter.unusedSimpArgs false
set_option linter.unusedVariables false
namespace Go.Adm
open Go Go.RowKit
def hvs (hs : List (List UInt8)) : List (List Value) := hs.map fun h => h.map bv
theorem hvs_len (hs : List (List UInt8)) : (hvs hs).length = hs.length := by simp [hvs]
theorem hvs_each {hs : List (List UInt8)} (h : ∀ x ∈ hs, x.length = 16) : ∀ e ∈ hvs hs, e.length = 16 := by
  intro e he
  obtain ⟨x, hx, rfl⟩ := List.mem_map.1 he
  rw [List.length_map]; exact h x hx
theorem hvs_flat (hs : List (List UInt8)) : (hvs hs).flatten = hs.flatten.map bv := by simp [hvs, List.map_flatten]
theorem hvs_at (hs : List (List UInt8)) {k : Nat} (hk : k < hs.length) : (hvs hs)[k]'(by rw [hvs_len]; exact hk) = hs[k].map bv := by simp [hvs]
/-- the element of a slice of halves -/
theorem Els.half {w : World} {B n : Nat} {A : Option Addr} {hs : List (List UInt8)} (h : Els w B 16 A n (hvs hs)) {k : Nat} (hk : k < hs.length) :
    ∃ ad, A = some ad ∧ ad.block < B ∧ ∀ j u, (hs[k].map bv)[j]? = some u → w.cell? ((ad.add (k * 16)).add j) = some u := by
  obtain ⟨ad, e, hb, hc⟩ := h.at_ (k := k) (by rw [hvs_len]; exact hk)
  rw [hvs_at hs hk] at hc
  exact ⟨ad, e, hb, hc⟩
end Go.Adm
namespace Go.Proofs.Ytlnbeglelhdjfaa
open Go Go.RowKit Go.Adm

set_option maxRecDepth 100000 in
set_option maxHeartbeats 3200000 in
theorem Combine_any (w : World) (B : Nat) (A : Option Addr) (n c : Nat) (leaf : Int) (ends : List (List UInt8)) (h : Els w B 16 A n (hvs ends)) (h16 : ∀ x ∈ ends, x.length = 16) (hB : B ≤ w.heap.size) (hn : n ≤ 1000000) :
    Calls Try.prog 47 #[.int .i64 leaf, .slice A n c] w fun e w' => e = .returned (.agg ((combineS leaf ends).map bv).toArray) ∧ Below w.heap.size w w' := by
  have hel : ends.length = n := by have := h.len; rwa [hvs_len] at this
  have hR : All w [.low (.els B 16 A n (hvs ends)), .kept w w.heap.size] := ⟨⟨h, hB⟩, ⟨Below.refl _ _, Nat.le_refl _⟩, trivial⟩
  have HE := Lib.hid hel
  have H16 := Lib.hid h16
  clear h hel h16
  go_enter Try.func47, Try.ntmps47
  go_upto_region 1 with (fail)
  refine wp_gen (hR.new (l := List.replicate 16 (Value.int .u8 0)) _ 23 rfl rfl) ?_
  intro W hW
  have hlt : w.heap.size < W.heap.size := Cells.lt (hW.at_ 0 rfl)
  have hown : Go.Adm.Own ((W.alloc (.cells #[.int .u8 5] 5)).alloc (.cells #[.int .u8 (leaf / 256 % 256), .int .u8 (leaf % 256)] 5)) (w.heap.size + 1) 5 1 (some ⟨W.heap.size, 0, none⟩) 1 1 ([5].map bv) := (Go.Adm.Own.lit W _ 1 (by omega) (by decide) rfl).alloc _
  have htwo : Rd ((W.alloc (.cells #[.int .u8 5] 5)).alloc (.cells #[.int .u8 (leaf / 256 % 256), .int .u8 (leaf % 256)] 5)) (W.heap.size + 2) 1 (some ⟨W.heap.size + 1, 0, none⟩) 2 ((twoS leaf).map bv) := by
    have := Rd.lit (size := 1) (W.alloc (.cells #[.int .u8 5] 5)) #[.int .u8 (leaf / 256 % 256), .int .u8 (leaf % 256)] 5 2 rfl
    simp only [b8_v, World.alloc, Array.size_push] at this
    simp only [b8_v]
    exact this
  go_wp2_with (first | (go_at_call 53; refine (two_any _ leaf).mono ?_; rintro e w' ⟨rfl, rfl⟩) | (at_builtin; refine wl_app _ els_u8 rfl (.tmp 8) (.tmp 10) rfl (w.heap.size + 1) _ 1 1 _ rfl hown (W.heap.size + 2) _ 2 2 ((twoS leaf).map bv) rfl htwo (bv_one _) (by decide) (by simp; omega) ?_; intro A1 c1 w1 hown1 hb1 hg1))
  have hI1 : All w1 [.own (w.heap.size + 1) 5 1 A1 3 c1 ((5 :: twoS leaf).map bv), .cells w.heap.size 23 (List.replicate 16 (.int .u8 0)), .low (.els B 16 A n (hvs ends)), .kept w w.heap.size] :=
    ⟨hown1, ((hW.alloc _).alloc _).app hg1 hown (fun g hg => (by simp [Apart, Res.apart, Low.parts, Low.els, Low.rd] <;> omega))⟩
  clear hW hown htwo hown1 hb1 hg1
  go_loopw [5, 14] (fun v i wr => ∃ (k L : Nat) (A' : Option Addr) (c' : Nat), k ≤ n ∧ i = .int .i64 k ∧ Hid (L = 3 + 16 * k) ∧ L ≤ 16000003 ∧ v = .slice A' L c' ∧
    All wr [.own (w.heap.size + 1) 5 1 A' L c' ((5 :: twoS leaf ++ (ends.take k).flatten).map bv), .cells w.heap.size 23 (List.replicate 16 (.int .u8 0)), .low (.els B 16 A n (hvs ends)), .kept w w.heap.size] ∧ w.heap.size + 1 ≤ wr.heap.size) (fun _ i _ => n - (intOf i).toNat)
  case atStart => exact ⟨0, 3, A1, c1, by omega, rfl, Lib.hid rfl, by omega, rfl, by rw [List.take_zero, List.flatten_nil, List.append_nil]; exact hI1, Cells.lt (hI1.at_ 1 rfl)⟩
  case round =>
    obtain ⟨k, L, A', c', hk, rfl, HL, hL, rfl, hI, hs⟩ := hrel
    by_cases hlt : k < n
    · have hkl : k < ends.length := by rw [HE.out]; exact hlt
      obtain ⟨ad, rfl, hb, hc⟩ := Els.half (hI.2.2.1.1 : Els wr B 16 _ n (hvs ends)) hkl
      have HC := Lib.hid hc
      have hk16 : Hid (ends[k].length = 16) := Lib.hid (H16.out _ (List.getElem_mem hkl))
      have hM := Lib.hid (flat_take_succ ends k hkl)
      clear hc
      generalize ends[k] = x at *
      have hne := Go.Adm.Own.ne (hI.at_ 0 rfl : Go.Adm.Own wr (w.heap.size + 1) 5 1 A' L c' _)
      go_wp2_with (first | (refine wl_load_any rfl 23 (.tmp 16) rfl (ad.add (k * 16)) rfl (x.map bv) _ HC.out Try.underlying23 rfl (by rw [List.length_map, hk16.out]; kernel_rfl) ?_) | (refine wl_store_at (hI.new _ _ rfl rfl) 0 rfl 23 (.tmp 7) _ rfl wr.heap.size _ _ (x.map bv) rfl rfl rfl (by rw [List.length_map, hk16.out]; rfl) (by rw [List.length_map, hk16.out]; kernel_rfl) (bv_one _) (by simp [Apart, Res.apart, Low.els, hne] <;> omega) ?_; intro w5 hI5 hs5; have hrx := Cells.rd (hI5.at_ 0 rfl) (o := 0) (n := 16) (by rw [List.length_map, hk16.out]; omega); have hI6 := hI5.erase 0; have hs6 : w.heap.size + 1 ≤ w5.heap.size := by rw [hs5]; simp; omega) | (at_builtin; refine wl_app_at els_u8 hI6 0 rfl (.tmp 18) _ rfl (w.heap.size + 1) _ _ _ _ rfl rfl (wr.heap.size + 1) _ 16 16 (x.map bv) rfl (by rw [List.drop_zero, List.take_of_length_le (by rw [List.length_map, hk16.out]; omega)] at hrx; exact hrx) (bv_one _) (by omega) hs6 (by intro g hg _; simp [Apart, Res.apart, Low.els] <;> omega) ?_; intro A7 c7 w7 hI7 hs7))
      refine ⟨⟨k + 1, L + 16, A7, c7, by omega, by go_num, Lib.hid (by have := HL.out; omega), by have := HL.out; omega, rfl, ?_, by omega⟩, by simp [intOf]; omega⟩
      rw [hM.out, ← List.append_assoc, List.map_append]
      exact hI7
    · have hkn : Hid (5 :: twoS leaf ++ (ends.take k).flatten = 5 :: twoS leaf ++ ends.flatten) := Lib.hid (by rw [List.take_of_length_le (by rw [HE.out]; omega)])
      rw [hkn.out] at hI
      have hcap := Go.Adm.Own.cap (hI.at_ 0 rfl : Go.Adm.Own wr (w.heap.size + 1) 5 1 A' L c' _)
      have hlen : Hid (L = (5 :: twoS leaf ++ ends.flatten).length) := Lib.hid (by have h1 := (hI.at_ 0 rfl : Go.Adm.Own wr (w.heap.size + 1) 5 1 A' L c' _).1; rw [List.length_map] at h1; omega)
      have hfl : Hid (halfS (5 :: twoS leaf ++ ends.flatten) = combineS leaf ends) := Lib.hid rfl
      have h16 := Lib.hid (combineS_len leaf ends)
      generalize hb : 5 :: twoS leaf ++ ends.flatten = b at *
      have hp : BytesAt wr wr.heap.size (.slice A' L c') b := by
        have h1 := Go.Adm.Own.rd (hI.at_ 0 rfl : Go.Adm.Own wr (w.heap.size + 1) 5 1 A' L c' (b.map bv))
        rw [hlen.out] at h1 hcap ⊢
        exact ⟨_, _, rfl, hcap.1, hcap.2, h1⟩
      clear hb hkn
      go_wp2_with fail
      refine (Half_any _ _ _ _ _ [b] (Parts.of (Cells.new _ _ _) (by simp) rfl (.cons (hp.grown (grown_alloc _ _)) .nil)) (Nat.le_refl _) (by simp) (by have := hlen.out; simp; omega)).mono ?_
      rintro e w5 ⟨rfl, hb⟩
      have hI5 := ((hI.erase 0).alloc _).call hb
      rw [show [b].flatten = b from by simp, hfl.out]
      generalize hr : combineS leaf ends = r at *
      have HR := Lib.hid hr
      clear hr hb hI hp
      go_wp2_with (refine wl_store_at hI5 0 rfl 23 (.tmp 4) _ rfl (w.heap.size) _ _ (r.map bv) rfl rfl rfl (by rw [List.length_map, h16.out]; rfl) (by rw [List.length_map, h16.out]; kernel_rfl) (bv_one _) (by simp [Apart, Res.apart, Low.parts, Low.els, Low.rd] <;> omega) ?_; intro w9 hI9 hs9)
      refine bodyPost_ret (v := .agg (r.map bv).toArray) ?_ rfl ⟨by rw [HR.out], (hI9.at_ 2 rfl).1⟩
      exact results_cell_row rfl _ _ (w.heap.size) 23 (r.map bv).toArray (0, 0) _ rfl (hI9.at_ 0 rfl) Try.underlying23 rfl (by rw [List.size_toArray, List.length_map, h16.out]; kernel_rfl)

theorem els_bytes : ElemOf Try.prog 66 64 (.slice none 0 0) 1 24 := ElemOf.mk' Try.underlying66 (by kernel_rfl) rfl (by decide) (by decide)
set_option maxRecDepth 100000 in
set_option maxHeartbeats 3200000 in
theorem refCombine_any (w : World) (B : Nat) (A : Option Addr) (n c : Nat) (leaf : Int) (ends : List (List UInt8)) (h : Els w B 16 A n (hvs ends)) (h16 : ∀ x ∈ ends, x.length = 16) (hB : B ≤ w.heap.size) (hn : n ≤ 1000000) :
    Calls Try.prog 48 #[.int .i64 leaf, .slice A n c] w fun e w' => e = .returned (.agg ((combineS leaf ends).map bv).toArray) ∧ Below w.heap.size w w' := by
  have hel : ends.length = n := by have := h.len; rwa [hvs_len] at this
  have hR : All w [.low (.els B 16 A n (hvs ends)), .kept w w.heap.size] := ⟨⟨h, hB⟩, ⟨Below.refl _ _, Nat.le_refl _⟩, trivial⟩
  have HE := Lib.hid hel
  have H16 := Lib.hid h16
  clear h hel h16
  go_enter Try.func48, Try.ntmps48
  go_upto_region 1 with (fail)
  refine wp_gen (hR.new (l := List.replicate 16 (Value.int .u8 0)) _ 23 rfl rfl) ?_
  intro W hW
  have hlt : w.heap.size < W.heap.size := Cells.lt (hW.at_ 0 rfl)
  have hJ := (hW.new #[.int .u8 5, .int .u8 (leaf / 256 % 256), .int .u8 (leaf % 256)] 5 (l := [5, b8 (leaf / 256), b8 leaf].map bv) rfl (by simp only [b8_v]; rfl))
  have hp0 : BytesAt _ (W.heap.size + 1) (.slice (some ⟨W.heap.size, 0, none⟩) 3 3) [5, b8 (leaf / 256), b8 leaf] := BytesAt.of (hJ.at_ 0 rfl) (Nat.lt_succ_self _) rfl (Nat.le_refl 3) (by decide)
  have hN : Nest ((W.alloc (.cells #[.int .u8 5, .int .u8 (leaf / 256 % 256), .int .u8 (leaf % 256)] 5)).alloc (.cells #[.slice (some ⟨W.heap.size, 0, none⟩) 3 3] 64)) (w.heap.size + 1) 64 1 (some ⟨W.heap.size + 1, 0, none⟩) 1 1 [.slice (some ⟨W.heap.size, 0, none⟩) 3 3] w.heap.size (fun b => b = W.heap.size) (fun w => All2 (BytesAt w w.heap.size) [.slice (some ⟨W.heap.size, 0, none⟩) 3 3] ([5, b8 (leaf / 256), b8 leaf] :: ends.take 0)) := by
    refine Nest.of ?_ ?_ ?_ ?_
    · have h1 := Go.Adm.Own.lit (base := w.heap.size + 1) (e := 64) (size := 1) (W.alloc (.cells #[.int .u8 5, .int .u8 (leaf / 256 % 256), .int .u8 (leaf % 256)] 5)) #[.slice (some ⟨W.heap.size, 0, none⟩) 3 3] 1 (by simp; omega) (by decide) rfl
      have h2 : (W.alloc (.cells #[.int .u8 5, .int .u8 (leaf / 256 % 256), .int .u8 (leaf % 256)] 5)).heap.size = W.heap.size + 1 := by simp
      rw [h2] at h1
      exact h1
    · rw [List.take_zero]
      refine .cons ?_ .nil
      have h3 := hp0.mono (B' := (W.alloc (.cells #[.int .u8 5, .int .u8 (leaf / 256 % 256), .int .u8 (leaf % 256)] 5)).heap.size) (by simp)
      exact h3.grown (grown_alloc _ _)
    · rw [List.take_zero]
      refine St.congr (In := fun w => BytesAt w w.heap.size (.slice (some ⟨W.heap.size, 0, none⟩) 3 3) [5, b8 (leaf / 256), b8 leaf]) (BytesAt.st (by intro ad h; injection h with h; subst h; exact .inr rfl)) (fun w => ⟨fun h => .cons h .nil, fun h => by cases h with | cons h _ => exact h⟩)
    · rintro b rfl
      exact ⟨by omega, by simp; omega, by simp [Value.ownBlock]⟩
  have hI1 : All ((W.alloc (.cells #[.int .u8 5, .int .u8 (leaf / 256 % 256), .int .u8 (leaf % 256)] 5)).alloc (.cells #[.slice (some ⟨W.heap.size, 0, none⟩) 3 3] 64)) [.nest (w.heap.size + 1) 64 1 (some ⟨W.heap.size + 1, 0, none⟩) (1) 1 [.slice (some ⟨W.heap.size, 0, none⟩) 3 3] w.heap.size (fun b => b = W.heap.size) (fun w => All2 (BytesAt w w.heap.size) [.slice (some ⟨W.heap.size, 0, none⟩) 3 3] ([5, b8 (leaf / 256), b8 leaf] :: ends.take 0)), .cells w.heap.size 23 (List.replicate 16 (.int .u8 0)), .low (.els B 16 A n (hvs ends)), .kept w w.heap.size] := ⟨hN, (hW.alloc _).alloc _⟩
  clear hN hp0 hJ hW
  go_wp2
  go_loopw [5, 6] (fun v i wr => ∃ (k L : Nat) (A' : Option Addr) (c' : Nat) (vs : List Value) (F : Nat → Prop), k ≤ n ∧ i = .int .i64 k ∧ Hid (L = 1 + k) ∧ L ≤ 1000001 ∧ v = .slice A' L c' ∧
    All wr [.nest (w.heap.size + 1) 64 1 A' (L) c' vs w.heap.size F (fun w => All2 (BytesAt w w.heap.size) vs ([5, b8 (leaf / 256), b8 leaf] :: ends.take k)), .cells w.heap.size 23 (List.replicate 16 (.int .u8 0)), .low (.els B 16 A n (hvs ends)), .kept w w.heap.size] ∧ w.heap.size + 1 ≤ wr.heap.size) (fun _ i _ => n - (intOf i).toNat)
  case atStart => exact ⟨0, 1, _, 1, _, _, by omega, rfl, Lib.hid rfl, by omega, rfl, hI1, Cells.lt (hI1.at_ 1 rfl)⟩
  case round =>
    obtain ⟨k, L, A', c', vs, F, hk, rfl, HL, hL, rfl, hI, hs⟩ := hrel
    by_cases hlt : k < n
    · have hkl : k < ends.length := by rw [HE.out]; exact hlt
      obtain ⟨ad, rfl, hb, hc⟩ := Els.half (hI.2.2.1.1 : Els wr B 16 _ n (hvs ends)) hkl
      have HC := Lib.hid hc
      have hk16 : Hid (ends[k].length = 16) := Lib.hid (H16.out _ (List.getElem_mem hkl))
      have hM : Hid (ends.take (k + 1) = ends.take k ++ [ends[k]]) := Lib.hid (List.take_succ_eq_append_getElem hkl)
      clear hc
      generalize ends[k] = x at *
      have hN := (hI.at_ 0 rfl : Nest wr (w.heap.size + 1) 64 1 A' L c' vs w.heap.size F _)
      have hown0 : Go.Adm.Own (wr.alloc (.cells #[] 5)) wr.heap.size 5 1 (some ⟨wr.heap.size, 0, none⟩) 0 0 [] := Go.Adm.Own.lit wr #[] 0 (Nat.le_refl _) (by decide) rfl
      have hrx : Rd (wr.alloc (.cells #[] 5)) B 1 (some (ad.add (k * 16))) 16 (x.map bv) := ⟨by rw [List.length_map, hk16.out], fun _ => ⟨_, rfl, by rw [add_block]; exact hb, fun j u hu => (World.cell?_alloc_lt wr _ _ (by rw [add_block, add_block]; omega)).trans (HC.out j u hu)⟩⟩
      go_wp2_with (first | (at_builtin; refine wl_app _ els_u8 rfl (.tmp 21) (.tmp 25) rfl wr.heap.size _ 0 0 [] rfl hown0 B _ 16 16 (x.map bv) rfl hrx (bv_one _) (by decide) (by simp) ?_; intro A3 c3 w3 hown3 hb3 hg3; have hI3 := hI.call (((Below.refl _ wr).alloc (Nat.le_refl _) _).trans hb3); have hN3 := (hI3.at_ 0 rfl : Nest w3 (w.heap.size + 1) 64 1 A' L c' vs w.heap.size F _); have hs3 : w.heap.size + 1 ≤ w3.heap.size := by have := hb3.size; simp at this; omega) | (at_builtin; refine wl_app_nest els_bytes (hI3.alloc _) 0 rfl (.tmp 20) (.tmp 27) rfl (w.heap.size + 1) A' L c' vs w.heap.size F _ rfl rfl (w3.heap.size + 1) _ 1 1 _ rfl (Rd.lit w3 _ _ 1 rfl) (by intro u hu; simp only [List.mem_singleton] at hu; subst hu; rfl) (by omega) (by simp; omega) (by omega) (fun b => (Value.slice A3 16 c3).ownBlock = some b) (fun w => BytesAt w w.heap.size (.slice A3 16 c3) x) ?_ ?_ ?_ (by intro g hg _; simp [Apart, Res.apart, Low.els] <;> omega) ?_))
      · have h1 := hown3.cap
        have h2 : BytesAt w3 w3.heap.size (.slice A3 16 c3) x := ⟨A3, c3, by rw [hk16.out], by rw [hk16.out]; exact h1.1, h1.2, by rw [hk16.out]; exact hown3.rd⟩
        exact h2.grown (grown_alloc _ _)
      · exact BytesAt.st (by intro ad' h; subst h; exact .inr rfl)
      · intro b hb'
        have h1 := hown3.lt hb'
        refine ⟨by omega, by simp; omega, fun e => ?_⟩
        have h2 := hN.own.lt e
        omega
      · intro A5 c5 w5 hI5 hs5
        go_wp2
        refine ⟨⟨k + 1, L + 1, A5, c5, vs ++ [.slice A3 16 c3], (fun b => F b ∨ (Value.slice A3 16 c3).ownBlock = some b), by omega, by go_num, Lib.hid (by have := HL.out; omega), by have := HL.out; omega, rfl, ?_, by first | omega | (simp at hs5; omega)⟩, by simp [intOf]; omega⟩
        refine ⟨Nest.as (hI5.at_ 0 rfl) (fun W' => ?_), hI5.2⟩
        rw [hM.out, ← List.cons_append]
        exact All2.snoc.symm
    · have hkn : Hid (ends.take k = ends) := Lib.hid (List.take_of_length_le (by rw [HE.out]; omega))
      have hN := (hI.at_ 0 rfl : Nest wr (w.heap.size + 1) 64 1 A' L c' vs w.heap.size F _)
      have hp : Parts wr wr.heap.size A' L ([5, b8 (leaf / 256), b8 leaf] :: ends) := by
        have h1 := hN.inn
        simp only [hkn.out] at h1
        exact ⟨⟨vs, hN.own.rd, h1⟩⟩
      have hfl : Hid (halfS ([5, b8 (leaf / 256), b8 leaf] :: ends).flatten = combineS leaf ends) := Lib.hid (by simp [combineS, twoS])
      have hfl2 : ([5, b8 (leaf / 256), b8 leaf] :: ends).flatten.length ≤ 140737488355000 := by
        rw [List.flatten_cons, List.length_append, flat_len H16.out, HE.out]; simp; omega
      have h16 := Lib.hid (combineS_len leaf ends)
      clear hkn hN
      go_wp2_with fail
      refine (refHalf_any wr wr.heap.size A' L c' _ hp (Nat.le_refl _) (by omega) hfl2).mono ?_
      rintro e w5 ⟨rfl, hb⟩
      have hI5 := (hI.erase 0).call hb
      rw [hfl.out]
      generalize hr : combineS leaf ends = r at *
      have HR := Lib.hid hr
      clear hr hb hI hp hfl2
      go_wp2_with (refine wl_store_at hI5 0 rfl 23 (.tmp 4) _ rfl (w.heap.size) _ _ (r.map bv) rfl rfl rfl (by rw [List.length_map, h16.out]; rfl) (by rw [List.length_map, h16.out]; kernel_rfl) (bv_one _) (by simp [Apart, Res.apart, Low.parts, Low.els, Low.rd] <;> omega) ?_; intro w9 hI9 hs9)
      refine bodyPost_ret (v := .agg (r.map bv).toArray) ?_ rfl ⟨by rw [HR.out], (hI9.at_ 2 rfl).1⟩
      exact results_cell_row rfl _ _ (w.heap.size) 23 (r.map bv).toArray (0, 0) _ rfl (hI9.at_ 0 rfl) Try.underlying23 rfl (by rw [List.size_toArray, List.length_map, h16.out]; kernel_rfl)

end Go.Proofs.Ytlnbeglelhdjfaa

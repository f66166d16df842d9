/- Put of the reference. slices.Insert of one blob into a store, whatever its capacity. -/
import Derived.Test.YtkcmaembpfakdaaGreatDoorSto11
import Derived.Lib.AppendZerosOnto
set_option linter.unusedSimpArgs false
set_option linter.unusedVariables false
set_option maxRecDepth 100000
namespace Go.Adm
open Go Go.RowKit
theorem mem_ins0 {α : Type} {xs : List α} {k : Nat} {d y : α} : y ∈ xs.take k ++ d :: xs.drop k ↔ y = d ∨ y ∈ xs := by
  rw [List.mem_append, List.mem_cons]
  have h : y ∈ xs ↔ y ∈ xs.take k ∨ y ∈ xs.drop k := by rw [← List.mem_append, List.take_append_drop]
  rw [h]
  constructor
  · rintro (h1 | h1 | h1)
    · exact Or.inr (Or.inl h1)
    · exact Or.inl h1
    · exact Or.inr (Or.inr h1)
  · rintro (h1 | h1 | h1)
    · exact Or.inr (Or.inl h1)
    · exact Or.inl h1
    · exact Or.inr (Or.inr h1)
/-- Put of the reference: what it answers, and where it lies -/
def RefPost (A Ad : Option Addr) (l : List Bl) (d b : List UInt8) (w : World) (e : Ending) (w' : World) : Prop :=
  ∃ A' n' c' l', e = .returned (.tuple #[.slice A' n' c', .agg ((put3 l d b).2.1.map bv).toArray, .int .i64 (put3 l d b).2.2]) ∧ Blobs w' w'.heap.size A' n' l' ∧ n' ≤ c' ∧ c' ≤ maxLen ∧ l'.map pr = (put3 l d b).1 ∧ Below w.heap.size w w' ∧
    (A' = A ∨ ∀ ad, A' = some ad → w.heap.size ≤ ad.block) ∧ ∀ x ∈ l', x ∈ l ∨ x.A = Ad
theorem RefPost.put {A Ad : Option Addr} {l : List Bl} {d b : List UInt8} {w w' : World} {e : Ending} (h : RefPost A Ad l d b w e w') : PutPost l d b w e w' := by
  obtain ⟨A', n', c', l', h1, h2, h3, h4, h5, h6, _⟩ := h
  exact ⟨A', n', c', l', h1, h2, h3, h4, h5, h6⟩
theorem own_from {w : World} {base n c size : Nat} {t : TypeId} {A : Option Addr} {xs : List Value} (h : Own w base t size A n c xs) : ∀ ad, A = some ad → base ≤ ad.block := fun ad e => by
  subst e
  exact (h.lt rfl).1
theorem blobs_ins {w : World} {B base n c i : Nat} {t : TypeId} {A A' : Option Addr} {l : List Bl} {x : Bl} (hB : B ≤ w.heap.size) (hl : Blobs w B A n l) (hx : BlOk w B x) (hi : i ≤ n) (ho : Own w base t 33 A' (n + 1) c ((l.take i ++ x :: l.drop i).map blC).flatten) :
    Blobs w w.heap.size A' (n + 1) (l.take i ++ x :: l.drop i) := by
  have hm : ∀ y ∈ l.take i ++ x :: l.drop i, BlOk w w.heap.size y := fun y hy => by
    rcases List.mem_append.1 hy with h | h
    · exact (hl.each y (List.mem_of_mem_take h)).mono hB
    · rcases List.mem_cons.1 h with h | h
      · rw [h]; exact hx.mono hB
      · exact (hl.each y (List.mem_of_mem_drop h)).mono hB
  refine ⟨Els.of ho (fun e he => ?_) (by rw [List.length_map]; exact ins_len hl.len hi), hm, ins_len hl.len hi⟩
  obtain ⟨y, hy, rfl⟩ := List.mem_map.1 he
  exact blC_len (hm y hy).d32
end Go.Adm
namespace Go.Proofs.YtkcmaembpfakdaaGreatDoor
open Go Go.RowKit Go.Adm

set_option maxHeartbeats 3200000 in
theorem refPut_ex (w : World) (B : Nat) (A Ad : Option Addr) (n c nd cd : Nat) (l : List Bl) (d b : List UInt8) (hl : Blobs w B A n l) (hb : Rd w B 1 Ad nd (b.map bv)) (hd : shaS b = d) (hn2 : n ≤ 1000000) (hnc : n ≤ c) (hc : c ≤ maxLen) (hnd : nd ≤ 140737488355000) (hncd : nd ≤ cd) (hcd : cd ≤ maxLen) (hB : B ≤ w.heap.size) (hbig : ∀ x ∈ l, x.n ≤ 140737488355000) :
    Calls Tryz.prog 25 #[.slice A n c, .slice Ad nd cd] w (RefPost A Ad l d b w) := by
  have hR : All w [.low (.blobs B A n l), .low (.rd B 1 Ad nd (b.map bv)), .kept w w.heap.size] := ⟨⟨hl, hB⟩, ⟨hb, hB⟩, ⟨Below.refl _ _, Nat.le_refl _⟩, trivial⟩
  have HN := Lib.hid hl.len
  have HBL : Hid (b.length = nd) := Lib.hid (by have := hb.len; simpa using this)
  have HBIG := Lib.hid hbig
  have HD : Hid (d.length = 32) := Lib.hid (by rw [← hd]; exact shaS_len b)
  have HSD := Lib.hid hd
  have hzr := zero_bl
  clear hl hb hbig hd
  go_enter Tryz.func25, Tryz.ntmps25
  go_upto_region 1 with (fail)
  refine wp_gen (hR.new (l := z32.map bv) _ 32 rfl rfl) ?_
  intro W1 hW1
  have hs1 : w.heap.size < W1.heap.size := Cells.lt (hW1.at_ 0 rfl)
  clear hR
  have hva := refValid_any W1 B A n c l (hW1.at_ 1 rfl : Blobs W1 B A n l ∧ _).1 hn2 (hW1.at_ 1 rfl : _ ∧ B ≤ W1.heap.size).2 HBIG.out
  go_wp2_with fail
  refine hva.mono ?_
  clear hva
  rintro e w2 ⟨rfl, hb2⟩
  have hW2 := hW1.call hb2
  have hs2 : w.heap.size < w2.heap.size := Cells.lt (hW2.at_ 0 rfl)
  clear hb2 hW1 hs1
  cases hv : validB l with
  | false =>
    have HF := Lib.hid (put3_bad (d := d) (b := b) hv)
    clear hv
    go_wp2_with (refine wl_store_at hW2 0 rfl 32 (.tmp 5) (.tmp 13) rfl w.heap.size _ _ (z32.map bv) rfl rfl rfl rfl (by kernel_rfl) (bv_one _) (by simp [Apart, Res.apart, Low.blobs, Low.rd] <;> omega) ?_; intro W9 hW9 hs9)
    refine bodyPost_ret (v := .tuple #[.slice none 0 0, .agg (z32.map bv).toArray, .int .i64 1]) ?_ rfl ⟨none, 0, 0, [], by rw [HF.out], Blobs.nil, Nat.le_refl _, by decide, by rw [HF.out]; rfl, (hW9.at_ 3 rfl : _ ∧ _).1, Or.inr (fun ad e => by cases e), fun x hx => by cases hx⟩
    exact results_tmp_row_tmp (o := 4) (p := 5) (q := 6) rfl _ _ w.heap.size 32 (z32.map bv).toArray (0, 0) _ rfl (hW9.at_ 0 rfl) Tryz.underlying32 rfl (by kernel_rfl)
  | true =>
  by_cases hlong : 262144 < nd
  · have HF := Lib.hid (put3_long (d := d) (b := b) hv (by rw [HBL.out]; exact hlong))
    have d1 : decide (262144 < (nd : Int)) = true := by simp; omega
    have d2 : decide (262144 < nd) = true := by simp; omega
    clear hv hlong
    go_wp2_with (refine wl_store_at hW2 0 rfl 32 (.tmp 5) (.tmp 17) rfl w.heap.size _ _ (z32.map bv) rfl rfl rfl rfl (by kernel_rfl) (bv_one _) (by simp [Apart, Res.apart, Low.blobs, Low.rd] <;> omega) ?_; intro W9 hW9 hs9)
    refine bodyPost_ret (v := .tuple #[.slice none 0 0, .agg (z32.map bv).toArray, .int .i64 3]) ?_ rfl ⟨none, 0, 0, [], by rw [HF.out], Blobs.nil, Nat.le_refl _, by decide, by rw [HF.out]; rfl, (hW9.at_ 3 rfl : _ ∧ _).1, Or.inr (fun ad e => by cases e), fun x hx => by cases hx⟩
    exact results_tmp_row_tmp (o := 4) (p := 5) (q := 6) rfl _ _ w.heap.size 32 (z32.map bv).toArray (0, 0) _ rfl (hW9.at_ 0 rfl) Tryz.underlying32 rfl (by kernel_rfl)
  have d1 : decide (262144 < (nd : Int)) = false := by simp; omega
  have d2 : decide (262144 < nd) = false := by simp; omega
  have hsu := refSum_any w2 B Ad nd cd b (hW2.at_ 2 rfl : Rd w2 B 1 Ad nd (b.map bv) ∧ _).1 (hW2.at_ 2 rfl : _ ∧ B ≤ w2.heap.size).2 hnd
  rw [HSD.out] at hsu
  have HV := Lib.hid hv
  have HSH : Hid (b.length ≤ 262144) := Lib.hid (by rw [HBL.out]; omega)
  clear hv hlong
  go_wp2_with fail
  refine hsu.mono ?_
  clear hsu
  rintro e w3 ⟨rfl, hb3⟩
  have hW3 := hW2.call hb3
  clear hb3 hW2 hs2
  obtain ⟨g7, hg7⟩ : ∃ g7, g7 = w3.heap.size := ⟨_, rfl⟩
  have hg7w : w.heap.size < g7 := by have : w.heap.size < w3.heap.size := Cells.lt (hW3.at_ 0 rfl); omega
  go_upto_region 6 with (refine wl_store_at (hW3.new (l := z32.map bv) _ 32 hg7 rfl) 0 rfl 32 (.tmp 7) (.tmp 19) rfl g7 _ _ (d.map bv) rfl (by rw [hg7]; rfl) rfl (by rw [List.length_map, HD.out]; rfl) (by rw [List.length_map, HD.out]; kernel_rfl) (bv_one _) (by simp [Apart, Res.apart, Low.blobs, Low.rd] <;> omega) ?_; intro W3 hW3' hs3; simp only [List.set_cons_zero] at hW3')
  simp only [← hg7]
  clear hs3 hW3 hg7
  have hfi := refGet_any W3 B A n c l d (hW3'.at_ 2 rfl : Blobs W3 B A n l ∧ _).1 HD.out hn2 (hW3'.at_ 2 rfl : _ ∧ B ≤ W3.heap.size).2
  go_wp2_with (refine wl_load_any rfl 32 (.tmp 7) rfl ⟨g7, 0, none⟩ rfl (d.map bv) _ (Cells.sub (hW3'.at_ 0 rfl) 0 (fun j u h => by rwa [Nat.zero_add])) Tryz.underlying32 rfl (by rw [List.length_map, HD.out]; kernel_rfl) ?_)
  refine hfi.mono ?_
  clear hfi
  rintro e w4 ⟨rfl, hb4⟩
  have hW4 := hW3'.call hb4
  clear hb4 hW3'
  cases hlk : lookB l d with
  | some y =>
    have HF := Lib.hid (put3_had HV.out HSH.out (by rw [hlk]; rfl))
    clear hlk
    unfold got
    go_upto_region 8 with (fail)
    refine wp_region_hops 3 [27, 28, 4] [.cells g7 32 (d.map bv), .cells w.heap.size 32 (z32.map bv), .low (.blobs B A n l), .low (.rd B 1 Ad nd (b.map bv)), .kept w w.heap.size]
      [.eq (.slice A n c), .eq (.agg (d.map bv).toArray), .eq (.slice A n c)]
      (by kernel_rfl) (by kernel_rfl) hW4 rfl ?hops ?fin
    case hops =>
      refine ⟨?_, ?_, ?_, trivial⟩
      · intro a W hW hb hd K hK
        have b0 := hb 0 rfl
        go_simp
        exact hK _ _ (World.grownBy.refl _ _) rfl
      · intro a W hW hb hd K hK
        have b7 := hb 7 rfl
        refine wp_load_any 32 (.tmp 7) rfl ⟨g7, 0, none⟩ (show a.eval (.tmp 7) = _ from by simp only [Act.eval, Array.getD_eq_getD_getElem?]; exact b7) (d.map bv) _ (Cells.sub (hW.at_ 0 rfl) 0 (fun j u h => by rwa [Nat.zero_add])) Tryz.underlying32 rfl (by rw [List.length_map, HD.out]; kernel_rfl) ?_
        exact hK _ _ (World.grownBy.refl _ _) rfl
      · intro a W hW hb hd K hK
        have b27 : a.tmps[27]?.getD undef = _ := hd ⟨0, .data⟩ (by simp) rfl
        go_simp
        exact hK _ _ (World.grownBy.refl _ _) rfl
    case fin =>
      intro vs W hW hv
      have e1 : vs 1 = _ := hv 1 (by decide)
      have e2 : vs 2 = _ := hv 2 (by decide)
      clear hv
      simp only [putAll, List.drop_succ_cons, List.drop_zero, e1, e2, Act.put, List.setIfInBounds_toArray, List.set_cons_succ, List.set_cons_zero]
      clear e1 e2
      go_wp2_with (refine wl_store_at hW 1 rfl 32 (.tmp 5) (.tmp 28) rfl w.heap.size _ _ (d.map bv) rfl rfl rfl (by rw [List.length_map, HD.out]; rfl) (by rw [List.length_map, HD.out]; kernel_rfl) (bv_one _) ⟨by simp [Res.apart]; omega, by simp [Res.apart, Low.blobs]; omega, by simp [Res.apart, Low.rd]; omega, by simp [Res.apart], trivial⟩ ?_; intro W9 hW9 hs9)
      refine bodyPost_ret (v := .tuple #[.slice A n c, .agg (d.map bv).toArray, .int .i64 0]) ?_ rfl ⟨A, n, c, l, by rw [HF.out], (hW9.at_ 2 rfl : Blobs W9 B A n l ∧ _).1.mono (hW9.at_ 2 rfl : _ ∧ B ≤ W9.heap.size).2, hnc, hc, by rw [HF.out], (hW9.at_ 4 rfl : _ ∧ _).1, Or.inl rfl, fun x hx => Or.inl hx⟩
      exact results_tmp_row_tmp (o := 4) (p := 5) (q := 6) rfl _ _ w.heap.size 32 (d.map bv).toArray (0, 0) _ rfl (hW9.at_ 1 rfl) Tryz.underlying32 rfl (by rw [List.size_toArray, List.length_map, HD.out]; kernel_rfl)
  | none =>
  have hBw : B ≤ w.heap.size := hB
  have hlk2 : (lookB l d).isSome = false := by rw [hlk]; rfl
  unfold got
  by_cases hfull : n = 256
  · have HF := Lib.hid (put3_full HV.out HSH.out hlk2 (by rw [HN.out]; exact hfull))
    have d3 : ((n : Int) == 256) = true := by simp; omega
    have d4 : (n == 256) = true := by simp; omega
    clear hfull hlk hlk2
    have hs4 : w.heap.size < w4.heap.size := Cells.lt (hW4.at_ 1 rfl)
    go_wp2_with (refine wl_store_at hW4 1 rfl 32 (.tmp 5) (.tmp 32) rfl w.heap.size _ _ (z32.map bv) rfl rfl rfl rfl (by kernel_rfl) (bv_one _) (by simp [Apart, Res.apart, Low.blobs, Low.rd] <;> omega) ?_; intro W9 hW9 hs9)
    refine bodyPost_ret (v := .tuple #[.slice none 0 0, .agg (z32.map bv).toArray, .int .i64 3]) ?_ rfl ⟨none, 0, 0, [], by rw [HF.out], Blobs.nil, Nat.le_refl _, by decide, by rw [HF.out]; rfl, (hW9.at_ 4 rfl : _ ∧ _).1, Or.inr (fun ad e => by cases e), fun x hx => by cases hx⟩
    exact results_tmp_row_tmp (o := 4) (p := 5) (q := 6) rfl _ _ w.heap.size 32 (z32.map bv).toArray (0, 0) _ rfl (hW9.at_ 1 rfl) Tryz.underlying32 rfl (by kernel_rfl)
  have HF := Lib.hid (put3_new HV.out HSH.out hlk2 (by rw [HN.out]; exact hfull))
  have d3 : ((n : Int) == 256) = false := by simp; omega
  have d4 : (n == 256) = false := by simp; omega
  clear hfull hlk hlk2
  go_upto_region 11 with (fail)
  refine wp_region_hops 7 [33, 34, 35, 36, 37, 38, 4] [.cells g7 32 (d.map bv), .cells w.heap.size 32 (z32.map bv), .low (.blobs B A n l), .low (.rd B 1 Ad nd (b.map bv)), .kept w w.heap.size]
    [.eq (.slice A n c), .eq (.agg (d.map bv).toArray), .eq (.slice Ad nd cd), .eq (.agg (blC ⟨d, Ad, nd, cd, b⟩).toArray), .own (w.heap.size + 1) 51 33 (n + 1) ((l.take (placeB l d) ++ ⟨d, Ad, nd, cd, b⟩ :: l.drop (placeB l d)).map blC).flatten, .eq (.agg (d.map bv).toArray), .own (w.heap.size + 1) 51 33 (n + 1) ((l.take (placeB l d) ++ ⟨d, Ad, nd, cd, b⟩ :: l.drop (placeB l d)).map blC).flatten]
    (by kernel_rfl) (by kernel_rfl) hW4 rfl ?hops ?fin
  case hops =>
    refine ⟨?_, ?_, ?_, ?_, ?_, ?_, ?_, trivial⟩
    · intro a W hW hb hd K hK
      have b0 := hb 0 rfl
      go_simp
      exact hK _ _ (World.grownBy.refl _ _) rfl
    · intro a W hW hb hd K hK
      have b7 := hb 7 rfl
      refine wp_load_any 32 (.tmp 7) rfl ⟨g7, 0, none⟩ (show a.eval (.tmp 7) = _ from by simp only [Act.eval, Array.getD_eq_getD_getElem?]; exact b7) (d.map bv) _ (Cells.sub (hW.at_ 0 rfl) 0 (fun j u h => by rwa [Nat.zero_add])) Tryz.underlying32 rfl (by rw [List.length_map, HD.out]; kernel_rfl) ?_
      exact hK _ _ (World.grownBy.refl _ _) rfl
    · intro a W hW hb hd K hK
      have b1 := hb 1 rfl
      go_simp
      exact hK _ _ (World.grownBy.refl _ _) rfl
    · intro a W hW hb hd K hK
      have b34 : a.tmps[34]?.getD undef = _ := hd ⟨1, .data⟩ (by simp) rfl
      have b35 : a.tmps[35]?.getD undef = _ := hd ⟨2, .data⟩ (by simp) rfl
      refine wp_bld 51 [(0, .tmp 34), (1, .tmp 35)] rfl _ _ #[(0, 32), (32, 1)] (blC ⟨d, Ad, nd, cd, b⟩).toArray zero_bl Tryz.underlying51 (fun w => by kernel_rfl) (by
        have h1 : a.eval (.tmp 34) = .agg (d.map bv).toArray := by simp only [Act.eval, Array.getD_eq_getD_getElem?]; exact b34
        have h2 : a.eval (.tmp 35) = .slice Ad nd cd := by simp only [Act.eval, Array.getD_eq_getD_getElem?]; exact b35
        simp only [List.map_cons, List.map_nil, h1, h2]
        exact fill_bl d Ad nd cd b HD.out) ?_
      exact hK _ _ (World.grownBy.refl _ _) rfl
    · intro a W hW hb hd K hK
      have b33 : a.tmps[33]?.getD undef = _ := hd ⟨0, .data⟩ (by simp) rfl
      have b36 : a.tmps[36]?.getD undef = _ := hd ⟨3, .data⟩ (by simp) rfl
      have hgw : w.heap.size + 1 ≤ W.heap.size := Cells.lt (hW.at_ 1 rfl)
      go_simp
      refine (insert_any W B A n c l ⟨d, Ad, nd, cd, b⟩ (hW.at_ 2 rfl : Blobs W B A n l ∧ _).1 HD.out hn2 hnc (hW.at_ 2 rfl : _ ∧ B ≤ W.heap.size).2).mono ?_
      rintro e w' ⟨A3, c3, rfl, hown, hb'⟩
      exact hK _ _ (grown_of_below hb') ⟨Nat.le_trans hgw hb'.size, A3, c3, rfl, hown.less hgw⟩
    · intro a W hW hb hd K hK
      have b7 := hb 7 rfl
      refine wp_load_any 32 (.tmp 7) rfl ⟨g7, 0, none⟩ (show a.eval (.tmp 7) = _ from by simp only [Act.eval, Array.getD_eq_getD_getElem?]; exact b7) (d.map bv) _ (Cells.sub (hW.at_ 0 rfl) 0 (fun j u h => by rwa [Nat.zero_add])) Tryz.underlying32 rfl (by rw [List.length_map, HD.out]; kernel_rfl) ?_
      exact hK _ _ (World.grownBy.refl _ _) rfl
    · intro a W hW hb hd K hK
      have hS : VF.at [.eq (.slice A n c), .eq (.agg (d.map bv).toArray), .eq (.slice Ad nd cd), .eq (.agg (blC ⟨d, Ad, nd, cd, b⟩).toArray), .own (w.heap.size + 1) 51 33 (n + 1) ((l.take (placeB l d) ++ ⟨d, Ad, nd, cd, b⟩ :: l.drop (placeB l d)).map blC).flatten, .eq (.agg (d.map bv).toArray), .own (w.heap.size + 1) 51 33 (n + 1) ((l.take (placeB l d) ++ ⟨d, Ad, nd, cd, b⟩ :: l.drop (placeB l d)).map blC).flatten] 4 (a.tmps[37]?.getD undef) W := hd ⟨4, .data⟩ (by simp) rfl
      have b37 : a.tmps[37]?.getD undef = a.tmps[37]?.getD undef := rfl
      go_simp
      exact hK _ _ (World.grownBy.refl _ _) hS
  case fin =>
    intro vs W hW hv
    have e5 : vs 5 = _ := hv 5 (by decide)
    obtain ⟨hbw, A3, c3, e6, hown⟩ : w.heap.size + 1 ≤ W.heap.size ∧ ∃ A' c', vs 6 = .slice A' (n + 1) c' ∧ Go.Adm.Own W (w.heap.size + 1) 51 33 A' (n + 1) c' ((l.take (placeB l d) ++ ⟨d, Ad, nd, cd, b⟩ :: l.drop (placeB l d)).map blC).flatten := hv 6 (by decide)
    clear hv
    simp only [putAll, List.drop_succ_cons, List.drop_zero, e5, e6, Act.put, List.setIfInBounds_toArray, List.set_cons_succ, List.set_cons_zero]
    clear e5 e6
    have hX : All W (.own (w.heap.size + 1) 51 33 A3 (n + 1) c3 ((l.take (placeB l d) ++ ⟨d, Ad, nd, cd, b⟩ :: l.drop (placeB l d)).map blC).flatten :: [.cells g7 32 (d.map bv), .cells w.heap.size 32 (z32.map bv), .low (.blobs B A n l), .low (.rd B 1 Ad nd (b.map bv)), .kept w w.heap.size]) := ⟨hown, hW⟩
    clear hW hown
    go_wp2_with (refine wl_store_at hX 2 rfl 32 (.tmp 5) (.tmp 38) rfl w.heap.size _ _ (d.map bv) rfl rfl rfl (by rw [List.length_map, HD.out]; rfl) (by rw [List.length_map, HD.out]; kernel_rfl) (bv_one _) ⟨fun g e => by { injection e with e; left; omega }, by simp [Res.apart]; omega, by simp [Res.apart, Low.blobs]; omega, by simp [Res.apart, Low.rd]; omega, by simp [Res.apart], trivial⟩ ?_; intro W9 hW9 hs9)
    have hO9 : Go.Adm.Own W9 (w.heap.size + 1) 51 33 A3 (n + 1) c3 ((l.take (placeB l d) ++ ⟨d, Ad, nd, cd, b⟩ :: l.drop (placeB l d)).map blC).flatten := hW9.at_ 0 rfl
    refine bodyPost_ret (v := .tuple #[.slice A3 (n + 1) c3, .agg (d.map bv).toArray, .int .i64 0]) ?_ rfl ⟨A3, n + 1, c3, _, by rw [HF.out], blobs_ins (B := B) (l := l) (x := ⟨d, Ad, nd, cd, b⟩) (i := placeB l d) (hW9.at_ 3 rfl : _ ∧ B ≤ W9.heap.size).2 (hW9.at_ 3 rfl : Blobs W9 B A n l ∧ _).1 ⟨HD.out, (hW9.at_ 4 rfl : Rd W9 B 1 Ad nd (b.map bv) ∧ _).1, hncd, hcd⟩ (by rw [← HN.out]; exact placeB_le l d) hO9, hO9.cap.1, hO9.cap.2, by rw [HF.out, List.map_append, List.map_cons, List.map_take, List.map_drop]; rfl, (hW9.at_ 5 rfl : _ ∧ _).1, Or.inr (fun ad e => by have := own_from hO9 ad e; omega), fun y hy => (mem_ins0.1 hy).elim (fun e => Or.inr (by rw [e])) Or.inl⟩
    exact results_tmp_row_tmp (o := 4) (p := 5) (q := 6) rfl _ _ w.heap.size 32 (d.map bv).toArray (0, 0) _ rfl (hW9.at_ 2 rfl) Tryz.underlying32 rfl (by rw [List.size_toArray, List.length_map, HD.out]; kernel_rfl)

theorem refPut_any (w : World) (B : Nat) (A Ad : Option Addr) (n c nd cd : Nat) (l : List Bl) (d b : List UInt8) (hl : Blobs w B A n l) (hb : Rd w B 1 Ad nd (b.map bv)) (hd : shaS b = d) (hn2 : n ≤ 1000000) (hnc : n ≤ c) (hc : c ≤ maxLen) (hnd : nd ≤ 140737488355000) (hncd : nd ≤ cd) (hcd : cd ≤ maxLen) (hB : B ≤ w.heap.size) (hbig : ∀ x ∈ l, x.n ≤ 140737488355000) :
    Calls Tryz.prog 25 #[.slice A n c, .slice Ad nd cd] w (PutPost l d b w) :=
  (refPut_ex w B A Ad n c nd cd l d b hl hb hd hn2 hnc hc hnd hncd hcd hB hbig).mono fun _ _ h => h.put
end Go.Proofs.YtkcmaembpfakdaaGreatDoor
set_option linter.unusedSimpArgs false
set_option linter.unusedVariables false
set_option maxRecDepth 100000
namespace Go.Adm
open Go Go.RowKit
section
variable {P : Program} {w : World} {rs : List Res}
/-- 'append(s, make([]T, k)...)' beyond the capacity: a new block -/
theorem wl_app_zeros {ops : Array Oper} {rest : List Oper} {o : Oper} {a : Act} {Q : Exit → Act → World → Prop} {t tn e : TypeId} {z : Value} {size bytes : Nat} {kn kq : IntKind} (E : ElemOf P t e z size bytes) (htn : P.underlying tn = some (.int kn)) (hR : All w rs) (j : Nat) (hgd : o.guard = none) (s x : Operand)
    (ho : o.op = .call { callee := .builtin .append, args := #[s, x], argTypes := #[t, tn] })
    (g i c k : Nat) (cs : List Value) (hC : rs[j]? = some (.cells g e cs)) (hs : a.eval s = .slice (some ⟨g, 0, none⟩) i c) (hx : a.eval x = .int kq k) (h0 : 0 < k) (hg : c < i + k) (hfit : i * size ≤ cs.length)
    (hb : (i + k) * bytes ≤ 140737488355328)
    (h : ∀ c' w' cs', i + k ≤ c' → c' ≤ maxLen → cs'.length = c' * size → cs'.take (i * size) = cs.take (i * size) → All w' (.cells w.heap.size e cs' :: rs) → w'.heap.size = w.heap.size + 1 → wpList P ops Q rest (a.put o.dst (.slice (some ⟨w.heap.size, 0, none⟩) (i + k) c')) w') : wpList P ops Q (o :: rest) a w := by
  obtain ⟨i0, hi, hz, hsize, hby⟩ := E.hi
  have hcell : Cells w g e cs := hR.at_ j hC
  have hbp := E.hb
  have h1 : (i + k) ≤ (i + k) * bytes := Nat.le_mul_of_pos_right _ hbp
  have hold : (Builtin.firstCells i0.size i (.slice (some ⟨g, 0, none⟩) i c)).run P w.drew = .ok (cs.take (i * size)).toArray w.drew := by
    rw [hsize]
    refine run_firstCells_some (w := w.drew) size i ⟨g, 0, none⟩ i c (cs.take (i * size)) (by rw [List.length_take]; omega) fun q v hv => ?_
    rw [add_lit]
    show w.cell? _ = some v
    rw [cell_of_row w g _ cs.toArray e (0, 0) hcell, Nat.zero_add]
    rw [List.getElem?_take] at hv
    split at hv
    · simpa using hv
    · cases hv
  have hkb : k * bytes ≤ (i + k) * bytes := Nat.mul_le_mul_right _ (by omega)
  have hr := Lib.run_append_grow_zeros w t tn o.type e i0 z kq kn E.ht htn hi hz (some ⟨g, 0, none⟩) i c _ hold k h0 (by rw [hsize]; exact E.hs) hg (by omega) (by rw [hby]; omega) (by rw [hby]; exact growslice_fits hg hb)
  have hcge := grownCap_ge w (i + k) c e
  have hcle := grownCap_le_maxLen w (i + k) c e (by simp only [maxLen]; omega)
  refine wpList_plain hgd fun K hK' => ?_
  unfold Oper.wp
  simp only [execOp, ho, resolve, invoke, builtin, Sem.run_bind, Sem.run_pure, Result.andThen_ok, List.map_toArray, List.map_cons, List.map_nil, hs, hx, hr]
  refine hK' _ _ (h (grownCap w (i + k) c e) _ _ hcge hcle ?_ ?_ (All.new hR.drew _ e rfl rfl) (by simp))
  · simp only [Array.toList_append, List.length_append, Array.length_toList, size_zeroCells, E.hz, List.length_take]
    rw [Nat.min_eq_left hfit, ← Nat.add_mul, ← Nat.add_mul]
    congr 1
    omega
  · rw [Array.toList_append, Array.toList_append, List.append_assoc, List.take_append_of_le_length (by simp only [List.length_take]; omega)]
    rw [List.take_take, Nat.min_self]
/-- a slice longer, within its capacity: nothing is read -/
theorem all_rest {g : Nat} {t : TypeId} {cs : List Value} (h : All w (.cells g t cs :: rs)) : All w rs := h.2
end
/-- the two copies of an insertion: the part behind goes one further, the blob comes into its place -/
theorem ins_cells2 {cs : List Value} {l : List Bl} {x : Bl} {n i c : Nat} (hcs : cs.take (n * 33) = (l.map blC).flatten) (hlen : cs.length = c * 33) (hc : n + 1 ≤ c) (hl : l.length = n) (h32 : ∀ y ∈ l, y.d.length = 32) (hx : (blC x).length = 33) (hi : i < n) :
    (cs.drop (i * 33)).take ((n - i) * 33) = ((l.drop i).map blC).flatten ∧ ((l.drop i).map blC).flatten.length = (n - i) * 33 ∧
    (cs.take ((i + 1) * 33) ++ ((l.drop i).map blC).flatten ++ cs.drop ((i + 1) * 33 + ((l.drop i).map blC).flatten.length)).length = c * 33 ∧
    ((cs.take ((i + 1) * 33) ++ ((l.drop i).map blC).flatten ++ cs.drop ((i + 1) * 33 + ((l.drop i).map blC).flatten.length)).take (i * 33) ++ blC x ++
      (cs.take ((i + 1) * 33) ++ ((l.drop i).map blC).flatten ++ cs.drop ((i + 1) * 33 + ((l.drop i).map blC).flatten.length)).drop (i * 33 + (blC x).length)).take ((n + 1) * 33) = ((l.take i ++ x :: l.drop i).map blC).flatten := by
  have heach : ∀ e ∈ l.map blC, e.length = 33 := fun e he => by
    obtain ⟨y, hy, rfl⟩ := List.mem_map.1 he
    exact blC_len (h32 y hy)
  have h1 : (cs.drop (i * 33)).take ((n - i) * 33) = ((l.drop i).map blC).flatten := by
    rw [List.map_drop, ← flat_drop i heach, ← hcs, List.drop_take]
    congr 1
    omega
  have h2 : ((l.drop i).map blC).flatten.length = (n - i) * 33 := by
    rw [blC_flat _ (fun y hy => h32 y (List.mem_of_mem_drop hy)), List.length_drop, hl]
  have h4 : cs.take (i * 33) = ((l.take i).map blC).flatten := by
    rw [List.map_take, ← flat_take i heach, ← hcs, List.take_take, Nat.min_eq_left (by omega)]
  refine ⟨h1, h2, ?_, ?_⟩
  · rw [List.length_append, List.length_append, List.length_take, List.length_drop, h2]; omega
  · have h6 : (cs.take ((i + 1) * 33)).length = (i + 1) * 33 := by rw [List.length_take]; omega
    generalize hr : cs.drop ((i + 1) * 33 + ((l.drop i).map blC).flatten.length) = r
    have h7 : (cs.take ((i + 1) * 33) ++ ((l.drop i).map blC).flatten ++ r).take (i * 33) = ((l.take i).map blC).flatten := by
      rw [List.append_assoc, List.take_append_of_le_length (by omega), List.take_take, Nat.min_eq_left (by omega), h4]
    have h8 : (cs.take ((i + 1) * 33) ++ ((l.drop i).map blC).flatten ++ r).drop (i * 33 + (blC x).length) = ((l.drop i).map blC).flatten ++ r := by
      rw [List.append_assoc, List.drop_left' (by rw [h6, hx]; omega)]
    rw [h7, h8, ← List.append_assoc, List.take_left' (by
      rw [List.length_append, List.length_append, h2, hx, blC_flat _ (fun y hy => h32 y (List.mem_of_mem_take hy)), List.length_take]; omega)]
    simp
theorem zer_cells {cs cs2 : List Value} {l : List Bl} {x : Bl} {n i c c' : Nat} (hcs : cs.take (n * 33) = (l.map blC).flatten) (hlen : cs.length = c * 33) (hc : n ≤ c) (hl : l.length = n) (h32 : ∀ y ∈ l, y.d.length = 32) (hx : (blC x).length = 33) (hi : i < n)
    (hl2 : cs2.length = c' * 33) (hc' : n + 1 ≤ c') (ht : cs2.take (i * 33) = cs.take (i * 33)) :
    (cs.drop (i * 33)).take ((n - i) * 33) = ((l.drop i).map blC).flatten ∧ ((l.drop i).map blC).flatten.length = (n - i) * 33 ∧
    (cs2.take (i * 33) ++ blC x ++ cs2.drop (i * 33 + (blC x).length)).length = c' * 33 ∧
    ((cs2.take (i * 33) ++ blC x ++ cs2.drop (i * 33 + (blC x).length)).take ((i + 1) * 33) ++ ((l.drop i).map blC).flatten ++
      (cs2.take (i * 33) ++ blC x ++ cs2.drop (i * 33 + (blC x).length)).drop ((i + 1) * 33 + ((l.drop i).map blC).flatten.length)).length = c' * 33 ∧
    ((cs2.take (i * 33) ++ blC x ++ cs2.drop (i * 33 + (blC x).length)).take ((i + 1) * 33) ++ ((l.drop i).map blC).flatten ++
      (cs2.take (i * 33) ++ blC x ++ cs2.drop (i * 33 + (blC x).length)).drop ((i + 1) * 33 + ((l.drop i).map blC).flatten.length)).take ((n + 1) * 33) = ((l.take i ++ x :: l.drop i).map blC).flatten := by
  have heach : ∀ e ∈ l.map blC, e.length = 33 := fun e he => by
    obtain ⟨y, hy, rfl⟩ := List.mem_map.1 he
    exact blC_len (h32 y hy)
  have h1 : (cs.drop (i * 33)).take ((n - i) * 33) = ((l.drop i).map blC).flatten := by
    rw [List.map_drop, ← flat_drop i heach, ← hcs, List.drop_take]
    congr 1
    omega
  have h2 : ((l.drop i).map blC).flatten.length = (n - i) * 33 := by
    rw [blC_flat _ (fun y hy => h32 y (List.mem_of_mem_drop hy)), List.length_drop, hl]
  have h4 : cs2.take (i * 33) = ((l.take i).map blC).flatten := by
    rw [ht, List.map_take, ← flat_take i heach, ← hcs, List.take_take, Nat.min_eq_left (by omega)]
  have h3 : (cs2.take (i * 33) ++ blC x ++ cs2.drop (i * 33 + (blC x).length)).length = c' * 33 := by
    rw [List.length_append, List.length_append, List.length_take, List.length_drop, hx]; omega
  have h5 : (cs2.take (i * 33) ++ blC x ++ cs2.drop (i * 33 + (blC x).length)).take ((i + 1) * 33) = ((l.take i).map blC).flatten ++ blC x := by
    rw [List.take_left' (by rw [List.length_append, List.length_take, hx]; omega), h4]
  refine ⟨h1, h2, h3, ?_, ?_⟩
  · rw [List.length_append, List.length_append, List.length_take, List.length_drop, h2, h3]; omega
  · rw [h5, List.take_left' (by
      rw [List.length_append, List.length_append, h2, hx, blC_flat _ (fun y hy => h32 y (List.mem_of_mem_take hy)), List.length_take]; omega)]
    simp
theorem app_cells2 {cs : List Value} {l : List Bl} {x : Bl} {n : Nat} (hcs : cs.take (n * 33) = (l.map blC).flatten) (hl : l.length = n) :
    (l.map blC).flatten ++ blC x = ((l.take n ++ x :: l.drop n).map blC).flatten := by
  rw [List.take_of_length_le (by omega), List.drop_of_length_le (by omega)]
  simp
theorem app_form {w w5 : World} {t : TypeId} {g n c c5 : Nat} {A5 : Option Addr} {xs news : List Value} (h : Own w5 0 t 33 A5 (n + 1) c5 (xs ++ news)) (hb : (Value.slice A5 (n + 1) c5).ownBlock = (Value.slice (some ⟨g, 0, none⟩) n c).ownBlock ∨ (Value.slice A5 (n + 1) c5).ownBlock = some w.heap.size) (hn : 0 < n + 1) :
    ∃ g' cs', A5 = some ⟨g', 0, none⟩ ∧ (g' = g ∨ w.heap.size ≤ g') ∧ n + 1 ≤ c5 ∧ c5 ≤ maxLen ∧ cs'.length = c5 * 33 ∧ cs'.take ((n + 1) * 33) = xs ++ news ∧ Cells w5 g' t cs' := by
  rcases h.2 with ⟨h1, h2⟩ | ⟨g', cap, cur, hv, _, hh, h1, h2, h3, h4⟩
  · omega
  · injection hv with e1 e2 e3
    subst e1 e3
    refine ⟨g', cur.toList, rfl, ?_, h1, h2, by simpa using h3, h4, by simpa [Cells] using hh⟩
    rcases hb with hb | hb
    · exact Or.inl (by injection hb)
    · exact Or.inr (Nat.le_of_eq (by injection hb with hb; exact hb.symm))
end Go.Adm
namespace Go.Proofs.YtkcmaembpfakdaaGreatDoor
open Go Go.RowKit Go.Adm

set_option maxHeartbeats 3200000 in
theorem Insert_gen (w : World) (rs : List Res) (g g2 n c i : Nat) (cs : List Value) (l : List Bl) (x : Bl) (hR : All w (.cells g 51 cs :: .cells g2 51 (blC x) :: rs)) (hap : Apart (some g) rs) (hfar : ∀ b, w.heap.size ≤ b → Apart (some b) rs) (hne : g2 ≠ g)
    (hlen : cs.length = c * 33) (hnc : n ≤ c) (hcm : c ≤ maxLen) (hcs : cs.take (n * 33) = (l.map blC).flatten) (hl : l.length = n) (h32 : ∀ y ∈ l, y.d.length = 32) (hx : x.d.length = 32) (hi : i ≤ n) (hn2 : n ≤ 1000000) :
    Calls Tryz.prog 43 #[.slice (some ⟨g, 0, none⟩) n c, .int .i64 i, .slice (some ⟨g2, 0, none⟩) 1 1] w fun e w' => ∃ g' c' cs', e = .returned (.slice (some ⟨g', 0, none⟩) (n + 1) c') ∧ (g' = g ∨ w.heap.size ≤ g') ∧ n + 1 ≤ c' ∧ c' ≤ maxLen ∧ cs'.length = c' * 33 ∧ cs'.take ((n + 1) * 33) = ((l.take i ++ x :: l.drop i).map blC).flatten ∧
      All w' (.cells g' 51 cs' :: .cells g2 51 (blC x) :: rs) := by
  have hcm' : c ≤ 9223372036854775807 := hcm
  clear hcm
  have hx33 := Lib.hid (blC_len hx)
  have HL := Lib.hid hlen
  have HCS := Lib.hid hcs
  have HN := Lib.hid hl
  have H32 := Lib.hid h32
  clear hlen hcs hl h32 hx
  have wi0 : (0 : Int) ≤ (i : Int) := by omega
  have wi1 : (i : Int) ≤ (n : Int) := by omega
  have wi2 : (i : Int) ≤ (c : Int) := by omega
  have w1 : IntKind.i64.wrap ((n : Int) + 1) = (n : Int) + 1 := by rw [IntWalk.i64_in _ (by omega)]
  have w2 : IntKind.i64.wrap ((i : Int) + 1) = (i : Int) + 1 := by rw [IntWalk.i64_in _ (by omega)]
  go_enter Tryz.func43, Tryz.ntmps43
  by_cases hin : i = n
  · subst hin
    have d1 : ((i : Int) == (i : Int)) = true := by simp
    have hown : Go.Adm.Own w 0 51 33 (some ⟨g, 0, none⟩) i c (l.map blC).flatten := ⟨by rw [blC_flat _ H32.out, HN.out], .inr ⟨g, c, cs.toArray, rfl, Nat.zero_le _, hR.at_ 0 rfl, hnc, hcm', by simpa using HL.out, by simpa using HCS.out⟩⟩
    by_cases hci : c = i
    · subst hci
      go_wp2_with (at_builtin; refine wl_app6 _ el_bl rfl (.tmp 23) (.tmp 24) rfl 0 _ _ _ _ rfl hown (g2 + 1) _ 1 1 (blC x) rfl ⟨by rw [hx33.out], fun _ => ⟨⟨g2, 0, none⟩, rfl, Nat.lt_succ_self _, Cells.sub (hR.at_ 1 rfl) 0 (fun j u h => by simpa [Nat.zero_add] using h)⟩⟩ (blC_one x) (by omega) (Nat.zero_le _) ?_; intro A5 c5 w5 ho5 hg5 hb5)
      go_ret
      have hform := app_form ho5 hb5 (by omega)
      obtain ⟨g', cs', rfl, h1, h2, h3, h4, h5⟩ := hform
      refine ⟨g', c5, cs', rfl, h1, h2, h3, h4, by rw [h5.1]; exact app_cells2 HCS.out HN.out, h5.2, (All.step hg5 (hR.2 : All w (.cells g2 51 (blC x) :: rs)) ⟨fun e => hne (by injection e), hap⟩)⟩
    · have hci' : ¬ (c = i) := hci
      go_wp2_with (at_builtin; refine wl_app6 _ el_bl rfl (.tmp 23) (.tmp 24) rfl 0 _ _ _ _ rfl hown (g2 + 1) _ 1 1 (blC x) rfl ⟨by rw [hx33.out], fun _ => ⟨⟨g2, 0, none⟩, rfl, Nat.lt_succ_self _, Cells.sub (hR.at_ 1 rfl) 0 (fun j u h => by simpa [Nat.zero_add] using h)⟩⟩ (blC_one x) (by omega) (Nat.zero_le _) ?_; intro A5 c5 w5 ho5 hg5 hb5)
      go_ret
      have hform := app_form ho5 hb5 (by omega)
      obtain ⟨g', cs', rfl, h1, h2, h3, h4, h5⟩ := hform
      refine ⟨g', c5, cs', rfl, h1, h2, h3, h4, by rw [h5.1]; exact app_cells2 HCS.out HN.out, h5.2, (All.step hg5 (hR.2 : All w (.cells g2 51 (blC x) :: rs)) ⟨fun e => hne (by injection e), hap⟩)⟩
  · have hlt : i < n := by omega
    have d1 : ((i : Int) == (n : Int)) = false := by simp; omega
    have d2 : (i == n) = false := by simp; omega
    have wi7 : ¬ (n = i) := by omega
    have wi8 : ¬ (c = i) := by omega
    have wi5 : (i : Int) + 1 ≤ (n : Int) + 1 := by omega
    have wi6 : (0 : Int) ≤ (i : Int) + 1 := by omega
    have hwi : ((i : Int) + 1).toNat = i + 1 := by omega
    have hwn : ((n : Int) + 1).toNat = n + 1 := by omega
    clear hin
    by_cases hcn : c < n + 1
    · obtain rfl : n = c := by omega
      have d3 : decide ((n : Int) < (n : Int) + 1) = true := by simp; omega
      have w3 : IntKind.i64.wrap ((n : Int) + 1 - (i : Int)) = ((n + 1 - i : Nat) : Int) := by rw [IntWalk.i64_in _ (by omega)]; omega
      go_upto_region 10 with (at_builtin; refine wl_app_zeros (t := 22) (tn := 3) (kn := .i64) el_bl Tryz.underlying3 hR 0 rfl (.tmp 34) (.tmp 39) rfl g i n (n + 1 - i) cs rfl rfl (by simp only [Act.eval, Array.getD_eq_getD_getElem?]; exact congrArg (Value.int .i64) (by omega)) (by omega) (by omega) (by rw [HL.out]; omega) (by omega) ?_; intro c2 W4 cs2 hc2 hm2 hl2 ht2 hW4 hs4)
      have hik : i + (n + 1 - i) = n + 1 := by omega
      have hgG : g < w.heap.size := Cells.lt (hR.at_ 0 rfl)
      have hg2G : g2 < w.heap.size := Cells.lt (hR.at_ 1 rfl)
      have hfG := hfar w.heap.size (Nat.le_refl _)
      obtain ⟨G, hG⟩ : ∃ G, G = w.heap.size := ⟨_, rfl⟩
      simp only [hik]
      rw [hik] at hc2
      obtain ⟨f1, f2, f3, f4, f5⟩ := zer_cells HCS.out HL.out (Nat.le_refl _) HN.out H32.out hx33.out hlt hl2 hc2 ht2
      have F1 := Lib.hid f1
      have F2 := Lib.hid f2
      have F3 := Lib.hid f3
      have F4 := Lib.hid f4
      have F5 := Lib.hid f5
      have HL2 := Lib.hid hl2
      rw [← hG] at hW4 hgG hg2G hfG ⊢
      have HGW : Hid (w.heap.size ≤ G) := Lib.hid (by omega)
      have hm2' : c2 ≤ 9223372036854775807 := hm2
      have wj1 : ¬ (c2 = i) := by omega
      have wj2 : ¬ (c2 = i + 1) := by omega
      have wj3 : (i : Int) ≤ (n : Int) + 1 := by omega
      have hapG : Apart (some G) (.cells g 51 cs :: .cells g2 51 (blC x) :: rs) := ⟨by simp [Res.apart]; omega, by simp [Res.apart]; omega, hfG⟩
      clear f1 f2 f3 f4 f5 hl2 ht2 hik hR hfG hs4 hG hm2
      go_wp2_with (refine wl_copy_wide el_bl hW4 0 rfl (.tmp 43) (.tmp 44) rfl G (i * 33) (n + 1 - i) (c2 - i) cs2 rfl rfl ⟨g2, 0, none⟩ 1 1 1 (blC x) rfl (Nat.min_eq_left (by omega)).symm (by rw [hx33.out]) (Cells.sub (hW4.at_ 2 rfl) 0 (fun j u h => by simpa [Nat.zero_add] using h)) (blC_one x) (by rw [HL2.out, hx33.out]; omega) hapG ?_; intro W5 hW5 hs5)
      refine wp_region_hops 8 [46, 47, 48, 49, 50, 51, 52, 53] (.cells G 51 (cs2.take (i * 33) ++ blC x ++ cs2.drop (i * 33 + (blC x).length)) :: .cells g 51 cs :: .cells g2 51 (blC x) :: rs)
        [.eq (.slice (some ⟨G, 0, none⟩) (n + 1) c2), .eq (.int .i64 i), .eq (.int .i64 1), .eq (.int .i64 ((i : Int) + 1)), .eq (.slice (some ⟨G, (i + 1) * 33, none⟩) (n - i) (c2 - (i + 1))), .eq (.slice (some ⟨g, 0, none⟩) n n), .eq (.int .i64 i), .eq (.slice (some ⟨g, i * 33, none⟩) (n - i) (n - i))]
        (by kernel_rfl) (by kernel_rfl) hW5 rfl ?hops ?fin
      case hops =>
        refine ⟨?_, ?_, ?_, ?_, ?_, ?_, ?_, ?_, trivial⟩
        · intro a W hW hb hd K hK
          have b9 := hb 9 rfl
          go_simp
          exact hK _ _ (World.grownBy.refl _ _) rfl
        · intro a W hW hb hd K hK
          have b1 := hb 1 rfl
          go_simp
          exact hK _ _ (World.grownBy.refl _ _) rfl
        · intro a W hW hb hd K hK
          have b7 := hb 7 rfl
          go_simp
          exact hK _ _ (World.grownBy.refl _ _) rfl
        · intro a W hW hb hd K hK
          have b47 : a.tmps[47]?.getD undef = _ := hd ⟨1, .data⟩ (by simp) rfl
          have b48 : a.tmps[48]?.getD undef = _ := hd ⟨2, .data⟩ (by simp) rfl
          go_simp
          exact hK _ _ (World.grownBy.refl _ _) rfl
        · intro a W hW hb hd K hK
          have b46 : a.tmps[46]?.getD undef = _ := hd ⟨0, .data⟩ (by simp) rfl
          have b49 : a.tmps[49]?.getD undef = _ := hd ⟨3, .data⟩ (by simp) rfl
          go_simp
          exact hK _ _ (World.grownBy.refl _ _) rfl
        · intro a W hW hb hd K hK
          have b0 := hb 0 rfl
          go_simp
          exact hK _ _ (World.grownBy.refl _ _) rfl
        · intro a W hW hb hd K hK
          have b1 := hb 1 rfl
          go_simp
          exact hK _ _ (World.grownBy.refl _ _) rfl
        · intro a W hW hb hd K hK
          have b51 : a.tmps[51]?.getD undef = _ := hd ⟨5, .data⟩ (by simp) rfl
          have b52 : a.tmps[52]?.getD undef = _ := hd ⟨6, .data⟩ (by simp) rfl
          go_simp
          exact hK _ _ (World.grownBy.refl _ _) rfl
      case fin =>
        intro vs w6 hD hv
        have e4 : vs 4 = _ := hv 4 (by decide)
        have e7 : vs 7 = _ := hv 7 (by decide)
        clear hv hW5
        simp only [putAll, List.drop_succ_cons, List.drop_zero, e4, e7, Act.put, List.setIfInBounds_toArray, List.set_cons_succ, List.set_cons_zero]
        clear e4 e7
        refine wl_copy_wide el_bl hD 0 rfl (.tmp 50) (.tmp 53) rfl G ((i + 1) * 33) (n - i) (c2 - (i + 1)) _ rfl rfl ⟨g, i * 33, none⟩ (n - i) (n - i) (n - i) ((l.drop i).map blC).flatten rfl (Nat.min_self _).symm F2.out (Cells.sub (hD.at_ 1 rfl) (i * 33) (fun j u h => by { rw [← F1.out, List.getElem?_take] at h; split at h; { rw [List.getElem?_drop] at h; exact h }; { cases h } })) (fun v hv => by { obtain ⟨q, hq, hv⟩ := List.mem_flatten.1 hv; obtain ⟨y, _, rfl⟩ := List.mem_map.1 hq; exact blC_one y v hv }) (by rw [F2.out, F3.out]; omega) hapG ?_
        intro W7 hW7 hs7
        go_wp2_with fail
        go_ret
        exact ⟨G, c2, _, rfl, Or.inr HGW.out, hc2, hm2', F4.out, F5.out, hW7.at_ 0 rfl, hW7.2.2⟩
    · have d3 : decide ((c : Int) < (n : Int) + 1) = false := by simp; omega
      have hcn1 : n + 1 ≤ c := by omega
      have wj1 : ¬ (c = i + 1) := by omega
      have wj3 : (n : Int) + 1 ≤ (c : Int) := by omega
      have wj4 : (i : Int) ≤ (n : Int) + 1 := by omega
      have hI0 := hR
      clear hR
      go_upto_region 14 with (fail)
      go_wp2_with fail
      rw [run_callFunc_extern Tryz.func60 (by kernel_rfl) (by kernel_rfl) (by kernel_rfl) (e := Extern.SlicesOverlaps.overlaps #[22, 22] #[4]) (by kernel_rfl),
        Lib.run_overlaps_apart w 22 4 51 el_bl.ht 33 (fun w => by kernel_rfl) ⟨g2, 0, none⟩ ⟨g, (i + 1) * 33, none⟩ 1 1 (n - i) (c - (i + 1)) hne _ _ _ _ (shape_cells (hI0.at_ 1 rfl)) (shape_cells (hI0.at_ 0 rfl)) (by rw [HL.out]; omega) (Cells.frozen (hI0.at_ 1 rfl) _) (Cells.frozen (hI0.at_ 1 rfl) _)]
      go_upto_region 15 with (fail)
      refine wp_region_hops 8 [69, 70, 71, 72, 73, 74, 75, 76] (.cells g 51 cs :: .cells g2 51 (blC x) :: rs)
        [.eq (.slice (some ⟨g, 0, none⟩) (n + 1) c), .eq (.int .i64 i), .eq (.int .i64 1), .eq (.int .i64 ((i : Int) + 1)), .eq (.slice (some ⟨g, (i + 1) * 33, none⟩) (n - i) (c - (i + 1))), .eq (.slice (some ⟨g, 0, none⟩) (n + 1) c), .eq (.int .i64 i), .eq (.slice (some ⟨g, i * 33, none⟩) (n + 1 - i) (c - i))]
        (by kernel_rfl) (by kernel_rfl) hI0 rfl ?hops ?fin
      case hops =>
        refine ⟨?_, ?_, ?_, ?_, ?_, ?_, ?_, ?_, trivial⟩
        · intro a W hW hb hd K hK
          have b0 := hb 0 rfl
          go_simp
          exact hK _ _ (World.grownBy.refl _ _) rfl
        · intro a W hW hb hd K hK
          have b1 := hb 1 rfl
          go_simp
          exact hK _ _ (World.grownBy.refl _ _) rfl
        · intro a W hW hb hd K hK
          have b7 := hb 7 rfl
          go_simp
          exact hK _ _ (World.grownBy.refl _ _) rfl
        · intro a W hW hb hd K hK
          have b70 : a.tmps[70]?.getD undef = _ := hd ⟨1, .data⟩ (by simp) rfl
          have b71 : a.tmps[71]?.getD undef = _ := hd ⟨2, .data⟩ (by simp) rfl
          go_simp
          exact hK _ _ (World.grownBy.refl _ _) rfl
        · intro a W hW hb hd K hK
          have b69 : a.tmps[69]?.getD undef = _ := hd ⟨0, .data⟩ (by simp) rfl
          have b72 : a.tmps[72]?.getD undef = _ := hd ⟨3, .data⟩ (by simp) rfl
          go_simp
          exact hK _ _ (World.grownBy.refl _ _) rfl
        · intro a W hW hb hd K hK
          have b0 := hb 0 rfl
          go_simp
          exact hK _ _ (World.grownBy.refl _ _) rfl
        · intro a W hW hb hd K hK
          have b1 := hb 1 rfl
          go_simp
          exact hK _ _ (World.grownBy.refl _ _) rfl
        · intro a W hW hb hd K hK
          have b74 : a.tmps[74]?.getD undef = _ := hd ⟨5, .data⟩ (by simp) rfl
          have b75 : a.tmps[75]?.getD undef = _ := hd ⟨6, .data⟩ (by simp) rfl
          go_simp
          exact hK _ _ (World.grownBy.refl _ _) rfl
      case fin =>
        intro vs w6 hD hv
        have e4 : vs 4 = _ := hv 4 (by decide)
        have e7 : vs 7 = _ := hv 7 (by decide)
        clear hv hI0
        simp only [putAll, List.drop_succ_cons, List.drop_zero, e4, e7, Act.put, List.setIfInBounds_toArray, List.set_cons_succ, List.set_cons_zero]
        clear e4 e7
        obtain ⟨f1, f2, f3, f4⟩ := ins_cells2 HCS.out HL.out hcn1 HN.out H32.out hx33.out hlt
        have F1 := Lib.hid f1
        have F2 := Lib.hid f2
        have F3 := Lib.hid f3
        have F4 := Lib.hid f4
        clear f1 f2 f3 f4
        refine wl_copy_wide el_bl hD 0 rfl (.tmp 73) (.tmp 76) rfl g ((i + 1) * 33) (n - i) (c - (i + 1)) cs rfl rfl ⟨g, i * 33, none⟩ (n + 1 - i) (c - i) (n - i) ((l.drop i).map blC).flatten rfl (Nat.min_eq_right (by omega)).symm F2.out (Cells.sub (hD.at_ 0 rfl) (i * 33) (fun j u h => by { rw [← F1.out, List.getElem?_take] at h; split at h; { rw [List.getElem?_drop] at h; exact h }; { cases h } })) (fun v hv => by { obtain ⟨q, hq, hv⟩ := List.mem_flatten.1 hv; obtain ⟨y, _, rfl⟩ := List.mem_map.1 hq; exact blC_one y v hv }) (by rw [F2.out, HL.out]; omega) ⟨by simp [Res.apart]; omega, hap⟩ ?_
        intro W7 hW7 hs7
        go_wp2_with (refine wl_copy_wide el_bl hW7 0 rfl (.tmp 80) (.tmp 81) rfl g (i * 33) (n + 1 - i) (c - i) _ rfl rfl ⟨g2, 0, none⟩ 1 1 1 (blC x) rfl (Nat.min_eq_left (by omega)).symm (by rw [hx33.out]) (Cells.sub (hW7.at_ 1 rfl) 0 (fun j u h => by simpa [Nat.zero_add] using h)) (blC_one x) (by rw [F3.out, hx33.out]; omega) ⟨by simp [Res.apart]; omega, hap⟩ ?_; intro W8 hW8 hs8)
        go_ret
        refine ⟨g, c, _, rfl, Or.inl rfl, hcn1, hcm', ?_, F4.out, hW8.at_ 0 rfl, hW8.2⟩
        rw [List.length_append, List.length_append, List.length_take, List.length_drop, hx33.out, F3.out]; omega
end Go.Proofs.YtkcmaembpfakdaaGreatDoor

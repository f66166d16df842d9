/- Put of the reference. -/
import Derived.Test.YtahfhlpolhibdaaSto11
set_option linter.unusedSimpArgs false
set_option linter.unusedVariables false
set_option maxRecDepth 100000
namespace Go.Adm
open Go Go.RowKit
theorem mem_ins0 {α : Type} {xs : List α} {k : Nat} {d y : α} : y ∈ xs.take k ++ d :: xs.drop k ↔ y = d ∨ y ∈ xs := by
  rw [List.mem_append, List.mem_cons]
  have h : y ∈ xs ↔ y ∈ xs.take k ∨ y ∈ xs.drop k := by rw [← List.mem_append, List.take_append_drop]
  rw [h]
  constructor
  · rintro (h1 | h1 | h1)
    · exact Or.inr (Or.inl h1)
    · exact Or.inl h1
    · exact Or.inr (Or.inr h1)
  · rintro (h1 | h1 | h1)
    · exact Or.inr (Or.inl h1)
    · exact Or.inl h1
    · exact Or.inr (Or.inr h1)
/-- Put of the reference: what it answers, and where it lies -/
def RefPost (A Ad : Option Addr) (l : List Bl) (d b : List UInt8) (w : World) (e : Ending) (w' : World) : Prop :=
  ∃ A' n' c' l', e = .returned (.tuple #[.slice A' n' c', .agg ((put3 l d b).2.1.map bv).toArray, .int .i64 (put3 l d b).2.2]) ∧ Blobs w' w'.heap.size A' n' l' ∧ n' ≤ c' ∧ c' ≤ maxLen ∧ l'.map pr = (put3 l d b).1 ∧ Below w.heap.size w w' ∧
    (A' = A ∨ ∀ ad, A' = some ad → w.heap.size ≤ ad.block) ∧ ∀ x ∈ l', x ∈ l ∨ x.A = Ad
theorem RefPost.put {A Ad : Option Addr} {l : List Bl} {d b : List UInt8} {w w' : World} {e : Ending} (h : RefPost A Ad l d b w e w') : PutPost l d b w e w' := by
  obtain ⟨A', n', c', l', h1, h2, h3, h4, h5, h6, _⟩ := h
  exact ⟨A', n', c', l', h1, h2, h3, h4, h5, h6⟩
theorem own_from {w : World} {base n c size : Nat} {t : TypeId} {A : Option Addr} {xs : List Value} (h : Own w base t size A n c xs) : ∀ ad, A = some ad → base ≤ ad.block := fun ad e => by
  subst e
  exact (h.lt rfl).1
theorem blobs_ins {w : World} {B base n c i : Nat} {t : TypeId} {A A' : Option Addr} {l : List Bl} {x : Bl} (hB : B ≤ w.heap.size) (hl : Blobs w B A n l) (hx : BlOk w B x) (hi : i ≤ n) (ho : Own w base t 33 A' (n + 1) c ((l.take i ++ x :: l.drop i).map blC).flatten) :
    Blobs w w.heap.size A' (n + 1) (l.take i ++ x :: l.drop i) := by
  have hm : ∀ y ∈ l.take i ++ x :: l.drop i, BlOk w w.heap.size y := fun y hy => by
    rcases List.mem_append.1 hy with h | h
    · exact (hl.each y (List.mem_of_mem_take h)).mono hB
    · rcases List.mem_cons.1 h with h | h
      · rw [h]; exact hx.mono hB
      · exact (hl.each y (List.mem_of_mem_drop h)).mono hB
  refine ⟨Els.of ho (fun e he => ?_) (by rw [List.length_map]; exact ins_len hl.len hi), hm, ins_len hl.len hi⟩
  obtain ⟨y, hy, rfl⟩ := List.mem_map.1 he
  exact blC_len (hm y hy).d32
end Go.Adm
namespace Go.Proofs.Ytahfhlpolhibdaa
open Go Go.RowKit Go.Adm

set_option maxHeartbeats 3200000 in
theorem refPut_ex (w : World) (B : Nat) (A Ad : Option Addr) (n c nd cd : Nat) (l : List Bl) (d b : List UInt8) (hl : Blobs w B A n l) (hb : Rd w B 1 Ad nd (b.map bv)) (hd : shaS b = d) (hn2 : n ≤ 1000000) (hnc : n ≤ c) (hc : c ≤ maxLen) (hnd : nd ≤ 140737488355000) (hncd : nd ≤ cd) (hcd : cd ≤ maxLen) (hB : B ≤ w.heap.size) (hbig : ∀ x ∈ l, x.n ≤ 140737488355000) :
    Calls Try.prog 10 #[.slice A n c, .slice Ad nd cd] w (RefPost A Ad l d b w) := by
  have hR : All w [.low (.blobs B A n l), .low (.rd B 1 Ad nd (b.map bv)), .kept w w.heap.size] := ⟨⟨hl, hB⟩, ⟨hb, hB⟩, ⟨Below.refl _ _, Nat.le_refl _⟩, trivial⟩
  have HN := Lib.hid hl.len
  have HBL : Hid (b.length = nd) := Lib.hid (by have := hb.len; simpa using this)
  have HBIG := Lib.hid hbig
  have HD : Hid (d.length = 32) := Lib.hid (by rw [← hd]; exact shaS_len b)
  have HSD := Lib.hid hd
  have hzr := zero_bl
  clear hl hb hbig hd
  go_enter Try.func10, Try.ntmps10
  go_upto_region 1 with (fail)
  refine wp_gen (hR.new (l := z32.map bv) _ 31 rfl rfl) ?_
  intro W1 hW1
  have hs1 : w.heap.size < W1.heap.size := Cells.lt (hW1.at_ 0 rfl)
  clear hR
  have hva := refValid_any W1 B A n c l (hW1.at_ 1 rfl : Blobs W1 B A n l ∧ _).1 hn2 (hW1.at_ 1 rfl : _ ∧ B ≤ W1.heap.size).2 HBIG.out
  go_wp2_with fail
  refine hva.mono ?_
  clear hva
  rintro e w2 ⟨rfl, hb2⟩
  have hW2 := hW1.call hb2
  have hs2 : w.heap.size < w2.heap.size := Cells.lt (hW2.at_ 0 rfl)
  clear hb2 hW1 hs1
  cases hv : validB l with
  | false =>
    have HF := Lib.hid (put3_bad (d := d) (b := b) hv)
    clear hv
    go_wp2_with (refine wl_store_at hW2 0 rfl 31 (.tmp 5) (.tmp 13) rfl w.heap.size _ _ (z32.map bv) rfl rfl rfl rfl (by kernel_rfl) (bv_one _) (by simp [Apart, Res.apart, Low.blobs, Low.rd] <;> omega) ?_; intro W9 hW9 hs9)
    refine bodyPost_ret (v := .tuple #[.slice none 0 0, .agg (z32.map bv).toArray, .int .i64 1]) ?_ rfl ⟨none, 0, 0, [], by rw [HF.out], Blobs.nil, Nat.le_refl _, by decide, by rw [HF.out]; rfl, (hW9.at_ 3 rfl : _ ∧ _).1, Or.inr (fun ad e => by cases e), fun x hx => by cases hx⟩
    exact results_tmp_row_tmp (o := 4) (p := 5) (q := 6) rfl _ _ w.heap.size 31 (z32.map bv).toArray (0, 0) _ rfl (hW9.at_ 0 rfl) Try.underlying31 rfl (by kernel_rfl)
  | true =>
  by_cases hlong : 262144 < nd
  · have HF := Lib.hid (put3_long (d := d) (b := b) hv (by rw [HBL.out]; exact hlong))
    have d1 : decide (262144 < (nd : Int)) = true := by simp; omega
    have d2 : decide (262144 < nd) = true := by simp; omega
    clear hv hlong
    go_wp2_with (refine wl_store_at hW2 0 rfl 31 (.tmp 5) (.tmp 17) rfl w.heap.size _ _ (z32.map bv) rfl rfl rfl rfl (by kernel_rfl) (bv_one _) (by simp [Apart, Res.apart, Low.blobs, Low.rd] <;> omega) ?_; intro W9 hW9 hs9)
    refine bodyPost_ret (v := .tuple #[.slice none 0 0, .agg (z32.map bv).toArray, .int .i64 3]) ?_ rfl ⟨none, 0, 0, [], by rw [HF.out], Blobs.nil, Nat.le_refl _, by decide, by rw [HF.out]; rfl, (hW9.at_ 3 rfl : _ ∧ _).1, Or.inr (fun ad e => by cases e), fun x hx => by cases hx⟩
    exact results_tmp_row_tmp (o := 4) (p := 5) (q := 6) rfl _ _ w.heap.size 31 (z32.map bv).toArray (0, 0) _ rfl (hW9.at_ 0 rfl) Try.underlying31 rfl (by kernel_rfl)
  have d1 : decide (262144 < (nd : Int)) = false := by simp; omega
  have d2 : decide (262144 < nd) = false := by simp; omega
  have hsu := refSum_any w2 B Ad nd cd b (hW2.at_ 2 rfl : Rd w2 B 1 Ad nd (b.map bv) ∧ _).1 (hW2.at_ 2 rfl : _ ∧ B ≤ w2.heap.size).2 hnd
  rw [HSD.out] at hsu
  have HV := Lib.hid hv
  have HSH : Hid (b.length ≤ 262144) := Lib.hid (by rw [HBL.out]; omega)
  clear hv hlong
  go_wp2_with fail
  refine hsu.mono ?_
  clear hsu
  rintro e w3 ⟨rfl, hb3⟩
  have hW3 := hW2.call hb3
  clear hb3 hW2 hs2
  obtain ⟨g7, hg7⟩ : ∃ g7, g7 = w3.heap.size := ⟨_, rfl⟩
  have hg7w : w.heap.size < g7 := by have : w.heap.size < w3.heap.size := Cells.lt (hW3.at_ 0 rfl); omega
  go_upto_region 6 with (refine wl_store_at (hW3.new (l := z32.map bv) _ 31 hg7 rfl) 0 rfl 31 (.tmp 7) (.tmp 19) rfl g7 _ _ (d.map bv) rfl (by rw [hg7]; rfl) rfl (by rw [List.length_map, HD.out]; rfl) (by rw [List.length_map, HD.out]; kernel_rfl) (bv_one _) (by simp [Apart, Res.apart, Low.blobs, Low.rd] <;> omega) ?_; intro W3 hW3' hs3; simp only [List.set_cons_zero] at hW3')
  simp only [← hg7]
  clear hs3 hW3 hg7
  have hfi := refGet_any W3 B A n c l d (hW3'.at_ 2 rfl : Blobs W3 B A n l ∧ _).1 HD.out hn2 (hW3'.at_ 2 rfl : _ ∧ B ≤ W3.heap.size).2
  go_wp2_with (refine wl_load_any rfl 31 (.tmp 7) rfl ⟨g7, 0, none⟩ rfl (d.map bv) _ (Cells.sub (hW3'.at_ 0 rfl) 0 (fun j u h => by rwa [Nat.zero_add])) Try.underlying31 rfl (by rw [List.length_map, HD.out]; kernel_rfl) ?_)
  refine hfi.mono ?_
  clear hfi
  rintro e w4 ⟨rfl, hb4⟩
  have hW4 := hW3'.call hb4
  clear hb4 hW3'
  cases hlk : lookB l d with
  | some y =>
    have HF := Lib.hid (put3_had HV.out HSH.out (by rw [hlk]; rfl))
    clear hlk
    unfold got
    go_upto_region 8 with (fail)
    refine wp_region_hops 3 [27, 28, 4] [.cells g7 31 (d.map bv), .cells w.heap.size 31 (z32.map bv), .low (.blobs B A n l), .low (.rd B 1 Ad nd (b.map bv)), .kept w w.heap.size]
      [.eq (.slice A n c), .eq (.agg (d.map bv).toArray), .eq (.slice A n c)]
      (by kernel_rfl) (by kernel_rfl) hW4 rfl ?hops ?fin
    case hops =>
      refine ⟨?_, ?_, ?_, trivial⟩
      · intro a W hW hb hd K hK
        have b0 := hb 0 rfl
        go_simp
        exact hK _ _ (World.grownBy.refl _ _) rfl
      · intro a W hW hb hd K hK
        have b7 := hb 7 rfl
        refine wp_load_any 31 (.tmp 7) rfl ⟨g7, 0, none⟩ (show a.eval (.tmp 7) = _ from by simp only [Act.eval, Array.getD_eq_getD_getElem?]; exact b7) (d.map bv) _ (Cells.sub (hW.at_ 0 rfl) 0 (fun j u h => by rwa [Nat.zero_add])) Try.underlying31 rfl (by rw [List.length_map, HD.out]; kernel_rfl) ?_
        exact hK _ _ (World.grownBy.refl _ _) rfl
      · intro a W hW hb hd K hK
        have b27 : a.tmps[27]?.getD undef = _ := hd ⟨0, .data⟩ (by simp) rfl
        go_simp
        exact hK _ _ (World.grownBy.refl _ _) rfl
    case fin =>
      intro vs W hW hv
      have e1 : vs 1 = _ := hv 1 (by decide)
      have e2 : vs 2 = _ := hv 2 (by decide)
      clear hv
      simp only [putAll, List.drop_succ_cons, List.drop_zero, e1, e2, Act.put, List.setIfInBounds_toArray, List.set_cons_succ, List.set_cons_zero]
      clear e1 e2
      go_wp2_with (refine wl_store_at hW 1 rfl 31 (.tmp 5) (.tmp 28) rfl w.heap.size _ _ (d.map bv) rfl rfl rfl (by rw [List.length_map, HD.out]; rfl) (by rw [List.length_map, HD.out]; kernel_rfl) (bv_one _) ⟨by simp [Res.apart]; omega, by simp [Res.apart, Low.blobs]; omega, by simp [Res.apart, Low.rd]; omega, by simp [Res.apart], trivial⟩ ?_; intro W9 hW9 hs9)
      refine bodyPost_ret (v := .tuple #[.slice A n c, .agg (d.map bv).toArray, .int .i64 0]) ?_ rfl ⟨A, n, c, l, by rw [HF.out], (hW9.at_ 2 rfl : Blobs W9 B A n l ∧ _).1.mono (hW9.at_ 2 rfl : _ ∧ B ≤ W9.heap.size).2, hnc, hc, by rw [HF.out], (hW9.at_ 4 rfl : _ ∧ _).1, Or.inl rfl, fun x hx => Or.inl hx⟩
      exact results_tmp_row_tmp (o := 4) (p := 5) (q := 6) rfl _ _ w.heap.size 31 (d.map bv).toArray (0, 0) _ rfl (hW9.at_ 1 rfl) Try.underlying31 rfl (by rw [List.size_toArray, List.length_map, HD.out]; kernel_rfl)
  | none =>
  have hBw : B ≤ w.heap.size := hB
  have hlk2 : (lookB l d).isSome = false := by rw [hlk]; rfl
  unfold got
  by_cases hfull : n = 256
  · have HF := Lib.hid (put3_full HV.out HSH.out hlk2 (by rw [HN.out]; exact hfull))
    have d3 : ((n : Int) == 256) = true := by simp; omega
    have d4 : (n == 256) = true := by simp; omega
    clear hfull hlk hlk2
    have hs4 : w.heap.size < w4.heap.size := Cells.lt (hW4.at_ 1 rfl)
    go_wp2_with (refine wl_store_at hW4 1 rfl 31 (.tmp 5) (.tmp 32) rfl w.heap.size _ _ (z32.map bv) rfl rfl rfl rfl (by kernel_rfl) (bv_one _) (by simp [Apart, Res.apart, Low.blobs, Low.rd] <;> omega) ?_; intro W9 hW9 hs9)
    refine bodyPost_ret (v := .tuple #[.slice none 0 0, .agg (z32.map bv).toArray, .int .i64 3]) ?_ rfl ⟨none, 0, 0, [], by rw [HF.out], Blobs.nil, Nat.le_refl _, by decide, by rw [HF.out]; rfl, (hW9.at_ 4 rfl : _ ∧ _).1, Or.inr (fun ad e => by cases e), fun x hx => by cases hx⟩
    exact results_tmp_row_tmp (o := 4) (p := 5) (q := 6) rfl _ _ w.heap.size 31 (z32.map bv).toArray (0, 0) _ rfl (hW9.at_ 1 rfl) Try.underlying31 rfl (by kernel_rfl)
  have HF := Lib.hid (put3_new HV.out HSH.out hlk2 (by rw [HN.out]; exact hfull))
  have d3 : ((n : Int) == 256) = false := by simp; omega
  have d4 : (n == 256) = false := by simp; omega
  clear hfull hlk hlk2
  go_upto_region 11 with (fail)
  refine wp_region_hops 7 [33, 34, 35, 36, 37, 38, 4] [.cells g7 31 (d.map bv), .cells w.heap.size 31 (z32.map bv), .low (.blobs B A n l), .low (.rd B 1 Ad nd (b.map bv)), .kept w w.heap.size]
    [.eq (.slice A n c), .eq (.agg (d.map bv).toArray), .eq (.slice Ad nd cd), .eq (.agg (blC ⟨d, Ad, nd, cd, b⟩).toArray), .own (w.heap.size + 1) 52 33 (n + 1) ((l.take (placeB l d) ++ ⟨d, Ad, nd, cd, b⟩ :: l.drop (placeB l d)).map blC).flatten, .eq (.agg (d.map bv).toArray), .own (w.heap.size + 1) 52 33 (n + 1) ((l.take (placeB l d) ++ ⟨d, Ad, nd, cd, b⟩ :: l.drop (placeB l d)).map blC).flatten]
    (by kernel_rfl) (by kernel_rfl) hW4 rfl ?hops ?fin
  case hops =>
    refine ⟨?_, ?_, ?_, ?_, ?_, ?_, ?_, trivial⟩
    · intro a W hW hb hd K hK
      have b0 := hb 0 rfl
      go_simp
      exact hK _ _ (World.grownBy.refl _ _) rfl
    · intro a W hW hb hd K hK
      have b7 := hb 7 rfl
      refine wp_load_any 31 (.tmp 7) rfl ⟨g7, 0, none⟩ (show a.eval (.tmp 7) = _ from by simp only [Act.eval, Array.getD_eq_getD_getElem?]; exact b7) (d.map bv) _ (Cells.sub (hW.at_ 0 rfl) 0 (fun j u h => by rwa [Nat.zero_add])) Try.underlying31 rfl (by rw [List.length_map, HD.out]; kernel_rfl) ?_
      exact hK _ _ (World.grownBy.refl _ _) rfl
    · intro a W hW hb hd K hK
      have b1 := hb 1 rfl
      go_simp
      exact hK _ _ (World.grownBy.refl _ _) rfl
    · intro a W hW hb hd K hK
      have b34 : a.tmps[34]?.getD undef = _ := hd ⟨1, .data⟩ (by simp) rfl
      have b35 : a.tmps[35]?.getD undef = _ := hd ⟨2, .data⟩ (by simp) rfl
      refine wp_bld 52 [(0, .tmp 34), (1, .tmp 35)] rfl _ _ #[(0, 32), (32, 1)] (blC ⟨d, Ad, nd, cd, b⟩).toArray zero_bl Try.underlying52 (fun w => by kernel_rfl) (by
        have h1 : a.eval (.tmp 34) = .agg (d.map bv).toArray := by simp only [Act.eval, Array.getD_eq_getD_getElem?]; exact b34
        have h2 : a.eval (.tmp 35) = .slice Ad nd cd := by simp only [Act.eval, Array.getD_eq_getD_getElem?]; exact b35
        simp only [List.map_cons, List.map_nil, h1, h2]
        exact fill_bl d Ad nd cd b HD.out) ?_
      exact hK _ _ (World.grownBy.refl _ _) rfl
    · intro a W hW hb hd K hK
      have b33 : a.tmps[33]?.getD undef = _ := hd ⟨0, .data⟩ (by simp) rfl
      have b36 : a.tmps[36]?.getD undef = _ := hd ⟨3, .data⟩ (by simp) rfl
      have hgw : w.heap.size + 1 ≤ W.heap.size := Cells.lt (hW.at_ 1 rfl)
      go_simp
      refine (insert_any W B A n c l ⟨d, Ad, nd, cd, b⟩ (hW.at_ 2 rfl : Blobs W B A n l ∧ _).1 HD.out hn2 hnc (hW.at_ 2 rfl : _ ∧ B ≤ W.heap.size).2).mono ?_
      rintro e w' ⟨A3, c3, rfl, hown, hb'⟩
      exact hK _ _ (grown_of_below hb') ⟨Nat.le_trans hgw hb'.size, A3, c3, rfl, hown.less hgw⟩
    · intro a W hW hb hd K hK
      have b7 := hb 7 rfl
      refine wp_load_any 31 (.tmp 7) rfl ⟨g7, 0, none⟩ (show a.eval (.tmp 7) = _ from by simp only [Act.eval, Array.getD_eq_getD_getElem?]; exact b7) (d.map bv) _ (Cells.sub (hW.at_ 0 rfl) 0 (fun j u h => by rwa [Nat.zero_add])) Try.underlying31 rfl (by rw [List.length_map, HD.out]; kernel_rfl) ?_
      exact hK _ _ (World.grownBy.refl _ _) rfl
    · intro a W hW hb hd K hK
      have hS : VF.at [.eq (.slice A n c), .eq (.agg (d.map bv).toArray), .eq (.slice Ad nd cd), .eq (.agg (blC ⟨d, Ad, nd, cd, b⟩).toArray), .own (w.heap.size + 1) 52 33 (n + 1) ((l.take (placeB l d) ++ ⟨d, Ad, nd, cd, b⟩ :: l.drop (placeB l d)).map blC).flatten, .eq (.agg (d.map bv).toArray), .own (w.heap.size + 1) 52 33 (n + 1) ((l.take (placeB l d) ++ ⟨d, Ad, nd, cd, b⟩ :: l.drop (placeB l d)).map blC).flatten] 4 (a.tmps[37]?.getD undef) W := hd ⟨4, .data⟩ (by simp) rfl
      have b37 : a.tmps[37]?.getD undef = a.tmps[37]?.getD undef := rfl
      go_simp
      exact hK _ _ (World.grownBy.refl _ _) hS
  case fin =>
    intro vs W hW hv
    have e5 : vs 5 = _ := hv 5 (by decide)
    obtain ⟨hbw, A3, c3, e6, hown⟩ : w.heap.size + 1 ≤ W.heap.size ∧ ∃ A' c', vs 6 = .slice A' (n + 1) c' ∧ Go.Adm.Own W (w.heap.size + 1) 52 33 A' (n + 1) c' ((l.take (placeB l d) ++ ⟨d, Ad, nd, cd, b⟩ :: l.drop (placeB l d)).map blC).flatten := hv 6 (by decide)
    clear hv
    simp only [putAll, List.drop_succ_cons, List.drop_zero, e5, e6, Act.put, List.setIfInBounds_toArray, List.set_cons_succ, List.set_cons_zero]
    clear e5 e6
    have hX : All W (.own (w.heap.size + 1) 52 33 A3 (n + 1) c3 ((l.take (placeB l d) ++ ⟨d, Ad, nd, cd, b⟩ :: l.drop (placeB l d)).map blC).flatten :: [.cells g7 31 (d.map bv), .cells w.heap.size 31 (z32.map bv), .low (.blobs B A n l), .low (.rd B 1 Ad nd (b.map bv)), .kept w w.heap.size]) := ⟨hown, hW⟩
    clear hW hown
    go_wp2_with (refine wl_store_at hX 2 rfl 31 (.tmp 5) (.tmp 38) rfl w.heap.size _ _ (d.map bv) rfl rfl rfl (by rw [List.length_map, HD.out]; rfl) (by rw [List.length_map, HD.out]; kernel_rfl) (bv_one _) ⟨fun g e => by { injection e with e; left; omega }, by simp [Res.apart]; omega, by simp [Res.apart, Low.blobs]; omega, by simp [Res.apart, Low.rd]; omega, by simp [Res.apart], trivial⟩ ?_; intro W9 hW9 hs9)
    have hO9 : Go.Adm.Own W9 (w.heap.size + 1) 52 33 A3 (n + 1) c3 ((l.take (placeB l d) ++ ⟨d, Ad, nd, cd, b⟩ :: l.drop (placeB l d)).map blC).flatten := hW9.at_ 0 rfl
    refine bodyPost_ret (v := .tuple #[.slice A3 (n + 1) c3, .agg (d.map bv).toArray, .int .i64 0]) ?_ rfl ⟨A3, n + 1, c3, _, by rw [HF.out], blobs_ins (B := B) (l := l) (x := ⟨d, Ad, nd, cd, b⟩) (i := placeB l d) (hW9.at_ 3 rfl : _ ∧ B ≤ W9.heap.size).2 (hW9.at_ 3 rfl : Blobs W9 B A n l ∧ _).1 ⟨HD.out, (hW9.at_ 4 rfl : Rd W9 B 1 Ad nd (b.map bv) ∧ _).1, hncd, hcd⟩ (by rw [← HN.out]; exact placeB_le l d) hO9, hO9.cap.1, hO9.cap.2, by rw [HF.out, List.map_append, List.map_cons, List.map_take, List.map_drop]; rfl, (hW9.at_ 5 rfl : _ ∧ _).1, Or.inr (fun ad e => by have := own_from hO9 ad e; omega), fun y hy => (mem_ins0.1 hy).elim (fun e => Or.inr (by rw [e])) Or.inl⟩
    exact results_tmp_row_tmp (o := 4) (p := 5) (q := 6) rfl _ _ w.heap.size 31 (d.map bv).toArray (0, 0) _ rfl (hW9.at_ 2 rfl) Try.underlying31 rfl (by rw [List.size_toArray, List.length_map, HD.out]; kernel_rfl)

theorem refPut_any (w : World) (B : Nat) (A Ad : Option Addr) (n c nd cd : Nat) (l : List Bl) (d b : List UInt8) (hl : Blobs w B A n l) (hb : Rd w B 1 Ad nd (b.map bv)) (hd : shaS b = d) (hn2 : n ≤ 1000000) (hnc : n ≤ c) (hc : c ≤ maxLen) (hnd : nd ≤ 140737488355000) (hncd : nd ≤ cd) (hcd : cd ≤ maxLen) (hB : B ≤ w.heap.size) (hbig : ∀ x ∈ l, x.n ≤ 140737488355000) :
    Calls Try.prog 10 #[.slice A n c, .slice Ad nd cd] w (PutPost l d b w) :=
  (refPut_ex w B A Ad n c nd cd l d b hl hb hd hn2 hnc hc hnd hncd hcd hB hbig).mono fun _ _ h => h.put
end Go.Proofs.Ytahfhlpolhibdaa

/- An entry put into a list: the walk. -/
import Derived.Test.YtieobkgdkiahbaaDoorTape3
import Derived.Test.YtieobkgdkiahbaaDoorFreeR
set_option linter.unusedSimpArgs false
set_option linter.unusedVariables false
namespace Go.Adm
open Go Go.RowKit
def otherB (e x : E) : Bool := !(x.p.toList == e.p.toList)
theorem filter_step {α : Type} (q : α → Bool) (l : List α) (k : Nat) (hk : k < l.length) : (l.take (k + 1)).filter q = (l.take k).filter q ++ (if q l[k] then [l[k]] else []) := by
  rw [List.take_succ_eq_append_getElem hk, List.filter_append]
  congr 1
  by_cases h : q l[k] = true <;> simp [h]
theorem swap_two {α : Type} (a b : List α) (y e : α) : ((a ++ y :: e :: b).set (a.length + 1) y).set a.length e = a ++ e :: y :: b := by
  simp [List.set_append]
theorem swap_down {α : Type} {f : List α} {j : Nat} (hj : 0 < j) {y : α} (hy : f[j - 1]? = some y) (e : α) : ((f.take j ++ e :: f.drop j).set j y).set (j - 1) e = f.take (j - 1) ++ e :: f.drop (j - 1) ∧ f.drop (j - 1) = y :: f.drop j := by
  obtain ⟨i, rfl⟩ : ∃ i, j = i + 1 := ⟨j - 1, by omega⟩
  simp only [Nat.add_sub_cancel] at hy ⊢
  obtain ⟨hlt, hy⟩ := List.getElem?_eq_some_iff.1 hy
  have h1 : f.drop i = y :: f.drop (i + 1) := by rw [List.drop_eq_getElem_cons hlt, hy]
  have h2 : f.take (i + 1) = f.take i ++ [y] := by rw [List.take_succ_eq_append_getElem hlt, hy]
  have h3 : (f.take i).length = i := by rw [List.length_take]; omega
  refine ⟨?_, h1⟩
  have h4 := swap_two (f.take i) (f.drop (i + 1)) y e
  rw [h3] at h4
  rw [h1, h2, List.append_assoc]
  exact h4
end Go.Adm
namespace Go.Proofs.YtieobkgdkiahbaaDoor
open Go Go.RowKit Go.Adm

set_option maxRecDepth 100000 in
set_option maxHeartbeats 3200000 in
theorem Put_any (w : World) (B : Nat) (A : Option Addr) (n c : Nat) (l f : List E) (e : E) (hf : l.filter (otherB e) = f) (hl : Els w B 33 A n (l.map entC)) (h32 : ∀ e ∈ l, E32 e) (he : E32 e) (hn : l.length = n) (hn2 : n ≤ 1000) (hB : B ≤ w.heap.size) :
    Calls Tryd.prog 52 #[.slice A n c, .agg (entC e).toArray] w fun en w' => ∃ j ≤ f.length, (∀ x ∈ f.drop j, blt e.p x.p = true) ∧ (j = 0 ∨ ∃ y, f[j - 1]? = some y ∧ blt e.p y.p = false) ∧
      OwnPost entC 33 (f.take j ++ e :: f.drop j) 72 w en w' := by
  have hR : All w [.low (.els B 33 A n (l.map entC)), .kept w w.heap.size] := ⟨⟨hl, hB⟩, ⟨Below.refl _ _, Nat.le_refl _⟩, trivial⟩
  have HN := Lib.hid hn
  have H32 := Lib.hid h32
  have HEE := Lib.hid he
  have hR1 : All (w.alloc (.cells (entC e).toArray 72)) [.own (w.heap.size + 1) 72 33 none 0 0 ((((l.take 0).filter (otherB e)).map entC).flatten), .cells w.heap.size 72 (entC e), .low (.els B 33 A n (l.map entC)), .kept w w.heap.size] := ⟨Go.Adm.Own.nil _ _ _ _, hR.new (l := entC e) _ _ rfl rfl⟩
  have HFE := Lib.hid hf
  clear hl h32 hn he hR hf
  have hs1 : w.heap.size + 1 ≤ (w.alloc (.cells (entC e).toArray 72)).heap.size := by simp
  go_enter Tryd.func52, Tryd.ntmps52
  go_upto_region 1 with (fail)
  refine wp_genP (Pr := fun W => All W [.own (w.heap.size + 1) 72 33 none 0 0 ((((l.take 0).filter (otherB e)).map entC).flatten), .cells w.heap.size 72 (entC e), .low (.els B 33 A n (l.map entC)), .kept w w.heap.size] ∧ w.heap.size + 1 ≤ W.heap.size) ⟨hR1, hs1⟩ ?_
  clear hR1 hs1
  rintro W1 ⟨hI0, hs0⟩
  go_wp2
  go_loopw [5, 6] (fun v i wr => ∃ (k m : Nat) (A' : Option Addr) (c' : Nat), k ≤ n ∧ m = ((l.take k).filter (otherB e)).length ∧ i = .int .i64 k ∧ v = .slice A' m c' ∧ w.heap.size + 1 ≤ wr.heap.size ∧ All wr [.own (w.heap.size + 1) 72 33 A' m c' ((((l.take k).filter (otherB e)).map entC).flatten), .cells w.heap.size 72 (entC e), .low (.els B 33 A n (l.map entC)), .kept w w.heap.size]) (fun _ i _ => n - (intOf i).toNat)
  case atStart => exact ⟨0, 0, none, 0, by omega, rfl, rfl, rfl, hs0, hI0⟩
  case round =>
    obtain ⟨k, m, A', c', hk, hm, rfl, rfl, hsr, hI⟩ := hrel
    have HM := Lib.hid hm
    clear hm hI0 hs0
    by_cases hlt : k < n
    · have hkl : k < l.length := by rw [HN.out]; exact hlt
      have hmk : m ≤ k := by rw [HM.out]; exact Nat.le_trans (List.length_filter_le _ _) (by simp; omega)
      have hM := Lib.hid (filter_step (otherB e) l k hkl)
      obtain ⟨ad, rfl, hadB, hc⟩ := Els.elem (hI.at_ 2 rfl : Els wr B 33 A n (l.map entC) ∧ B ≤ wr.heap.size).1 hkl
      have HC := Lib.hid hc
      have hx := Lib.hid (H32.out _ (List.getElem_mem hkl))
      clear hc
      generalize l[k] = x at *
      have c0 : wr.cell? (ad.add (k * 33)) = some (.string x.p) := by have := HC.out 0 (sv x.p) rfl; rwa [add_zero] at this
      have c1 : wr.cell? ⟨w.heap.size, 0, none⟩ = some (.string e.p) := Cells.cell (hI.at_ 1 rfl) (i := 0) (by simp [entC])
      have d1 : decide ((k : Int) < (n : Int)) = true := by simp; omega
      have wk0 : (0 : Int) ≤ (k : Int) := by omega
      have wk1 : (k : Int) < (n : Int) := by omega
      have wk2 : ((k : Int)).toNat = k := by omega
      go_upto_region 5 with (fail)
      cases hq : (x.p.toList == e.p.toList) with
      | true =>
        have hq2 : (decide (x.p = e.p)) = true := by rw [← toList_beq]; exact hq
        have hF : Hid (((l.take (k + 1)).filter (otherB e)) = (l.take k).filter (otherB e)) := Lib.hid (by rw [hM.out, otherB, hq]; simp)
        clear hq2
        go_quiet (fail)
        clear hq
        go_wp2
        refine ⟨⟨k + 1, m, A', c', by omega, by rw [hF.out]; exact HM.out, by go_num, rfl, hsr, ?_⟩, by simp [intOf]; omega⟩
        rw [hF.out]
        exact hI.drewN _
      | false =>
        have hq2 : (decide (x.p = e.p)) = false := by rw [← toList_beq]; exact hq
        have hF : Hid (((l.take (k + 1)).filter (otherB e)) = (l.take k).filter (otherB e) ++ [x]) := Lib.hid (by rw [hM.out, otherB, hq]; simp)
        clear hq2
        go_quiet (fail)
        clear hq c0 c1
        have hI1 := hI.drewN nq
        have hsr1 : w.heap.size + 1 ≤ (wr.drewN nq).heap.size := hsr
        have HC1 : Hid (∀ j u, (entC x)[j]? = some u → (wr.drewN nq).cell? ((ad.add (k * 33)).add j) = some u) := HC
        generalize wr.drewN nq = wq at *
        go_wp2_with (first
          | (refine wl_load_any rfl 72 (.tmp 25) rfl (ad.add (k * 33)) rfl (entC x) _ HC1.out Tryd.underlying72 rfl (by rw [entC_len hx.out]; kernel_rfl) ?_)
          | (refine wl_lit1 el_ent rfl _ rfl (entC x) rfl (entC_len hx.out) (by decide) ?_)
          | (at_builtin; refine wl_app_at el_ent (hI1.alloc _) 0 rfl (.tmp 22) (.tmp 27) rfl (w.heap.size + 1) _ _ _ _ rfl rfl (wq.heap.size + 1) _ 1 1 (entC x) rfl (Rd.lit wq (entC x).toArray _ 1 (by rw [List.size_toArray]; exact entC_len hx.out)) (entC_one _) (by omega) (by simp; omega) (by intro g hg h; simp [Apart, Res.apart, Low.els] <;> omega) ?_; intro A7 c7 w7 hI7 hs7))
        refine ⟨⟨k + 1, m + 1, A7, c7, by omega, by rw [hF.out, List.length_append, ← HM.out]; rfl, by go_num, rfl, by simp at hs7; omega, ?_⟩, by simp [intOf]; omega⟩
        rw [hF.out, List.map_append, List.flatten_append]
        simpa using hI7
    · obtain rfl : k = n := by omega
      have d1 : decide ((k : Int) < (k : Int)) = false := by simp
      rw [List.take_of_length_le (by rw [HN.out]; omega)] at hI HM
      have hmk : m ≤ k := by rw [HM.out]; exact Nat.le_trans (List.length_filter_le _ _) (by rw [HN.out]; omega)
      have HF32 : Hid (∀ x ∈ l.filter (otherB e), E32 x) := Lib.hid fun x hx => H32.out x (List.mem_filter.1 hx).1
      rw [HFE.out] at hI HM HF32
      have hce : wr.cell? ⟨w.heap.size, 0, none⟩ = some (.string e.p) := Cells.cell (hI.at_ 1 rfl) (i := 0) (by simp [entC])
      have wm : IntKind.i64.wrap ((m : Int) + 1 - 1) = (m : Int) := by rw [IntWalk.i64_in _ (by omega)]; omega
      have wm2 : IntKind.i64.wrap (((m + 1 : Nat) : Int) - 1) = (m : Int) := by rw [IntWalk.i64_in _ (by omega)]; omega
      go_wp2_with (first
          | (refine wl_load_any rfl 72 (.tmp 3) rfl ⟨w.heap.size, 0, none⟩ rfl (entC e) _ (Cells.sub (hI.at_ 1 rfl) 0 (fun j u hu => by rw [Nat.zero_add]; exact hu)) Tryd.underlying72 rfl (by rw [entC_len HEE.out]; kernel_rfl) ?_)
          | (refine wl_lit1 el_ent rfl _ rfl (entC e) rfl (entC_len HEE.out) (by decide) ?_)
          | (at_builtin; refine wl_app_at el_ent (hI.alloc _) 0 rfl (.tmp 29) (.tmp 31) rfl (w.heap.size + 1) _ _ _ _ rfl rfl (wr.heap.size + 1) _ 1 1 (entC e) rfl (Rd.lit wr (entC e).toArray _ 1 (by rw [List.size_toArray]; exact entC_len HEE.out)) (entC_one _) (by omega) (by simp; omega) (by intro g hg h; simp [Apart, Res.apart, Low.els] <;> omega) ?_; intro A2 c2 w7 hI7 hs7))
      have hI8 : All w7 [.own (w.heap.size + 1) 72 33 A2 (m + 1) c2 (((f.take m ++ e :: f.drop m).map entC).flatten), .kept w w.heap.size] := by
        refine ⟨?_, hI7.at_ 3 rfl, trivial⟩
        have h1 := hI7.at_ 0 rfl
        rw [HM.out, List.take_length, List.drop_length, List.map_append, List.flatten_append]
        rw [← HM.out]
        simpa using h1
      have hs8 : w.heap.size + 1 ≤ w7.heap.size := by simp at hs7; omega
      clear hI7 hs7 hI hsr hce wm wm2
      go_loopw [7] (fun i wr => ∃ (j : Nat), j ≤ m ∧ i = .int .i64 j ∧ (∀ x ∈ f.drop j, blt e.p x.p = true) ∧ w.heap.size + 1 ≤ wr.heap.size ∧ All wr [.own (w.heap.size + 1) 72 33 A2 (m + 1) c2 (((f.take j ++ e :: f.drop j).map entC).flatten), .kept w w.heap.size]) (fun i _ => (intOf i).toNat)
      case atStart => exact ⟨m, by omega, rfl, by rw [HM.out, List.drop_length]; simp, hs8, hI8⟩
      case round =>
        obtain ⟨j, hj, rfl, hbig, hsr, hI⟩ := hrel
        have HBIG := Lib.hid hbig
        clear hI8 hs8 hbig
        rcases Nat.eq_zero_or_pos j with hj0 | hj0
        · subst hj0
          have d1 : decide ((0 : Int) < ((0 : Nat) : Int)) = false := by simp
          go_upto_region 9 with (fail)
          go_quiet (fail)
          go_wp2
          go_ret
          refine ⟨0, by omega, HBIG.out, .inl rfl, A2, c2, ?_, ?_, ((hI.drewN nq).at_ 1 rfl).1⟩
          · rw [List.take_zero, List.drop_zero, List.nil_append, List.length_cons, ← HM.out]; rfl
          · have h1 := (hI.at_ 0 rfl : Go.Adm.Own _ _ _ _ _ _ _ _).less (base' := w.heap.size) (by omega)
            rw [List.take_zero, List.drop_zero, List.nil_append] at h1 ⊢
            rw [List.length_cons, ← HM.out]
            exact h1
        · have d1 : decide ((0 : Int) < (j : Int)) = true := by simp; omega
          have hjf : j - 1 < f.length := by rw [← HM.out]; omega
          have HL : Hid ((f.take j ++ e :: f.drop j).length = m + 1) := Lib.hid (by simp; rw [← HM.out]; omega)
          have HLe : Hid ((f.take j ++ e :: f.drop j)[j]? = some e) := Lib.hid (by rw [List.getElem?_append_right (by rw [List.length_take]; omega), List.length_take, Nat.min_eq_left (by rw [← HM.out]; omega), Nat.sub_self]; rfl)
          have HLp : Hid ((f.take j ++ e :: f.drop j)[j - 1]? = some f[j - 1]) := Lib.hid (by rw [List.getElem?_append_left (by simp; omega), List.getElem?_take_of_lt (by omega), List.getElem?_eq_getElem hjf])
          have HL32 : Hid (∀ x ∈ (f.take j ++ e :: f.drop j), E32 x) := Lib.hid (fun x hx => by
            rcases List.mem_append.1 hx with h | h
            · exact HF32.out x (List.mem_of_mem_take h)
            · rcases List.mem_cons.1 h with rfl | h
              · exact HEE.out
              · exact HF32.out x (List.mem_of_mem_drop h))
          have hEls : ∀ W : World, Go.Adm.Own W (w.heap.size + 1) 72 33 A2 (m + 1) c2 (((f.take j ++ e :: f.drop j).map entC).flatten) → Els W W.heap.size 33 A2 (m + 1) ((f.take j ++ e :: f.drop j).map entC) := fun W h => Els.of h (ents_len HL32.out) (by rw [List.length_map]; exact HL.out)
          obtain ⟨g, rfl⟩ : ∃ g, A2 = some ⟨g, 0, none⟩ := by
            rcases (hI.at_ 0 rfl : Go.Adm.Own _ _ _ _ _ _ _ _).2 with ⟨_, h⟩ | ⟨g, cap, cur, hv, _⟩
            · omega
            · injection hv with h1; exact ⟨g, h1⟩
          have hcell : Hid (∀ W : World, Go.Adm.Own W (w.heap.size + 1) 72 33 (some ⟨g, 0, none⟩) (m + 1) c2 (((f.take j ++ e :: f.drop j).map entC).flatten) → ∀ (i : Nat) (z : E), (f.take j ++ e :: f.drop j)[i]? = some z → ∀ q s, (entC z)[q]? = some s → W.cell? ⟨g, i * 33 + q, none⟩ = some s) := Lib.hid fun W hW i z hz q s hs => by
            obtain ⟨hlt, hz⟩ := List.getElem?_eq_some_iff.1 hz
            obtain ⟨ad, e1, _, hc⟩ := Els.elem (hEls W hW) hlt
            obtain rfl := Option.some.inj e1
            rw [hz] at hc
            have := hc q s hs
            rw [add_add] at this
            have ea : (⟨g, 0, none⟩ : Addr).add (i * 33 + q) = ⟨g, i * 33 + q, none⟩ := by
              unfold Addr.add
              split
              · rename_i h0; rw [h0]
              · simp
            rwa [ea] at this
          have hy32 := Lib.hid (HF32.out _ (List.getElem_mem hjf))
          have HJY : Hid (f[j - 1]? = some f[j - 1]) := Lib.hid (List.getElem?_eq_getElem hjf)
          generalize f[j - 1] = y at *
          clear hEls
          have ce : wr.cell? ⟨g, j * 33, none⟩ = some (.string e.p) := hcell.out wr (hI.at_ 0 rfl) j e HLe.out 0 _ rfl
          have cy : wr.cell? ⟨g, (j - 1) * 33, none⟩ = some (.string y.p) := hcell.out wr (hI.at_ 0 rfl) (j - 1) y HLp.out 0 _ rfl
          have wj : IntKind.i64.wrap ((j : Int) - 1) = ((j - 1 : Nat) : Int) := by rw [IntWalk.i64_in _ (by omega)]; omega
          have wk0 : (0 : Int) ≤ (j : Int) := by omega
          have wk1 : (j : Int) < ((m + 1 : Nat) : Int) := by omega
          have wk1' : (j : Int) < (m : Int) + 1 := by omega
          have wk2 : ((j : Int)).toNat = j := by omega
          have wl0 : (0 : Int) ≤ ((j - 1 : Nat) : Int) := by omega
          have wl1 : ((j - 1 : Nat) : Int) < ((m + 1 : Nat) : Int) := by omega
          have wl1' : ((j - 1 : Nat) : Int) < (m : Int) + 1 := by omega
          have wl2 : (((j - 1 : Nat) : Int)).toNat = j - 1 := by omega
          cases hb : blt e.p y.p with
          | false =>
            have hb2 : Op.bytesLess e.p.toList y.p.toList = false := hb
            go_upto_region 9 with (fail)
            go_quiet (fail)
            clear ce cy
            go_wp2
            go_ret
            refine ⟨j, by rw [← HM.out]; omega, HBIG.out, .inr ⟨y, HJY.out, hb⟩, some ⟨g, 0, none⟩, c2, ?_, ?_, ((hI.drewN nq).at_ 1 rfl).1⟩
            · rw [HL.out]; rfl
            · rw [HL.out]
              exact (hI.at_ 0 rfl : Go.Adm.Own _ _ _ _ _ _ _ _).less (base' := w.heap.size) (by omega)
          | true =>
            have hb2 : Op.bytesLess e.p.toList y.p.toList = true := hb
            go_upto_region 9 with (fail)
            go_quiet (fail)
            clear ce cy
            go_upto_region 11 with (fail)
            refine wp_region_order [54, 55, 56, 57, 58, 59, 60, 61, 62, 63, 64, 65, 66, 67, 68, 1015, 69, 1017]
              (fun L W => All W [.own (w.heap.size + 1) 72 33 (some ⟨g, 0, none⟩) (m + 1) c2 (((if L 17 then ((f.take j ++ e :: f.drop j).set j y).set (j - 1) e else if L 15 then (f.take j ++ e :: f.drop j).set j y else (f.take j ++ e :: f.drop j)).map entC).flatten), .kept w w.heap.size] ∧ w.heap.size + 1 ≤ W.heap.size)
              (fun k => [.slice (some ⟨g, 0, none⟩) (m + 1) c2, .int .i64 (j : Int), .slice (some ⟨g, 0, none⟩) (m + 1) c2, .int .i64 (j : Int), .int .i64 ((j - 1 : Nat) : Int), .slice (some ⟨g, 0, none⟩) (m + 1) c2, .int .i64 (j : Int), .int .i64 ((j - 1 : Nat) : Int), .pointer (some ⟨g, (j - 1) * 33, none⟩), .agg (entC y).toArray, .slice (some ⟨g, 0, none⟩) (m + 1) c2, .int .i64 (j : Int), .pointer (some ⟨g, j * 33, none⟩), .agg (entC e).toArray, .pointer (some ⟨g, j * 33, none⟩), undef, .pointer (some ⟨g, (j - 1) * 33, none⟩), undef].getD k undef)
              (by kernel_rfl) (by kernel_rfl) (by simp) ?hev ⟨(hI.drewN nq).drew, hsr⟩ rfl ?hops ?fin
            case hev =>
              intro k t hk ht
              have h0 : [54, 55, 56, 57, 58, 59, 60, 61, 62, 63, 64, 65, 66, 67, 68, 1015, 69, 1017].getD k 0 = t := by rw [List.getD, hk]; rfl
              have h1 : ∀ k, k < 15 → [54, 55, 56, 57, 58, 59, 60, 61, 62, 63, 64, 65, 66, 67, 68, 1015, 69, 1017].getD k 0 < 1000 := by decide
              have h2 : k < 18 := (List.getElem?_eq_some_iff.1 hk).1
              rcases (by omega : k < 15 ∨ k = 15 ∨ k = 16 ∨ k = 17) with h | rfl | rfl | rfl
              · have := h1 k h; omega
              · rfl
              · have h3 : 69 = t := h0
                omega
              · rfl
            case hops =>
              have hset : (f.take j ++ e :: f.drop j).length = m + 1 := HL.out
              refine ⟨?_, ?_, ?_, ?_, ?_, ?_, ?_, ?_, ?_, ?_, ?_, ?_, ?_, ?_, ?_, ?_, ?_, ?_, trivial⟩
              · refine ⟨rfl, ?_⟩
                intro a W L hJ hk hcl hold hb K hK
                have b5 := hold 5 rfl
                go_simp
                exact hK _ hJ
              · refine ⟨rfl, ?_⟩
                intro a W L hJ hk hcl hold hb K hK
                have b7 := hold 7 rfl
                go_simp
                exact hK _ hJ
              · refine ⟨rfl, ?_⟩
                intro a W L hJ hk hcl hold hb K hK
                have b5 := hold 5 rfl
                go_simp
                exact hK _ hJ
              · refine ⟨rfl, ?_⟩
                intro a W L hJ hk hcl hold hb K hK
                have b7 := hold 7 rfl
                go_simp
                exact hK _ hJ
              · refine ⟨rfl, ?_⟩
                intro a W L hJ hk hcl hold hb K hK
                have b57 : a.tmps[57]?.getD undef = _ := (hb ⟨3, .data⟩ (by simp) rfl).2
                go_simp
                exact hK _ hJ
              · refine ⟨rfl, ?_⟩
                intro a W L hJ hk hcl hold hb K hK
                have b5 := hold 5 rfl
                go_simp
                exact hK _ hJ
              · refine ⟨rfl, ?_⟩
                intro a W L hJ hk hcl hold hb K hK
                have b7 := hold 7 rfl
                go_simp
                exact hK _ hJ
              · refine ⟨rfl, ?_⟩
                intro a W L hJ hk hcl hold hb K hK
                have b60 : a.tmps[60]?.getD undef = _ := (hb ⟨6, .data⟩ (by simp) rfl).2
                go_simp
                exact hK _ hJ
              · refine ⟨rfl, ?_⟩
                intro a W L hJ hk hcl hold hb K hK
                have b59 : a.tmps[59]?.getD undef = _ := (hb ⟨5, .data⟩ (by simp) rfl).2
                have b61 : a.tmps[61]?.getD undef = _ := (hb ⟨7, .data⟩ (by simp) rfl).2
                go_simp
                exact hK _ hJ
              · refine ⟨rfl, ?_⟩
                intro a W L hJ hk hcl hold hb K hK
                have b62 : a.tmps[62]?.getD undef = _ := (hb ⟨8, .data⟩ (by simp) rfl).2
                have h15 : L 15 = false := by
                  cases h : L 15 with
                  | false => rfl
                  | true =>
                    have h2 := hcl 15 _ rfl h ⟨9, .data⟩ (by simp) rfl
                    rw [hk] at h2
                    cases h2
                have h17 : L 17 = false := by
                  cases h : L 17 with
                  | false => rfl
                  | true =>
                    have h2 := hcl 17 _ rfl h ⟨15, .chain⟩ (by simp) rfl
                    rw [h15] at h2
                    cases h2
                have hJ1 := hJ.1
                simp only [h17, h15, Bool.false_eq_true, if_false] at hJ1
                refine wp_load_any 72 (.tmp 62) rfl ⟨g, (j - 1) * 33, none⟩ (by simp [Act.eval, b62]) (entC y) _ (fun q u hu => by rw [add_lit]; exact hcell.out W (hJ1.at_ 0 rfl) _ y HLp.out q u hu) Tryd.underlying72 rfl (by rw [entC_len hy32.out]; kernel_rfl) ?_
                exact hK _ hJ
              · refine ⟨rfl, ?_⟩
                intro a W L hJ hk hcl hold hb K hK
                have b5 := hold 5 rfl
                go_simp
                exact hK _ hJ
              · refine ⟨rfl, ?_⟩
                intro a W L hJ hk hcl hold hb K hK
                have b7 := hold 7 rfl
                go_simp
                exact hK _ hJ
              · refine ⟨rfl, ?_⟩
                intro a W L hJ hk hcl hold hb K hK
                have b64 : a.tmps[64]?.getD undef = _ := (hb ⟨10, .data⟩ (by simp) rfl).2
                have b65 : a.tmps[65]?.getD undef = _ := (hb ⟨11, .data⟩ (by simp) rfl).2
                go_simp
                exact hK _ hJ
              · refine ⟨rfl, ?_⟩
                intro a W L hJ hk hcl hold hb K hK
                have b66 : a.tmps[66]?.getD undef = _ := (hb ⟨12, .data⟩ (by simp) rfl).2
                have h15 : L 15 = false := by
                  cases h : L 15 with
                  | false => rfl
                  | true =>
                    have h2 := hcl 15 _ rfl h ⟨13, .phase⟩ (by simp) rfl
                    rw [hk] at h2
                    cases h2
                have h17 : L 17 = false := by
                  cases h : L 17 with
                  | false => rfl
                  | true =>
                    have h2 := hcl 17 _ rfl h ⟨15, .chain⟩ (by simp) rfl
                    rw [h15] at h2
                    cases h2
                have hJ1 := hJ.1
                simp only [h17, h15, Bool.false_eq_true, if_false] at hJ1
                refine wp_load_any 72 (.tmp 66) rfl ⟨g, j * 33, none⟩ (by simp [Act.eval, b66]) (entC e) _ (fun q u hu => by rw [add_lit]; exact hcell.out W (hJ1.at_ 0 rfl) _ e HLe.out q u hu) Tryd.underlying72 rfl (by rw [entC_len HEE.out]; kernel_rfl) ?_
                exact hK _ hJ
              · refine ⟨rfl, ?_⟩
                intro a W L hJ hk hcl hold hb K hK
                have b54 : a.tmps[54]?.getD undef = _ := (hb ⟨0, .data⟩ (by simp) rfl).2
                have b55 : a.tmps[55]?.getD undef = _ := (hb ⟨1, .data⟩ (by simp) rfl).2
                go_simp
                exact hK _ hJ
              · refine ⟨rfl, ?_⟩
                intro a W L hJ hk hcl hold hb K hK
                have b68 : a.tmps[68]?.getD undef = _ := (hb ⟨14, .data⟩ (by simp) rfl).2
                have b63 : a.tmps[63]?.getD undef = _ := (hb ⟨9, .data⟩ (by simp) rfl).2
                have h17 : L 17 = false := by
                  cases h : L 17 with
                  | false => rfl
                  | true =>
                    have h2 := hcl 17 _ rfl h ⟨15, .chain⟩ (by simp) rfl
                    rw [hk] at h2
                    cases h2
                have hJ1 := hJ.1
                simp only [h17, hk, Bool.false_eq_true, if_false] at hJ1
                refine wp_store_el (.tmp 68) (.tmp 63) rfl (hJ1.at_ 0 rfl) (j := j) (by omega) hset (fun x hx => entC_len (HL32.out x hx)) y (entC_len hy32.out) (by simp [Act.eval, b68]) (by simp [Act.eval, b63]) (by kernel_rfl) (entC_one y) ?_
                intro w' hown' hg' hs'
                refine hK _ ⟨?_, by omega⟩
                have hlt := (hJ1.at_ 0 rfl : Go.Adm.Own _ _ _ _ _ _ _ _).lt (g := g) rfl
                have hA := All.upd hg' 0 (.own (w.heap.size + 1) 72 33 (some ⟨g, 0, none⟩) (m + 1) c2 (((f.take j ++ e :: f.drop j).set j y).map entC).flatten) hJ1 hown' (by simp [Apart, Res.apart] <;> omega)
                have m1 : Go.Adm.mark L 15 17 = false := h17
                have m2 : Go.Adm.mark L 15 15 = true := rfl
                simp only [m1, m2, Bool.false_eq_true, if_false, if_true]
                exact hA
              · refine ⟨rfl, ?_⟩
                intro a W L hJ hk hcl hold hb K hK
                have b56 : a.tmps[56]?.getD undef = _ := (hb ⟨2, .data⟩ (by simp) rfl).2
                have b58 : a.tmps[58]?.getD undef = _ := (hb ⟨4, .data⟩ (by simp) rfl).2
                go_simp
                exact hK _ hJ
              · refine ⟨rfl, ?_⟩
                intro a W L hJ hk hcl hold hb K hK
                have b69 : a.tmps[69]?.getD undef = _ := (hb ⟨16, .data⟩ (by simp) rfl).2
                have b67 : a.tmps[67]?.getD undef = _ := (hb ⟨13, .data⟩ (by simp) rfl).2
                have h15 : L 15 = true := (hb ⟨15, .chain⟩ (by simp) rfl).1
                have hJ1 := hJ.1
                simp only [h15, hk, Bool.false_eq_true, if_false, if_true] at hJ1
                refine wp_store_el (.tmp 69) (.tmp 67) rfl (hJ1.at_ 0 rfl) (j := j - 1) (by omega) (by rw [List.length_set]; exact hset) (fun x hx => entC_len (by rcases List.mem_or_eq_of_mem_set hx with h | rfl; exact HL32.out x h; exact hy32.out)) e (entC_len HEE.out) (by simp [Act.eval, b69]) (by simp [Act.eval, b67]) (by kernel_rfl) (entC_one e) ?_
                intro w' hown' hg' hs'
                refine hK _ ⟨?_, by omega⟩
                have hlt := (hJ1.at_ 0 rfl : Go.Adm.Own _ _ _ _ _ _ _ _).lt (g := g) rfl
                have hA := All.upd hg' 0 (.own (w.heap.size + 1) 72 33 (some ⟨g, 0, none⟩) (m + 1) c2 ((((f.take j ++ e :: f.drop j).set j y).set (j - 1) e).map entC).flatten) hJ1 hown' (by simp [Apart, Res.apart] <;> omega)
                have m1 : Go.Adm.mark L 17 17 = true := rfl
                simp only [m1, if_true]
                exact hA
            case fin =>
              intro W L hJ hall
              have h17 := hall 17 (by decide)
              obtain ⟨hJ1, hsW⟩ := hJ
              simp only [h17, if_true] at hJ1
              obtain ⟨hR3, hR4⟩ := swap_down hj0 HJY.out e
              rw [hR3] at hJ1
              simp only [putAll, Act.put, List.setIfInBounds_toArray, List.set_cons_succ, List.set_cons_zero]
              go_wp2
              refine ⟨⟨j - 1, by omega, by go_num, ?_, hsW, hJ1⟩, by simp [intOf]; omega⟩
              intro x hx
              rw [hR4] at hx
              rcases List.mem_cons.1 hx with rfl | hx
              · exact hb
              · exact HBIG.out x hx
end Go.Proofs.YtieobkgdkiahbaaDoor

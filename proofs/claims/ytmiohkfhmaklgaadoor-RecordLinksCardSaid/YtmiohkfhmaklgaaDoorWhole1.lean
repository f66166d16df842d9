/- Diff, Apply and Compose of the program on any input. -/
import Derived.Test.YtmiohkfhmaklgaaDoorSnpA
import Derived.Test.YtmiohkfhmaklgaaDoorRef5
set_option linter.unusedSimpArgs false
set_option linter.unusedVariables false
set_option maxRecDepth 100000
namespace Go.Adm
open Go Go.RowKit
theorem okAll_facts {α : Type} (key : α → ByteArray) (good : α → Bool) (m : Nat) (l : List α) (h : okAll key good m l = true) : l.length ≤ m ∧ (∀ x ∈ l, good x = true) ∧ l.Pairwise (fun x y => blt (key x) (key y) = true) := by
  unfold okAll at h
  simp only [Bool.and_eq_true, decide_eq_true_eq, List.all_eq_true, List.mem_range] at h
  obtain ⟨h1, h2⟩ := h
  have h3 : ∀ i (hi : i < l.length), okAt1 key good l i l[i] = true := fun i hi => by rw [← okAt_at key good l i hi]; exact h2 i hi
  have hstep : ∀ i (hi : i + 1 < l.length), blt (key l[i]) (key l[i + 1]) = true := fun i hi => by
    have := h3 (i + 1) hi
    unfold okAt1 at this
    simp only [Bool.and_eq_true] at this
    have h4 := this.2
    rw [List.getElem?_eq_getElem (by omega : i < l.length)] at h4
    exact h4
  refine ⟨h1, fun x hx => ?_, List.pairwise_iff_getElem.2 ?_⟩
  · obtain ⟨i, hi, rfl⟩ := List.getElem_of_mem hx
    have := h3 i hi
    unfold okAt1 at this
    simp only [Bool.and_eq_true] at this
    exact this.1
  · intro i j hi hj hij
    obtain ⟨d, rfl⟩ : ∃ d, j = i + 1 + d := ⟨j - (i + 1), by omega⟩
    induction d with
    | zero => exact hstep i hj
    | succ d ih => exact sto_blt.tr _ _ _ (ih (by omega) (by omega)) (hstep (i + 1 + d) hj)
theorem validB_facts {l : List E} (h : validB l = true) : Asc blt l ∧ ∀ x ∈ l, x.d ≠ z32 := by
  obtain ⟨_, h2, h3⟩ := okAll_facts _ _ _ l h
  refine ⟨h3, fun x hx => ?_⟩
  have := h2 x hx
  unfold goodE at this
  simp only [Bool.and_eq_true, Bool.not_eq_true', decide_eq_false_iff_not] at this
  exact this.2
theorem changesB_facts {l : List C} (h : changesB l = true) : AscC blt l := (okAll_facts _ _ _ l h).2.2
def pDiff (a b : List E) : List C × Int := if validB a && validB b then (diff blt z32 a b, 0) else ([], 1)
def pApp (s : List E) (l : List C) : List E × Int := if validB s && changesB l then appR s l else ([], 1)
def pComp (a b : List C) : List C × Int := if changesB a && changesB b then compR a b else ([], 1)
theorem pDiff_eq (a b : List E) : rDiff a b = pDiff a b := by
  unfold rDiff pDiff
  by_cases h : (validB a && validB b) = true
  · rw [if_pos h, if_pos h]
    simp only [Bool.and_eq_true] at h
    rw [refDiff_eq z32 sto_blt a b (validB_facts h.1).1 (validB_facts h.2).1 (validB_facts h.1).2 (validB_facts h.2).2]
  · rw [if_neg h, if_neg h]
theorem pApp_eq (s : List E) (l : List C) : rApp s l = pApp s l := by
  unfold rApp pApp
  by_cases h : (validB s && changesB l) = true
  · rw [if_pos h, if_pos h]
    simp only [Bool.and_eq_true] at h
    rw [refApp_eq z32 sto_blt s l (validB_facts h.1).1 (changesB_facts h.2) (validB_facts h.1).2]
    rfl
  · rw [if_neg h, if_neg h]
theorem pComp_eq (a b : List C) : rComp a b = pComp a b := by
  unfold rComp pComp
  by_cases h : (changesB a && changesB b) = true
  · rw [if_pos h, if_pos h]
    simp only [Bool.and_eq_true] at h
    rw [refComp_eq sto_blt a b (changesB_facts h.1) (changesB_facts h.2)]
    rfl
  · rw [if_neg h, if_neg h]
end Go.Adm
namespace Go.Proofs.YtmiohkfhmaklgaaDoor
open Go Go.RowKit Go.Adm

set_option maxHeartbeats 3200000 in
theorem Diff_bad (w : World) (B : Nat) (A1 A2 : Option Addr) (c1 c2 : Nat) (a : List E) (b : List E) (h1 : Els w B 33 A1 a.length (a.map entC)) (h2 : Els w B 33 A2 b.length (b.map entC)) (ha : ∀ e ∈ a, E32 e) (hb : ∀ e ∈ b, E32 e) (hn1 : a.length ≤ 1000000) (hn2 : b.length ≤ 1000000) (hB : B ≤ w.heap.size) (hv : (validB a && validB b) = false) :
    Calls Tryd.prog 19 #[.slice A1 a.length c1, .slice A2 b.length c2] w (ResPost chgC 65 [] 1 60 w) := by
  have hR : All w [.low (.els B 33 A1 a.length (a.map entC)), .low (.els B 33 A2 b.length (b.map entC)), .kept w w.heap.size] := ⟨⟨h1, hB⟩, ⟨h2, hB⟩, ⟨Below.refl _ _, Nat.le_refl _⟩, trivial⟩
  have HA := Lib.hid ha
  have HB := Lib.hid hb
  clear h1 h2 ha hb
  cases hva : validB a with
  | false =>
    have HVA := Lib.hid hva
    clear hva hv
    refine (callsIn_wide (n := 3)).1 ?_
    refine callsIn_of_wp_marks Tryd.func19 rfl trivial ?_
    refine wpIn_wide.2 ?_
    simp only [Tryd.ntmps19, List.size_toArray, List.length_cons, List.length_nil, Nat.reduceAdd, Nat.reduceSub, Array.replicate_succ, Array.replicate_zero, List.push_toArray, List.append_toArray, List.nil_append, List.cons_append]
    have hVa := Valid_any w B A1 a.length c1 a (hR.at_ 0 rfl : Els w B 33 A1 a.length (a.map entC) ∧ B ≤ w.heap.size).1 HA.out rfl hn1 (hR.at_ 0 rfl : Els w B 33 A1 a.length (a.map entC) ∧ B ≤ w.heap.size).2
    rw [HVA.out] at hVa
    go_wp2_with (first | (refine hVa.mono ?_; clear hVa; rintro e w1 ⟨rfl, hb1⟩; have hR1 := hR.call hb1; skip))
    refine leaves_all (B := w.heap.size) [] _ (by simp) (by simp) ?_
    intro W'' hW'' _
    have h1 := hW'' [.kept w w.heap.size] ⟨Nat.le_refl _, trivial⟩ ⟨hR1.at_ 2 rfl, trivial⟩
    exact ⟨_, results_tmp2 rfl _ _ _, ResPost.nil rfl (h1.at_ 0 rfl).1⟩
  | true =>
    have HVA := Lib.hid hva
    have HVB : Hid (validB b = false) := Lib.hid (by rw [hva] at hv; simpa using hv)
    clear hva hv
    refine (callsIn_wide (n := 3)).1 ?_
    refine callsIn_of_wp_marks Tryd.func19 rfl trivial ?_
    refine wpIn_wide.2 ?_
    simp only [Tryd.ntmps19, List.size_toArray, List.length_cons, List.length_nil, Nat.reduceAdd, Nat.reduceSub, Array.replicate_succ, Array.replicate_zero, List.push_toArray, List.append_toArray, List.nil_append, List.cons_append]
    have hVa := Valid_any w B A1 a.length c1 a (hR.at_ 0 rfl : Els w B 33 A1 a.length (a.map entC) ∧ B ≤ w.heap.size).1 HA.out rfl hn1 (hR.at_ 0 rfl : Els w B 33 A1 a.length (a.map entC) ∧ B ≤ w.heap.size).2
    rw [HVA.out] at hVa
    go_wp2_with (first | (refine hVa.mono ?_; clear hVa; rintro e w1 ⟨rfl, hb1⟩; have hR1 := hR.call hb1; have hVb := Valid_any w1 B A2 b.length c2 b (hR1.at_ 1 rfl : Els w1 B 33 A2 b.length (b.map entC) ∧ B ≤ w1.heap.size).1 HB.out rfl hn2 (hR1.at_ 1 rfl : Els w1 B 33 A2 b.length (b.map entC) ∧ B ≤ w1.heap.size).2; rw [HVB.out] at hVb) | (refine hVb.mono ?_; clear hVb; rintro e w2 ⟨rfl, hb2⟩; have hR2 := hR1.call hb2; skip))
    refine leaves_all (B := w.heap.size) [] _ (by simp) (by simp) ?_
    intro W'' hW'' _
    have h1 := hW'' [.kept w w.heap.size] ⟨Nat.le_refl _, trivial⟩ ⟨hR2.at_ 2 rfl, trivial⟩
    exact ⟨_, results_tmp2 rfl _ _ _, ResPost.nil rfl (h1.at_ 0 rfl).1⟩
theorem Diff_any (w : World) (B : Nat) (A1 A2 : Option Addr) (n1 c1 n2 c2 : Nat) (a : List E) (b : List E) (h1 : Els w B 33 A1 n1 (a.map entC)) (h2 : Els w B 33 A2 n2 (b.map entC)) (ha : ∀ e ∈ a, E32 e) (hb : ∀ e ∈ b, E32 e) (e1 : a.length = n1) (e2 : b.length = n2) (hn1 : n1 ≤ 400000) (hn2 : n2 ≤ 400000) (hB : B ≤ w.heap.size) :
    Calls Tryd.prog 19 #[.slice A1 n1 c1, .slice A2 n2 c2] w (ResPost chgC 65 (pDiff a b).1 (pDiff a b).2 60 w) := by
  subst e1
  subst e2
  cases hv : (validB a && validB b) with
  | false =>
    rw [show pDiff a b = ([], 1) from by unfold pDiff; rw [hv]; rfl]
    exact Diff_bad w B A1 A2 c1 c2 a b h1 h2 ha hb (by omega) (by omega) hB hv
  | true =>
    have hv2 := hv
    simp only [Bool.and_eq_true] at hv2
    have hg := Diff_good w B A1 A2 c1 c2 a b h1 h2 ha hb (by omega) (by omega) hB hv2.1 hv2.2
    rw [show pDiff a b = (diff blt z32 a b, 0) from by unfold pDiff; rw [hv]; rfl]
    exact hg
set_option maxHeartbeats 3200000 in
theorem Apply_bad (w : World) (B : Nat) (A1 A2 : Option Addr) (c1 c2 : Nat) (a : List E) (b : List C) (h1 : Els w B 33 A1 a.length (a.map entC)) (h2 : Els w B 65 A2 b.length (b.map chgC)) (ha : ∀ e ∈ a, E32 e) (hb : ∀ e ∈ b, C32 e) (hn1 : a.length ≤ 1000000) (hn2 : b.length ≤ 1000000) (hB : B ≤ w.heap.size) (hv : (validB a && changesB b) = false) :
    Calls Tryd.prog 11 #[.slice A1 a.length c1, .slice A2 b.length c2] w (ResPost entC 33 [] 1 53 w) := by
  have hR : All w [.low (.els B 33 A1 a.length (a.map entC)), .low (.els B 65 A2 b.length (b.map chgC)), .kept w w.heap.size] := ⟨⟨h1, hB⟩, ⟨h2, hB⟩, ⟨Below.refl _ _, Nat.le_refl _⟩, trivial⟩
  have HA := Lib.hid ha
  have HB := Lib.hid hb
  clear h1 h2 ha hb
  cases hva : validB a with
  | false =>
    have HVA := Lib.hid hva
    clear hva hv
    refine (callsIn_wide (n := 3)).1 ?_
    refine callsIn_of_wp_marks Tryd.func11 rfl trivial ?_
    refine wpIn_wide.2 ?_
    simp only [Tryd.ntmps11, List.size_toArray, List.length_cons, List.length_nil, Nat.reduceAdd, Nat.reduceSub, Array.replicate_succ, Array.replicate_zero, List.push_toArray, List.append_toArray, List.nil_append, List.cons_append]
    go_upto_region 1 with (fail)
    have hR0 := (hR.new #[.slice none 0 0] 24 rfl rfl).new #[.int .i64 0] 34 (g := w.heap.size + 1) (by simp) rfl
    refine wp_gen hR0 ?_
    intro w0 hR0
    clear hR
    have hVa := Valid_any w0 B A1 a.length c1 a (hR0.at_ 2 rfl : Els w0 B 33 A1 a.length (a.map entC) ∧ B ≤ w0.heap.size).1 HA.out rfl hn1 (hR0.at_ 2 rfl : Els w0 B 33 A1 a.length (a.map entC) ∧ B ≤ w0.heap.size).2
    rw [HVA.out] at hVa
    go_wp2_with (first | (refine hVa.mono ?_; clear hVa; rintro e w1 ⟨rfl, hb1⟩; have hR1 := hR0.call hb1; have e4 : w1.cell? ⟨w.heap.size, 0, none⟩ = some (.slice none 0 0) := Cells.cell (hR1.at_ 1 rfl) (i := 0) (by simp); have f4 : w1.frozen? ⟨w.heap.size, 0, none⟩ = false := Cells.frozen (hR1.at_ 1 rfl) 0; have e5 : w1.cell? ⟨w.heap.size + 1, 0, none⟩ = some (.int .i64 0) := Cells.cell (hR1.at_ 0 rfl) (i := 0) (by simp); have f5 : w1.frozen? ⟨w.heap.size + 1, 0, none⟩ = false := Cells.frozen (hR1.at_ 0 rfl) 0))
    have hk : All w1 [.cells w.heap.size 24 [.slice none 0 0], .cells (w.heap.size + 1) 34 [.int .i64 0], .kept w w.heap.size] := ⟨hR1.at_ 1 rfl, hR1.at_ 0 rfl, hR1.at_ 4 rfl, trivial⟩
    have hk2 := hk.store 0 rfl 0 (.slice none 0 0) ⟨fun e => by injection e with e; omega, fun g e => by injection e with e; omega, trivial⟩
    have hk3 := hk2.store 1 rfl 0 (.int .i64 1) ⟨fun e => by injection e with e; omega, fun g e => by injection e with e; omega, trivial⟩
    refine leaves_all (B := w.heap.size) [] _ (by simp) (by simp) ?_
    intro W'' hW'' _
    have h1 := hW'' [.cells w.heap.size 24 [.slice none 0 0], .cells (w.heap.size + 1) 34 [.int .i64 1], .kept w w.heap.size] ⟨trivial, trivial, Nat.le_refl _, trivial⟩ hk3
    refine ⟨_, results_cell2 rfl _ _ w.heap.size (w.heap.size + 1) (.slice none 0 0) (.int .i64 1) rfl rfl ?_ ?_, ResPost.nil rfl (h1.at_ 2 rfl).1⟩
    · have := Cells.cell (h1.at_ 0 rfl : Cells W'' _ _ _) (i := 0) (by simp)
      go_simp
    · have := Cells.cell (h1.at_ 1 rfl : Cells W'' _ _ _) (i := 0) (by simp)
      go_simp
  | true =>
    have HVA := Lib.hid hva
    have HVB : Hid (changesB b = false) := Lib.hid (by rw [hva] at hv; simpa using hv)
    clear hva hv
    refine (callsIn_wide (n := 3)).1 ?_
    refine callsIn_of_wp_marks Tryd.func11 rfl trivial ?_
    refine wpIn_wide.2 ?_
    simp only [Tryd.ntmps11, List.size_toArray, List.length_cons, List.length_nil, Nat.reduceAdd, Nat.reduceSub, Array.replicate_succ, Array.replicate_zero, List.push_toArray, List.append_toArray, List.nil_append, List.cons_append]
    go_upto_region 1 with (fail)
    have hR0 := (hR.new #[.slice none 0 0] 24 rfl rfl).new #[.int .i64 0] 34 (g := w.heap.size + 1) (by simp) rfl
    refine wp_gen hR0 ?_
    intro w0 hR0
    clear hR
    have hVa := Valid_any w0 B A1 a.length c1 a (hR0.at_ 2 rfl : Els w0 B 33 A1 a.length (a.map entC) ∧ B ≤ w0.heap.size).1 HA.out rfl hn1 (hR0.at_ 2 rfl : Els w0 B 33 A1 a.length (a.map entC) ∧ B ≤ w0.heap.size).2
    rw [HVA.out] at hVa
    go_wp2_with (first | (refine hVa.mono ?_; clear hVa; rintro e w1 ⟨rfl, hb1⟩; have hR1 := hR0.call hb1; have hVb := changes_any w1 B A2 b.length c2 b (hR1.at_ 3 rfl : Els w1 B 65 A2 b.length (b.map chgC) ∧ B ≤ w1.heap.size).1 HB.out rfl hn2 (hR1.at_ 3 rfl : Els w1 B 65 A2 b.length (b.map chgC) ∧ B ≤ w1.heap.size).2; rw [HVB.out] at hVb) | (refine hVb.mono ?_; clear hVb; rintro e w2 ⟨rfl, hb2⟩; have hR2 := hR1.call hb2; have e4 : w2.cell? ⟨w.heap.size, 0, none⟩ = some (.slice none 0 0) := Cells.cell (hR2.at_ 1 rfl) (i := 0) (by simp); have f4 : w2.frozen? ⟨w.heap.size, 0, none⟩ = false := Cells.frozen (hR2.at_ 1 rfl) 0; have e5 : w2.cell? ⟨w.heap.size + 1, 0, none⟩ = some (.int .i64 0) := Cells.cell (hR2.at_ 0 rfl) (i := 0) (by simp); have f5 : w2.frozen? ⟨w.heap.size + 1, 0, none⟩ = false := Cells.frozen (hR2.at_ 0 rfl) 0))
    have hk : All w2 [.cells w.heap.size 24 [.slice none 0 0], .cells (w.heap.size + 1) 34 [.int .i64 0], .kept w w.heap.size] := ⟨hR2.at_ 1 rfl, hR2.at_ 0 rfl, hR2.at_ 4 rfl, trivial⟩
    have hk2 := hk.store 0 rfl 0 (.slice none 0 0) ⟨fun e => by injection e with e; omega, fun g e => by injection e with e; omega, trivial⟩
    have hk3 := hk2.store 1 rfl 0 (.int .i64 1) ⟨fun e => by injection e with e; omega, fun g e => by injection e with e; omega, trivial⟩
    refine leaves_all (B := w.heap.size) [] _ (by simp) (by simp) ?_
    intro W'' hW'' _
    have h1 := hW'' [.cells w.heap.size 24 [.slice none 0 0], .cells (w.heap.size + 1) 34 [.int .i64 1], .kept w w.heap.size] ⟨trivial, trivial, Nat.le_refl _, trivial⟩ hk3
    refine ⟨_, results_cell2 rfl _ _ w.heap.size (w.heap.size + 1) (.slice none 0 0) (.int .i64 1) rfl rfl ?_ ?_, ResPost.nil rfl (h1.at_ 2 rfl).1⟩
    · have := Cells.cell (h1.at_ 0 rfl : Cells W'' _ _ _) (i := 0) (by simp)
      go_simp
    · have := Cells.cell (h1.at_ 1 rfl : Cells W'' _ _ _) (i := 0) (by simp)
      go_simp
theorem Apply_any (w : World) (B : Nat) (A1 A2 : Option Addr) (n1 c1 n2 c2 : Nat) (a : List E) (b : List C) (h1 : Els w B 33 A1 n1 (a.map entC)) (h2 : Els w B 65 A2 n2 (b.map chgC)) (ha : ∀ e ∈ a, E32 e) (hb : ∀ e ∈ b, C32 e) (e1 : a.length = n1) (e2 : b.length = n2) (hn1 : n1 ≤ 400000) (hn2 : n2 ≤ 400000) (hB : B ≤ w.heap.size) :
    Calls Tryd.prog 11 #[.slice A1 n1 c1, .slice A2 n2 c2] w (ResPost entC 33 (pApp a b).1 (pApp a b).2 53 w) := by
  subst e1
  subst e2
  cases hv : (validB a && changesB b) with
  | false =>
    rw [show pApp a b = ([], 1) from by unfold pApp; rw [hv]; rfl]
    exact Apply_bad w B A1 A2 c1 c2 a b h1 h2 ha hb (by omega) (by omega) hB hv
  | true =>
    have hv2 := hv
    simp only [Bool.and_eq_true] at hv2
    have hg := Apply_good w B A1 A2 c1 c2 a b h1 h2 ha hb (by omega) (by omega) hB hv2.1 hv2.2
    rw [show pApp a b = appR a b from by unfold pApp; rw [hv]; rfl]
    exact hg
end Go.Proofs.YtmiohkfhmaklgaaDoor

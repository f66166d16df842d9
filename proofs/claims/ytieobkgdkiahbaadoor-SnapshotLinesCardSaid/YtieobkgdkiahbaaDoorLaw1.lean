/- The laws SnapshotApplies and SnapshotComposes. -/
import Derived.Test.YtieobkgdkiahbaaDoorWhole1
import Derived.Test.YtieobkgdkiahbaaDoorRef6
import Derived.Test.YtieobkgdkiahbaaDoorRef7
import Derived.Test.YtieobkgdkiahbaaDoorRef8
import Derived.Test.YtieobkgdkiahbaaDoorSnap9
set_option linter.unusedSimpArgs false
set_option linter.unusedVariables false
set_option maxRecDepth 100000
namespace Go.Adm
open Go Go.RowKit
theorem foldPut_len {α β : Type} (key : α → ByteArray) (g : β → Option α) : ∀ (l : List β) (o : List α), (foldPut blt key g l o).length ≤ o.length + l.length
  | [], o => Nat.le_refl _
  | b :: l, o => by
    rw [foldPut_cons]
    have := foldPut_len key g l (match g b with | none => o | some e => putK blt key o e)
    cases hb : g b with
    | none => rw [hb] at this; simp only [List.length_cons] at *; omega
    | some e => rw [hb] at this; simp only [putK_len, List.length_cons] at *; omega
theorem pApp_ok {s : List E} {l : List C} (hs : ∀ e ∈ s, E32 e) (hl : ∀ e ∈ l, C32 e) : (∀ e ∈ (pApp s l).1, E32 e) ∧ (pApp s l).1.length ≤ s.length + l.length := by
  rw [← pApp_eq]
  unfold rApp
  split
  · split
    · exact ⟨fun e h => (by cases h), by simp⟩
    · next r hr =>
      unfold refApp at hr
      split at hr
      · obtain rfl := Option.some.inj hr
        split
        · exact ⟨fun e h => (by cases h), by simp⟩
        · refine ⟨fun e h => ?_, ?_⟩
          · rcases (mem_foldPut Ent.p _ _ _ e).1 h with h | ⟨c, hc, h⟩
            · exact hs e (List.mem_filter.1 h).1
            · unfold aL at h
              split at h
              · cases h
              · obtain rfl := Option.some.inj h
                exact ⟨(hl c hc).2.1, (hl c hc).2.2⟩
          · have h1 := foldPut_len Ent.p (aL z32) l (s.filter fun x => !(findR l x.p).isSome)
            exact Nat.le_trans h1 (Nat.add_le_add_right (List.length_filter_le _ _) _)
      · cases hr
  · exact ⟨fun e h => (by cases h), by simp⟩
theorem pDiff_ok {a b : List E} (ha : ∀ e ∈ a, E32 e) (hb : ∀ e ∈ b, E32 e) : (∀ e ∈ (pDiff a b).1, C32 e) ∧ (pDiff a b).1.length ≤ a.length + b.length := by
  rw [← pDiff_eq]
  unfold rDiff
  split
  · refine ⟨fun e h => ?_, ?_⟩
    · rcases (mem_foldPut Chg.p _ _ _ e).1 h with h | ⟨y, hy, h⟩
      · rcases (mem_foldPut Chg.p _ _ _ e).1 h with h | ⟨x, hx, h⟩
        · cases h
        · unfold dA at h
          split at h
          · cases h
          · obtain rfl := Option.some.inj h
            exact ⟨(ha x hx).1, lookZ_32 hb _, (ha x hx).2⟩
      · unfold dB at h
        split at h
        · cases h
        · obtain rfl := Option.some.inj h
          exact ⟨rfl, (hb y hy).1, (hb y hy).2⟩
    · have h1 := foldPut_len Chg.p (dB z32 a) b (foldPut blt Chg.p (dA z32 b) a [])
      have h2 := foldPut_len Chg.p (dA z32 b) a []
      simp only [List.length_nil] at *
      omega
  · exact ⟨fun e h => (by cases h), by simp⟩
theorem pComp_ok {a b : List C} (ha : ∀ e ∈ a, C32 e) (hb : ∀ e ∈ b, C32 e) : (∀ e ∈ (pComp a b).1, C32 e) ∧ (pComp a b).1.length ≤ a.length + b.length := by
  rw [← pComp_eq]
  unfold rComp
  split
  · split
    · exact ⟨fun e h => (by cases h), by simp⟩
    · next r hr =>
      unfold refComp at hr
      split at hr
      · obtain rfl := Option.some.inj hr
        split
        · exact ⟨fun e h => (by cases h), by simp⟩
        · refine ⟨fun e h => ?_, ?_⟩
          · rcases (mem_foldPut Chg.p _ _ _ e).1 h with h | ⟨y, hy, h⟩
            · rcases (mem_foldPut Chg.p _ _ _ e).1 h with h | ⟨x, hx, h⟩
              · cases h
              · unfold cA at h
                cases hf : findR b x.p with
                | none => rw [hf] at h; obtain rfl := Option.some.inj h; exact ha _ hx
                | some y =>
                  rw [hf] at h
                  simp only at h
                  split at h
                  · cases h
                  · obtain rfl := Option.some.inj h
                    have hy := hb y (findR_some hf).1
                    exact ⟨(ha x hx).1, hy.2.1, hy.2.2⟩
            · unfold cB at h
              split at h
              · cases h
              · obtain rfl := Option.some.inj h
                exact hb _ hy
          · have h1 := foldPut_len Chg.p (cB a) b (foldPut blt Chg.p (cA b) a [])
            have h2 := foldPut_len Chg.p (cA b) a []
            simp only [List.length_nil] at *
            omega
      · cases hr
  · exact ⟨fun e h => (by cases h), by simp⟩
theorem invS_ok {l : List C} (h : ∀ e ∈ l, C32 e) : (∀ e ∈ (invS l).1, C32 e) ∧ (invS l).1.length ≤ l.length := by
  unfold invS
  split
  · exact ⟨fun e he => by obtain ⟨x, hx, rfl⟩ := List.mem_map.1 he; exact inv_32 (h x hx), by simp⟩
  · exact ⟨fun e he => (by cases he), by simp⟩
end Go.Adm
namespace Go.Proofs.YtieobkgdkiahbaaDoor
open Go Go.RowKit Go.Adm

theorem light_any (w : World) (A : Option Addr) (n c : Nat) : Calls Tryd.prog 10 #[.slice A n c] w fun e w' => e = .returned (.bool (decide ((n : Int) ≤ 200))) ∧ w' = w := by
  go_enter Tryd.func10, Tryd.ntmps10
  go_wp2
  go_ret
  exact ⟨by first | rfl | simp, rfl⟩
theorem few_any (w : World) (A : Option Addr) (n c : Nat) : Calls Tryd.prog 11 #[.slice A n c] w fun e w' => e = .returned (.bool (decide ((n : Int) ≤ 300))) ∧ w' = w := by
  go_enter Tryd.func11, Tryd.ntmps11
  go_wp2
  go_ret
  exact ⟨by first | rfl | simp, rfl⟩
theorem els_ofE {W : World} {base : Nat} {p : Option Addr} {c : Nat} {l : List E} (h : Go.Adm.Own W base 72 33 p l.length c (l.map entC).flatten) (hg : ∀ x ∈ l, E32 x) : Els W W.heap.size 33 p l.length (l.map entC) := Els.of h (ents_len hg) (by rw [List.length_map])
theorem els_ofC {W : World} {base : Nat} {p : Option Addr} {c : Nat} {l : List C} (h : Go.Adm.Own W base 70 65 p l.length c (l.map chgC).flatten) (hg : ∀ x ∈ l, C32 x) : Els W W.heap.size 65 p l.length (l.map chgC) := Els.of h (chgs_len hg) (by rw [List.length_map])

set_option maxHeartbeats 3200000 in
theorem walkApplies (w : World) (m : Int) (hm : w.cell? ⟨0, 0, none⟩ = some (.int .i64 m)) (B : Nat) (A1 A2 : Option Addr) (n1 c1 n2 c2 : Nat) (a : List E) (l : List C) (h1 : Els w B 33 A1 n1 (a.map entC)) (h2 : Els w B 65 A2 n2 (l.map chgC)) (ha : ∀ e ∈ a, E32 e) (hl : ∀ e ∈ l, C32 e) (e1 : a.length = n1) (e2 : l.length = n2) (hB : B ≤ w.heap.size) :
    Calls Tryd.prog 3 #[.slice A1 n1 c1, .slice A2 n2 c2] w fun e w' => e = .returned (.bool true) ∧ Below w.heap.size w w' := by
  by_cases q1 : 200 < n1
  · have d1 : decide ((n1 : Int) ≤ 200) = false := by simp; omega
    have hc := light_any w A1 n1 c1
    rw [d1] at hc
    go_enter Tryd.func3, Tryd.ntmps3
    go_wp2_with fail
    refine hc.mono ?_
    rintro e w1 ⟨rfl, rfl⟩
    go_wp2_with fail
    go_ret
    exact ⟨rfl, Below.refl _ _⟩
  by_cases q2 : 300 < n2
  · have d1 : decide ((n1 : Int) ≤ 200) = true := by simp; omega
    have d2 : decide ((n2 : Int) ≤ 300) = false := by simp; omega
    have hc := light_any w A1 n1 c1
    rw [d1] at hc
    have hc2 := few_any w A2 n2 c2
    rw [d2] at hc2
    go_enter Tryd.func3, Tryd.ntmps3
    go_wp2_with fail
    refine hc.mono ?_
    rintro e w1 ⟨rfl, hw1⟩
    subst hw1
    go_wp2_with fail
    refine hc2.mono ?_
    rintro e w1 ⟨rfl, hw1⟩
    subst hw1
    go_wp2_with fail
    go_ret
    exact ⟨rfl, Below.refl _ _⟩
  have hR : All w [.low (.els B 33 A1 n1 (a.map entC)), .low (.els B 65 A2 n2 (l.map chgC)), .kept w w.heap.size] := ⟨⟨h1, hB⟩, ⟨h2, hB⟩, ⟨Below.refl _ _, Nat.le_refl _⟩, trivial⟩
  have d1 : decide ((n1 : Int) ≤ 200) = true := by simp; omega
  have d2 : decide ((n2 : Int) ≤ 300) = true := by simp; omega
  have hc := light_any w A1 n1 c1
  rw [d1] at hc
  have hc2 := few_any w A2 n2 c2
  rw [d2] at hc2
  clear d1 d2
  obtain ⟨hr32, hrl⟩ := pApp_ok ha hl
  have hP := Apply_any w B A1 A2 n1 c1 n2 c2 a l h1 h2 ha hl e1 e2 (by omega) (by omega) hB
  have hQ : ∀ W : World, All W [.low (.els B 33 A1 n1 (a.map entC)), .low (.els B 65 A2 n2 (l.map chgC)), .kept w w.heap.size] → Calls Tryd.prog 13 #[.slice A1 n1 c1, .slice A2 n2 c2] W (ResPost entC 33 (pApp a l).1 (pApp a l).2 72 W) := fun W hW => by
    have := refApply_any W m (glob_keep hm (hW.at_ 2 rfl).1) B A1 A2 n1 c1 n2 c2 a l (hW.at_ 0 rfl : Els W B 33 A1 n1 (a.map entC) ∧ B ≤ W.heap.size).1 (hW.at_ 1 rfl : Els W B 65 A2 n2 (l.map chgC) ∧ B ≤ W.heap.size).1 ha hl e1 e2 (by omega) (by omega) (hW.at_ 0 rfl : Els W B 33 A1 n1 (a.map entC) ∧ B ≤ W.heap.size).2
    rwa [pApp_eq] at this
  have HQ := Lib.hid hQ
  have hrl2 : (pApp a l).1.length ≤ 1000000 := by omega
  have HR32 := Lib.hid hr32
  clear hQ hr32 hrl h1 h2 ha hl
  generalize (pApp a l).1 = r at *
  generalize (pApp a l).2 = er at *
  go_enter Tryd.func3, Tryd.ntmps3
  go_wp2_with fail
  refine hc.mono ?_
  rintro e w1 ⟨rfl, hw1⟩
  subst hw1
  clear hc
  go_wp2_with fail
  refine hc2.mono ?_
  rintro e w1 ⟨rfl, hw1⟩
  subst hw1
  clear hc2
  go_wp2_with fail
  refine hP.mono ?_
  clear hP
  rintro e w4 ⟨A4, c4, rfl, ho4, hb4⟩
  have hR4 := hR.call hb4
  have hJ4 : All w4 [.own w1.heap.size 72 33 A4 r.length c4 (r.map entC).flatten, .kept w1 w1.heap.size] := ⟨ho4, hR4.at_ 2 rfl, trivial⟩
  clear ho4 hb4
  go_wp2_with fail
  refine (HQ.out w4 hR4).mono ?_
  rintro e w5 ⟨A5, c5, rfl, ho5, hb5⟩
  have hs4 : w1.heap.size ≤ w4.heap.size := hJ4.size_kept 1 rfl
  have hJ5 : All w5 [.own w1.heap.size 72 33 A5 r.length c5 (r.map entC).flatten, .own w1.heap.size 72 33 A4 r.length c4 (r.map entC).flatten, .kept w1 w1.heap.size] := ⟨ho5.less hs4, hJ4.call hb5⟩
  clear hR4 hJ4 ho5 hb5 HQ
  go_wp2_with fail
  refine (awake_any w5).mono ?_
  rintro e w6 ⟨rfl, hb6⟩
  have hJ6 := hJ5.call hb6
  clear hJ5 hb6
  go_wp2_with fail
  refine (Same_true w6 w6.heap.size A4 A5 r.length c4 c5 r (els_ofE (hJ6.at_ 1 rfl) HR32.out) (els_ofE (hJ6.at_ 0 rfl) HR32.out) HR32.out rfl hrl2 (Nat.le_refl _)).mono ?_
  rintro e w7 ⟨rfl, hb7⟩
  have hJ7 := hJ6.call hb7
  clear hJ6 hb7
  go_wp2_with fail
  go_ret
  exact ⟨rfl, (hJ7.at_ 2 rfl).1⟩
end Go.Proofs.YtieobkgdkiahbaaDoor

/- The changes of a link turn its materials into its products: plain Lean. Links of records and their changes: both sides. -/
import Derived.Test.YtmiohkfhmaklgaaDoorWhole1
import Derived.Test.YtmiohkfhmaklgaaDoorSnpA
import Derived.Test.YtmiohkfhmaklgaaDoorRec6
import Derived.Test.YtmiohkfhmaklgaaDoorRec2
import Derived.Test.YtmiohkfhmaklgaaDoorTapA
import Derived.Test.YtmiohkfhmaklgaaDoorLit2
import Derived.Test.YtmiohkfhmaklgaaDoorRef6
set_option linter.unusedSimpArgs false
set_option linter.unusedVariables false
namespace Go.Adm
open Go Go.RowKit
theorem validB_good {l : List E} (h : validB l = true) (he : ∀ x ∈ l, E32 x) : GoodL l ∧ l.length ≤ 64 := by
  obtain ⟨h1, h2, h3⟩ := okAll_facts _ _ _ l h
  refine ⟨⟨h3, he, fun x hx => ?_, fun x hx => ?_⟩, h1⟩
  · have := h2 x hx
    unfold goodE at this
    simp only [Bool.and_eq_true] at this
    exact this.1
  · have := h2 x hx
    unfold goodE at this
    simp only [Bool.and_eq_true, Bool.not_eq_true', decide_eq_false_iff_not] at this
    exact this.2
theorem pDiff_back {a b : List E} (ha : ∀ x ∈ a, E32 x) (hb : ∀ x ∈ b, E32 x) (h : (pDiff a b).2 = 0) : pApp a (pDiff a b).1 = (b, 0) := by
  unfold pDiff at h ⊢
  by_cases hv : (validB a && validB b) = true
  · rw [if_pos hv]
    simp only [Bool.and_eq_true] at hv
    obtain ⟨ga, la⟩ := validB_good hv.1 ha
    obtain ⟨gb, lb⟩ := validB_good hv.2 hb
    unfold pApp
    rw [hv.1, diff_changes ga gb la lb]
    exact diff_appR ga gb lb
  · rw [if_neg hv] at h
    cases h
theorem pDiff_32 {a b : List E} (ha : ∀ x ∈ a, E32 x) (hb : ∀ x ∈ b, E32 x) : ∀ c ∈ (pDiff a b).1, C32 c := by
  unfold pDiff
  split
  · exact diff_32 a b ha hb
  · intro c hc; cases hc
theorem pDiff_len (a b : List E) : (pDiff a b).1.length ≤ a.length + b.length := by
  unfold pDiff
  split
  · exact diff_len (lt := blt) (z := z32) a b
  · exact Nat.zero_le _
theorem pDiff_small (a b : List E) : (pDiff a b).1.length ≤ 128 := by
  unfold pDiff
  split
  · rename_i h
    simp only [Bool.and_eq_true] at h
    have h1 := (okAll_facts _ _ _ a h.1).1
    have h2 := (okAll_facts _ _ _ b h.2).1
    have h3 := diff_len (lt := blt) (z := z32) a b
    show (diff blt z32 a b).length ≤ 128
    omega
  · exact Nat.zero_le _
end Go.Adm
set_option linter.unusedSimpArgs false
set_option linter.unusedVariables false
set_option maxRecDepth 100000
namespace Go.AdR
open Go Go.RowKit Go.Adm
def lnkC (s : ByteArray) (sm sp : Sl) : List Value := [.string s, sm.v, sp.v]
theorem lnkC_one (s : ByteArray) (sm sp : Sl) : ∀ v ∈ lnkC s sm sp, v.oneCell' = true := by
  intro v hv
  simp only [lnkC, List.mem_cons, List.mem_nil_iff, or_false] at hv
  rcases hv with rfl | rfl | rfl <;> rfl
theorem entsC_one (l : List E) : ∀ u ∈ (l.map entC).flatten, u.oneCell' = true := by
  intro u hu
  obtain ⟨cs, hcs, hu⟩ := List.mem_flatten.1 hu
  obtain ⟨e, _, rfl⟩ := List.mem_map.1 hcs
  rcases List.mem_cons.1 hu with rfl | h
  · rfl
  · obtain ⟨b, _, rfl⟩ := List.mem_map.1 h
    rfl
end Go.AdR
namespace Go.Proofs.YtmiohkfhmaklgaaDoor
open Go Go.RowKit Go.Adm Go.AdR
set_option maxHeartbeats 1600000 in
theorem CloneE_any (w : World) (B : Nat) (A : Option Addr) (n c : Nat) (l : List E) (h : Els w B 33 A n (l.map entC)) (hn : l.length = n) (hn2 : n ≤ 1000000) (hB : B ≤ w.heap.size) :
    Calls Tryd.prog 18 #[.slice A n c] w fun e w' => ∃ A' c', e = .returned (.slice A' n c') ∧ Below w.heap.size w w' ∧ Go.Adm.Own w' w.heap.size 53 33 A' n c' (l.map entC).flatten := by
  have q23 : ∀ (w : World) (a : Option Addr) (n c n' c' : Nat), (binOp .eql 24 (.slice a n c) (.slice none n' c')).run Tryd.prog w = .ok (.bool a.isNone) w := fun w a n c n' c' => Lib.run_eql_slice_nil w _ _ a n c n' c' Tryd.underlying24
  cases A with
  | none =>
    have hn0 : n = 0 := by
      rcases Nat.eq_zero_or_pos n with h0 | h0
      · exact h0
      · obtain ⟨ad, e, _⟩ := h.rd.at_ h0; cases e
    subst hn0
    have hl : l = [] := List.eq_nil_of_length_eq_zero hn
    subst hl
    clear h
    go_enter Tryd.func18, Tryd.ntmps18
    go_wp2_with fail
    go_ret
    exact ⟨none, 0, rfl, Below.refl _ _, Go.Adm.Own.nil _ _ _ _⟩
  | some ad =>
    have hown0 : Go.Adm.Own (w.alloc (.cells #[] 53)) w.heap.size 53 33 (some ⟨w.heap.size, 0, none⟩) 0 0 [] := Go.Adm.Own.lit w #[] 0 (Nat.le_refl _) (by decide) rfl
    have hrx : Rd (w.alloc (.cells #[] 53)) B 33 (some ad) n (l.map entC).flatten := h.rd.alloc hB _
    clear h hn
    go_enter Tryd.func18, Tryd.ntmps18
    go_wp2_with (refine wl_app _ el_ent rfl (.tmp 5) (.tmp 6) rfl w.heap.size _ 0 0 [] rfl hown0 B _ n c (l.map entC).flatten rfl hrx (entsC_one _) (by omega) (by simp) ?_; intro A3 c3 w3 hown3 hb3 hg3)
    go_ret
    have hown4 := hown3.cast (Nat.zero_add n) (List.nil_append _)
    exact ⟨A3, c3, rfl, ((Below.refl _ w).alloc (Nat.le_refl _) _).trans hb3, hown4⟩
/-- what was returned: a link with lists of the call's own -/
def LinkPost (x : Rec) (sm sp : Sl) (w : World) (e : Ending) (w' : World) : Prop := ∃ (sa sb : Sl), sa.n = sm.n ∧ sb.n = sp.n ∧ e = .returned (.agg (lnkC x.step sa sb).toArray) ∧ Below w.heap.size w w' ∧ Els w' w'.heap.size 33 sa.A sa.n (x.mat.map entC) ∧ Els w' w'.heap.size 33 sb.A sb.n (x.prod.map entC)
set_option maxHeartbeats 3200000 in
theorem RecLink_any (w : World) (B : Nat) (x : Rec) (sc se sm sp : Sl) (h : RecIn w B x sc se sm sp) (ho : RecOk x) (hB : B ≤ w.heap.size) :
    Calls Tryd.prog 5 #[.agg (recC x sc se sm sp).toArray] w (LinkPost x sm sp w) := by
  have hR : All w [.low (Go.AdR.Low.recd B x sc se sm sp), .kept w w.heap.size] := ⟨⟨h, hB⟩, ⟨Below.refl _ _, Nat.le_refl _⟩, trivial⟩
  have HNM : Hid (x.mat.length = sm.n) := Lib.hid (by have := h.mat.len; simpa using this)
  have HNP : Hid (x.prod.length = sp.n) := Lib.hid (by have := h.prod.len; simpa using this)
  have HM6 : Hid (sm.n ≤ 1000000) := Lib.hid (by rw [← HNM.out]; exact Nat.le_trans ho.nmat (by decide))
  have HP6 : Hid (sp.n ≤ 1000000) := Lib.hid (by rw [← HNP.out]; exact Nat.le_trans ho.nprod (by decide))
  have HOM := Lib.hid (ents_len ho.mat)
  have HOP := Lib.hid (ents_len ho.prod)
  clear h ho hB
  have hzr := zero_link
  go_enter Tryd.func5, Tryd.ntmps5
  go_upto_region 1 with (fail)
  refine wp_gen ((hR.new (l := recC x sc se sm sp) _ 26 rfl rfl).new (l := linkZ) linkZ.toArray 31 (g := w.heap.size + 1) (by simp) rfl) ?_
  intro W hW
  clear hR hzr
  refine wp_region_hops 8 [3, 4, 5, 6, 7, 8, 9, 10] [.cells (w.heap.size + 1) 31 linkZ, .cells w.heap.size 26 (recC x sc se sm sp), .low (Go.AdR.Low.recd B x sc se sm sp), .kept w w.heap.size]
    [.eq (.pointer (some ⟨w.heap.size, 2, none⟩)), .eq (.string x.step), .eq (.pointer (some ⟨w.heap.size, 6, none⟩)), .eq (.slice sm.A sm.n sm.c), .own (w.heap.size + 2) 53 33 sm.n (x.mat.map entC).flatten, .eq (.pointer (some ⟨w.heap.size, 7, none⟩)), .eq (.slice sp.A sp.n sp.c), .own (w.heap.size + 2) 53 33 sp.n (x.prod.map entC).flatten]
    (by kernel_rfl) (by kernel_rfl) hW rfl ?hops ?fin
  case hops =>
    refine ⟨?_, ?_, ?_, ?_, ?_, ?_, ?_, ?_, trivial⟩
    · intro a' W hW hb hd K hK
      have b1 := hb 1 rfl
      go_simp
      exact hK _ _ (World.grownBy.refl _ _) rfl
    · intro a' W hW hb hd K hK
      have b3 : a'.tmps[3]?.getD undef = _ := hd ⟨0, .data⟩ (by simp) rfl
      have cc := cell_of (hW.at_ 1 rfl) (i := 2) rfl
      go_simp
      exact hK _ _ (World.grownBy.refl _ _) rfl
    · intro a' W hW hb hd K hK
      have b1 := hb 1 rfl
      go_simp
      exact hK _ _ (World.grownBy.refl _ _) rfl
    · intro a' W hW hb hd K hK
      have b5 : a'.tmps[5]?.getD undef = _ := hd ⟨2, .data⟩ (by simp) rfl
      have cc := cell_of (hW.at_ 1 rfl) (i := 6) rfl
      go_simp
      exact hK _ _ (World.grownBy.refl _ _) rfl
    · intro a' W hW hb hd K hK
      have b6 : a'.tmps[6]?.getD undef = _ := hd ⟨3, .data⟩ (by simp) rfl
      have hin := (hW.at_ 2 rfl : RecIn W B x sc se sm sp ∧ B ≤ W.heap.size)
      have hl := Cells.lt (hW.at_ 0 rfl)
      go_simp
      refine (CloneE_any W B sm.A sm.n sm.c x.mat hin.1.mat HNM.out HM6.out hin.2).mono ?_
      rintro e w' ⟨A', c', rfl, hb', hown⟩
      exact hK _ _ (grown_of_below hb') ⟨by have := hb'.size; omega, A', c', rfl, hown.less (by omega)⟩
    · intro a' W hW hb hd K hK
      have b1 := hb 1 rfl
      go_simp
      exact hK _ _ (World.grownBy.refl _ _) rfl
    · intro a' W hW hb hd K hK
      have b8 : a'.tmps[8]?.getD undef = _ := hd ⟨5, .data⟩ (by simp) rfl
      have cc := cell_of (hW.at_ 1 rfl) (i := 7) rfl
      go_simp
      exact hK _ _ (World.grownBy.refl _ _) rfl
    · intro a' W hW hb hd K hK
      have b9 : a'.tmps[9]?.getD undef = _ := hd ⟨6, .data⟩ (by simp) rfl
      have hin := (hW.at_ 2 rfl : RecIn W B x sc se sm sp ∧ B ≤ W.heap.size)
      have hl := Cells.lt (hW.at_ 0 rfl)
      go_simp
      refine (CloneE_any W B sp.A sp.n sp.c x.prod hin.1.prod HNP.out HP6.out hin.2).mono ?_
      rintro e w' ⟨A', c', rfl, hb', hown⟩
      exact hK _ _ (grown_of_below hb') ⟨by have := hb'.size; omega, A', c', rfl, hown.less (by omega)⟩
  case fin =>
    intro vs V hV hv
    have e1 : vs 1 = _ := hv 1 (by decide)
    obtain ⟨-, A4, c4, e4, ho4⟩ : _ ∧ ∃ A c, vs 4 = .slice A sm.n c ∧ Go.Adm.Own V (w.heap.size + 2) 53 33 A sm.n c (x.mat.map entC).flatten := hv 4 (by decide)
    obtain ⟨-, A7, c7, e7, ho7⟩ : _ ∧ ∃ A c, vs 7 = .slice A sp.n c ∧ Go.Adm.Own V (w.heap.size + 2) 53 33 A sp.n c (x.prod.map entC).flatten := hv 7 (by decide)
    clear hv hW
    simp only [putAll, Nat.zero_add, Nat.reduceAdd, List.drop_succ_cons, List.drop_zero, e1, e4, e7, Act.put, List.setIfInBounds_toArray, List.set_cons_succ, List.set_cons_zero]
    clear e1 e4 e7
    have hV2 : All V [.own (w.heap.size + 2) 53 33 A4 sm.n c4 (x.mat.map entC).flatten, .own (w.heap.size + 2) 53 33 A7 sp.n c7 (x.prod.map entC).flatten, .cells (w.heap.size + 1) 31 linkZ, .kept w w.heap.size] := ⟨ho4, ho7, hV.1, hV.2.2.2⟩
    clear hV ho4 ho7
    go_wp2_with (first
      | (refine wl_build rfl 31 [(0, .tmp 4), (1, .tmp 7), (2, .tmp 10)] rfl _ _ #[(0, 1), (1, 1), (2, 1)] #[.string x.step, .slice A4 sm.n c4, .slice A7 sp.n c7] zero_link Tryd.underlying31 (fun w => by kernel_rfl) ?_ ?_; exact fill_link x.step _ _ rfl rfl)
      | (refine wl_store_at hV2 2 rfl 31 (.tmp 2) (.tmp 11) rfl (w.heap.size + 1) _ linkZ [.string x.step, .slice A4 sm.n c4, .slice A7 sp.n c7] rfl rfl rfl rfl (by kernel_rfl) (lnkC_one x.step ⟨A4, sm.n, c4⟩ ⟨A7, sp.n, c7⟩) ⟨fun g e => .inr (by injection e with e; subst e; exact own_ne_cells (hV2.at_ 0 rfl) (hV2.at_ 2 rfl) (by decide)), fun g e => .inr (by injection e with e; subst e; exact own_ne_cells (hV2.at_ 1 rfl) (hV2.at_ 2 rfl) (by decide)), fun g e => by injection e with e; omega, trivial⟩ ?_; intro w4 hW4 hs4))
    simp only [List.set_cons_succ, List.set_cons_zero] at hW4
    have hc4 : Cells w4 (w.heap.size + 1) 31 [.string x.step, .slice A4 sm.n c4, .slice A7 sp.n c7] := hW4.at_ 2 rfl
    refine bodyPost_ret (results_cell_row rfl _ _ (w.heap.size + 1) 31 #[Value.string x.step, Value.slice A4 sm.n c4, Value.slice A7 sp.n c7] (0, 0) _ rfl hc4 Tryd.underlying31 rfl (by kernel_rfl)) rfl ?_
    exact ⟨⟨A4, sm.n, c4⟩, ⟨A7, sp.n, c7⟩, rfl, rfl, rfl, (hW4.at_ 3 rfl : _ ∧ _).1, Els.of (hW4.at_ 0 rfl) HOM.out (by rw [List.length_map]; exact HNM.out), Els.of (hW4.at_ 1 rfl) HOP.out (by rw [List.length_map]; exact HNP.out)⟩
set_option maxHeartbeats 1600000 in
theorem rLink_any (w : World) (x : Rec) (sc se sm sp : Sl) :
    Calls Tryd.prog 8 #[.agg (recC x sc se sm sp).toArray] w fun e w' => e = .returned (.agg (lnkC x.step sm sp).toArray) ∧ Below w.heap.size w w' := by
  have hR : All w [.kept w w.heap.size] := ⟨⟨Below.refl _ _, Nat.le_refl _⟩, trivial⟩
  have hzr := zero_link
  go_enter Tryd.func8, Tryd.ntmps8
  go_upto_region 1 with (fail)
  refine wp_gen ((hR.new (l := recC x sc se sm sp) _ 26 rfl rfl).new (l := linkZ) linkZ.toArray 31 (g := w.heap.size + 1) (by simp) rfl) ?_
  intro W hW
  clear hR hzr
  have c2 := cell_of (hW.at_ 1 rfl) (i := 2) rfl
  have c6 := cell_of (hW.at_ 1 rfl) (i := 6) rfl
  have c7 := cell_of (hW.at_ 1 rfl) (i := 7) rfl
  go_wp2_with (first
    | (refine wl_build rfl 31 [(0, .tmp 4), (1, .tmp 6), (2, .tmp 8)] rfl _ _ #[(0, 1), (1, 1), (2, 1)] #[.string x.step, .slice sm.A sm.n sm.c, .slice sp.A sp.n sp.c] zero_link Tryd.underlying31 (fun w => by kernel_rfl) ?_ ?_; exact fill_link x.step _ _ rfl rfl)
    | (refine wl_store_at hW 0 rfl 31 (.tmp 2) (.tmp 9) rfl (w.heap.size + 1) _ linkZ [.string x.step, .slice sm.A sm.n sm.c, .slice sp.A sp.n sp.c] rfl rfl rfl rfl (by kernel_rfl) (lnkC_one x.step sm sp) ⟨fun e => by injection e with e; omega, fun g e => by injection e with e; omega, trivial⟩ ?_; intro w4 hW4 hs4))
  simp only [List.set_cons_zero] at hW4
  have hc4 : Cells w4 (w.heap.size + 1) 31 [.string x.step, .slice sm.A sm.n sm.c, .slice sp.A sp.n sp.c] := hW4.at_ 0 rfl
  refine bodyPost_ret (results_cell_row rfl _ _ (w.heap.size + 1) 31 #[Value.string x.step, Value.slice sm.A sm.n sm.c, Value.slice sp.A sp.n sp.c] (0, 0) _ rfl hc4 Tryd.underlying31 rfl (by kernel_rfl)) rfl ?_
  exact ⟨rfl, (hW4.at_ 2 rfl : _ ∧ _).1⟩
theorem ResPost.back {α : Type} {f : α → List Value} {size : Nat} {r : List α} {err : Int} {tid : TypeId} {w W : World} {e : Ending} {w' : World} (h : ResPost f size r err tid W e w') (hk : Below w.heap.size w W) : ResPost f size r err tid w e w' := by
  obtain ⟨A, c, h1, h2, h3⟩ := h
  exact ⟨A, c, h1, h2.less hk.size, hk.trans (h3.mono hk.size)⟩
set_option maxHeartbeats 1600000 in
theorem Changes_any (w : World) (B : Nat) (s : ByteArray) (sa sb : Sl) (a b : List E) (h1 : Els w B 33 sa.A sa.n (a.map entC)) (h2 : Els w B 33 sb.A sb.n (b.map entC)) (ha : ∀ e ∈ a, E32 e) (hb : ∀ e ∈ b, E32 e) (e1 : a.length = sa.n) (e2 : b.length = sb.n) (hn1 : sa.n ≤ 400000) (hn2 : sb.n ≤ 400000) (hB : B ≤ w.heap.size) :
    Calls Tryd.prog 6 #[.agg (lnkC s sa sb).toArray] w (ResPost chgC 65 (pDiff a b).1 (pDiff a b).2 60 w) := by
  have hR : All w [.low (.els B 33 sa.A sa.n (a.map entC)), .low (.els B 33 sb.A sb.n (b.map entC)), .kept w w.heap.size] := ⟨⟨h1, hB⟩, ⟨h2, hB⟩, ⟨Below.refl _ _, Nat.le_refl _⟩, trivial⟩
  have HD : Hid (∀ W, All W [.low (.els B 33 sa.A sa.n (a.map entC)), .low (.els B 33 sb.A sb.n (b.map entC)), .kept w w.heap.size] → Calls Tryd.prog 19 #[.slice sa.A sa.n sa.c, .slice sb.A sb.n sb.c] W (ResPost chgC 65 (pDiff a b).1 (pDiff a b).2 60 W)) := Lib.hid (fun W hW => Diff_any W B sa.A sb.A sa.n sa.c sb.n sb.c a b (hW.at_ 0 rfl : _ ∧ _).1 (hW.at_ 1 rfl : _ ∧ _).1 ha hb e1 e2 hn1 hn2 (hW.at_ 0 rfl : _ ∧ _).2)
  clear h1 h2 ha hb e1 e2 hn1 hn2 hB
  generalize (pDiff a b).1 = r at *
  generalize (pDiff a b).2 = er at *
  go_enter Tryd.func6, Tryd.ntmps6
  go_upto_region 1 with (fail)
  refine wp_gen (hR.new (l := lnkC s sa sb) _ 31 rfl rfl) ?_
  intro W hW
  clear hR
  have c1 := cell_of (hW.at_ 0 rfl) (i := 1) rfl
  have c2 := cell_of (hW.at_ 0 rfl) (i := 2) rfl
  have hk := (hW.at_ 3 rfl : _ ∧ _).1
  have hd := HD.out W hW.2
  clear HD
  go_wp2_with (go_at_call 19; refine hd.mono ?_; clear hd; rintro e w3 ⟨A3, c3, rfl, ho3, hb3⟩)
  go_ret2
  exact ResPost.back ⟨A3, c3, rfl, ho3, hb3⟩ hk
set_option maxHeartbeats 1600000 in
theorem rChanges_any (w : World) (m : Int) (hm : w.cell? ⟨0, 0, none⟩ = some (.int .i64 m)) (B : Nat) (s : ByteArray) (sa sb : Sl) (a b : List E) (h1 : Els w B 33 sa.A sa.n (a.map entC)) (h2 : Els w B 33 sb.A sb.n (b.map entC)) (ha : ∀ e ∈ a, E32 e) (hb : ∀ e ∈ b, E32 e) (e1 : a.length = sa.n) (e2 : b.length = sb.n) (hn1 : sa.n ≤ 400000) (hn2 : sb.n ≤ 400000) (hB : B ≤ w.heap.size) :
    Calls Tryd.prog 7 #[.agg (lnkC s sa sb).toArray] w (ResPost chgC 65 (pDiff a b).1 (pDiff a b).2 60 w) := by
  have hgm : 0 < w.heap.size := World.block_lt_of_cell? w _ hm
  have hR : All w [.low (.els B 33 sa.A sa.n (a.map entC)), .low (.els B 33 sb.A sb.n (b.map entC)), .kept w w.heap.size] := ⟨⟨h1, hB⟩, ⟨h2, hB⟩, ⟨Below.refl _ _, Nat.le_refl _⟩, trivial⟩
  have HD : Hid (∀ W, All W [.low (.els B 33 sa.A sa.n (a.map entC)), .low (.els B 33 sb.A sb.n (b.map entC)), .kept w w.heap.size] → Calls Tryd.prog 20 #[.slice sa.A sa.n sa.c, .slice sb.A sb.n sb.c] W (ResPost chgC 65 (pDiff a b).1 (pDiff a b).2 60 W)) := Lib.hid (fun W hW => by
    have := refDiff_any W m (((hW.at_ 2 rfl : _ ∧ _).1.cell hgm).trans hm) B sa.A sb.A sa.n sa.c sb.n sb.c a b (hW.at_ 0 rfl : _ ∧ _).1 (hW.at_ 1 rfl : _ ∧ _).1 ha hb e1 e2 hn1 hn2 (hW.at_ 0 rfl : _ ∧ _).2
    rwa [pDiff_eq] at this)
  clear h1 h2 ha hb e1 e2 hn1 hn2 hB
  generalize (pDiff a b).1 = r at *
  generalize (pDiff a b).2 = er at *
  go_enter Tryd.func7, Tryd.ntmps7
  go_upto_region 1 with (fail)
  refine wp_gen (hR.new (l := lnkC s sa sb) _ 31 rfl rfl) ?_
  intro W hW
  clear hR
  have c1 := cell_of (hW.at_ 0 rfl) (i := 1) rfl
  have c2 := cell_of (hW.at_ 0 rfl) (i := 2) rfl
  have hk := (hW.at_ 3 rfl : _ ∧ _).1
  have hd := HD.out W hW.2
  clear HD
  go_wp2_with (go_at_call 20; refine hd.mono ?_; clear hd; rintro e w3 ⟨A3, c3, rfl, ho3, hb3⟩)
  go_ret2
  exact ResPost.back ⟨A3, c3, rfl, ho3, hb3⟩ hk
set_option maxHeartbeats 1600000 in
theorem SameLink_true (w : World) (B : Nat) (s : ByteArray) (sa sb sm sp : Sl) (a b : List E) (h1 : Els w B 33 sa.A sa.n (a.map entC)) (h2 : Els w B 33 sb.A sb.n (b.map entC)) (h3 : Els w B 33 sm.A sa.n (a.map entC)) (h4 : Els w B 33 sp.A sb.n (b.map entC)) (hm : sm.n = sa.n) (hp : sp.n = sb.n) (ha : ∀ e ∈ a, E32 e) (hb : ∀ e ∈ b, E32 e) (e1 : a.length = sa.n) (e2 : b.length = sb.n) (hn1 : sa.n ≤ 400000) (hn2 : sb.n ≤ 400000) (hB : B ≤ w.heap.size) :
    Calls Tryd.prog 9 #[.agg (lnkC s sa sb).toArray, .agg (lnkC s sm sp).toArray] w fun e w' => e = .returned (.bool true) ∧ Below w.heap.size w w' := by
  obtain ⟨mA, mn, mc⟩ := sm
  obtain ⟨pA, pn, pc⟩ := sp
  simp only at hm hp h3 h4
  subst hm hp
  have hR : All w [.low (.els B 33 sa.A sa.n (a.map entC)), .low (.els B 33 sb.A sb.n (b.map entC)), .low (.els B 33 mA sa.n (a.map entC)), .low (.els B 33 pA sb.n (b.map entC)), .kept w w.heap.size] := ⟨⟨h1, hB⟩, ⟨h2, hB⟩, ⟨h3, hB⟩, ⟨h4, hB⟩, ⟨Below.refl _ _, Nat.le_refl _⟩, trivial⟩
  have HS1 : Hid (∀ W, All W [.low (.els B 33 sa.A sa.n (a.map entC)), .low (.els B 33 sb.A sb.n (b.map entC)), .low (.els B 33 mA sa.n (a.map entC)), .low (.els B 33 pA sb.n (b.map entC)), .kept w w.heap.size] → Calls Tryd.prog 12 #[.slice sa.A sa.n sa.c, .slice mA sa.n mc] W fun e w' => e = .returned (.bool true) ∧ Below W.heap.size W w') := Lib.hid (fun W hW => Same_true W B sa.A mA sa.n sa.c mc a (hW.at_ 0 rfl : _ ∧ _).1 (hW.at_ 2 rfl : _ ∧ _).1 ha e1 (by omega) (hW.at_ 0 rfl : _ ∧ _).2)
  have HS2 : Hid (∀ W, All W [.low (.els B 33 sa.A sa.n (a.map entC)), .low (.els B 33 sb.A sb.n (b.map entC)), .low (.els B 33 mA sa.n (a.map entC)), .low (.els B 33 pA sb.n (b.map entC)), .kept w w.heap.size] → Calls Tryd.prog 12 #[.slice sb.A sb.n sb.c, .slice pA sb.n pc] W fun e w' => e = .returned (.bool true) ∧ Below W.heap.size W w') := Lib.hid (fun W hW => Same_true W B sb.A pA sb.n sb.c pc b (hW.at_ 1 rfl : _ ∧ _).1 (hW.at_ 3 rfl : _ ∧ _).1 hb e2 (by omega) (hW.at_ 0 rfl : _ ∧ _).2)
  clear h1 h2 h3 h4 ha hb e1 e2 hn1 hn2 hB
  go_enter Tryd.func9, Tryd.ntmps9
  go_upto_region 1 with (fail)
  refine wp_gen ((hR.new (l := lnkC s sa sb) _ 31 rfl rfl).new (l := lnkC s ⟨mA, sa.n, mc⟩ ⟨pA, sb.n, pc⟩) _ 31 (g := w.heap.size + 1) (by simp) rfl) ?_
  intro W hW
  clear hR
  have p0 := cell_of (hW.at_ 0 rfl) (i := 0) rfl
  have p1 := cell_of (hW.at_ 0 rfl) (i := 1) rfl
  have p2 := cell_of (hW.at_ 0 rfl) (i := 2) rfl
  have q0 := cell_of (hW.at_ 1 rfl) (i := 0) rfl
  have q1 := cell_of (hW.at_ 1 rfl) (i := 1) rfl
  have q2 := cell_of (hW.at_ 1 rfl) (i := 2) rfl
  have hs1 := HS1.out W hW.2.2
  clear HS1
  go_wp2_with (first
    | (go_at_call 12; have z9 := hs1; clear z9; refine hs1.mono ?_; clear hs1; rintro e w3 ⟨rfl, hb3⟩; have hW3 := hW.call hb3; have hs2 := HS2.out w3 hW3.2.2; have p2 := cell_of (hW3.at_ 0 rfl) (i := 2) rfl; have q2 := cell_of (hW3.at_ 1 rfl) (i := 2) rfl; clear HS2)
    | (go_at_call 12; refine hs2.mono ?_; clear hs2; rintro e w4 ⟨rfl, hb4⟩; have hW4 := hW3.call hb4))
  go_ret
  exact ⟨ret_bool (by simp), (hW4.at_ 6 rfl : _ ∧ _).1⟩
end Go.Proofs.YtmiohkfhmaklgaaDoor

/- insert and put of the reference. -/
import Derived.Test.YtipepcjiogifaaaDoorRef3
import Derived.Test.YtipepcjiogifaaaDoorFreeL
import Derived.Test.YtipepcjiogifaaaDoorTapA
set_option linter.unusedSimpArgs false
set_option linter.unusedVariables false
set_option maxRecDepth 100000
namespace Go.Adm
open Go Go.RowKit
theorem putK_at {α K : Type} [DecidableEq K] {lt : K → K → Bool} (key : α → K) : ∀ (l : List α) (x : α) (k : Nat), k ≤ l.length → (∀ j (hj : j < l.length), j < k → lt (key l[j]) (key x) = true) → (∀ (h : k < l.length), lt (key l[k]) (key x) = false) → putK lt key l x = l.take k ++ x :: l.drop k
  | [], x, k, hk, _, _ => by
    obtain rfl : k = 0 := by simpa using hk
    simp [putK]
  | y :: l, x, 0, _, _, h => by
    have h0 : lt (key y) (key x) = false := h (by simp)
    rw [putK_cons, if_neg (by rw [h0]; decide)]
    rfl
  | y :: l, x, k + 1, hk, h1, h => by
    have h0 : lt (key y) (key x) = true := h1 0 (by simp) (by omega)
    rw [putK_cons, if_pos h0, putK_at key l x k (by simpa using hk) (fun j hj h2 => h1 (j + 1) (by simpa using hj) (by omega)) (fun h3 => h (by simpa using h3))]
    rfl
/-- the tail of insert: an own row, one element appended, then a cut -/
def JP (Φ : Nat → Value → Prop) (I O0 : World → Prop) (R2 O3 O7 : Value → World → Prop) (L : Nat → Bool) (vs : Nat → Value) (W : World) : Prop :=
  (∀ j, L j = true → Φ j (vs j)) ∧ I W ∧ (L 3 = false → O0 W) ∧ (L 2 = true → L 3 = false → R2 (vs 2) W) ∧ (L 3 = true → L 7 = false → O3 (vs 3) W) ∧ (L 7 = true → O7 (vs 7) W) ∧ (L 8 = true → L 7 = true ∧ vs 8 = vs 7)
section
variable {Φ : Nat → Value → Prop} {I O0 : World → Prop} {R2 O3 O7 : Value → World → Prop} {L : Nat → Bool} {vs : Nat → Value} {W W' : World} {v : Value}
theorem JP.start (hI : I W) (h0 : O0 W) : JP Φ I O0 R2 O3 O7 (fun _ => false) (fun _ => undef) W := by
  unfold JP
  exact ⟨fun j h => (Bool.false_ne_true h).elim, hI, fun _ => h0, fun h => (Bool.false_ne_true h).elim, fun h => (Bool.false_ne_true h).elim, fun h => (Bool.false_ne_true h).elim, fun h => (Bool.false_ne_true h).elim⟩
theorem JP.phi (h : ∀ j, L j = true → Φ j (vs j)) (k : Nat) (hv : Φ k v) : ∀ j, Go.Adm.mark L k j = true → Φ j (if j = k then v else vs j) := fun j hj => by
  unfold Go.Adm.mark at hj
  by_cases e : j = k
  · rw [if_pos e, e]; exact hv
  · rw [if_neg e] at hj ⊢; exact h j hj
theorem JP.quiet (h : JP Φ I O0 R2 O3 O7 L vs W) (k : Nat) (h2 : k ≠ 2) (h3 : k ≠ 3) (h7 : k ≠ 7) (h8 : k ≠ 8) (hk : L k = false) (hv : Φ k v) : JP Φ I O0 R2 O3 O7 (Go.Adm.mark L k) (fun i => if i = k then v else vs i) W := by
  obtain ⟨a, b, c, d, e, f, g⟩ := h
  unfold JP
  refine ⟨JP.phi a k hv, b, ?_⟩
  simp only [Go.Adm.mark, if_neg (Ne.symm h2), if_neg (Ne.symm h3), if_neg (Ne.symm h7), if_neg (Ne.symm h8)]
  exact ⟨c, d, e, f, g⟩
theorem JP.step2 (h : JP Φ I O0 R2 O3 O7 L vs W) (hI : I W') (h0 : O0 W → O0 W') (h3 : ∀ v, O3 v W → O3 v W') (h7 : ∀ v, O7 v W → O7 v W') (hv : Φ 2 v) (hr : R2 v W') : JP Φ I O0 R2 O3 O7 (Go.Adm.mark L 2) (fun i => if i = 2 then v else vs i) W' := by
  obtain ⟨a, b, c, d, e, f, g⟩ := h
  unfold JP
  refine ⟨JP.phi a 2 hv, hI, ?_⟩
  simp only [Go.Adm.mark, Nat.reduceEqDiff, if_false, if_true]
  exact ⟨fun h => h0 (c h), fun _ _ => hr, fun h h' => h3 _ (e h h'), fun h => h7 _ (f h), g⟩
theorem JP.step3 (h : JP Φ I O0 R2 O3 O7 L vs W) (hI : I W') (h7 : L 7 = false) (hv : Φ 3 v) (hr : O3 v W') : JP Φ I O0 R2 O3 O7 (Go.Adm.mark L 3) (fun i => if i = 3 then v else vs i) W' := by
  obtain ⟨a, b, c, d, e, f, g⟩ := h
  unfold JP
  refine ⟨JP.phi a 3 hv, hI, ?_⟩
  simp only [Go.Adm.mark, Nat.reduceEqDiff, if_false, if_true]
  exact ⟨fun h => (Bool.false_ne_true h.symm).elim, fun _ h => (Bool.false_ne_true h.symm).elim, fun _ _ => hr, fun h => absurd (h7.symm.trans h) (by decide), g⟩
theorem JP.step7 (h : JP Φ I O0 R2 O3 O7 L vs W) (hI : I W') (h3 : L 3 = true) (h7 : L 7 = false) (hv : Φ 7 v) (hr : O7 v W') : JP Φ I O0 R2 O3 O7 (Go.Adm.mark L 7) (fun i => if i = 7 then v else vs i) W' := by
  obtain ⟨a, b, c, d, e, f, g⟩ := h
  unfold JP
  refine ⟨JP.phi a 7 hv, hI, ?_⟩
  simp only [Go.Adm.mark, Nat.reduceEqDiff, if_false, if_true]
  exact ⟨fun h => absurd (h3.symm.trans h) (by decide), fun _ h => absurd (h3.symm.trans h) (by decide), fun _ h => (Bool.false_ne_true h.symm).elim, fun _ => hr, fun h => absurd (h7.symm.trans (g h).1) (by decide)⟩
theorem JP.step8 (h : JP Φ I O0 R2 O3 O7 L vs W) (h7 : L 7 = true) (hv : Φ 8 (vs 7)) : JP Φ I O0 R2 O3 O7 (Go.Adm.mark L 8) (fun i => if i = 8 then vs 7 else vs i) W := by
  obtain ⟨a, b, c, d, e, f, g⟩ := h
  unfold JP
  refine ⟨JP.phi a 8 hv, b, ?_⟩
  simp only [Go.Adm.mark, Nat.reduceEqDiff, if_false, if_true]
  exact ⟨c, d, e, f, fun _ => ⟨h7, trivial⟩⟩
end
end Go.Adm
namespace Go.Proofs.YtipepcjiogifaaaDoor
open Go Go.RowKit Go.Adm

set_option maxHeartbeats 3200000 in
theorem insert_any (w : World) (B : Nat) (A : Option Addr) (n c : Nat) (l : List E) (x : E) (hl : Els w B 33 A n (l.map entC)) (h32 : ∀ e ∈ l, E32 e) (hx : E32 x) (hn : l.length = n) (hn2 : n ≤ 1000000) (hnc : n ≤ c) (hB : B ≤ w.heap.size) :
    Calls Tryd.prog 30 #[.slice A n c, .agg (entC x).toArray] w (OwnPost entC 33 (putK blt Ent.p l x) 50 w) := by
  have hR : All w [.low (.els B 33 A n (l.map entC)), .kept w w.heap.size] := ⟨⟨hl, hB⟩, ⟨Below.refl _ _, Nat.le_refl _⟩, trivial⟩
  have HN := Lib.hid hn
  have H32 := Lib.hid h32
  have HXX := Lib.hid hx
  have HNC := Lib.hid hnc
  have HLEN : Hid (∀ x ∈ l, (entC x).length = 33) := Lib.hid fun x hx => entC_len (h32 x hx)
  have HONE : Hid (∀ l' : List E, ∀ u ∈ (l'.map entC).flatten, u.oneCell' = true) := Lib.hid fun l' u hu => by
    obtain ⟨es, he, hu⟩ := List.mem_flatten.1 hu
    obtain ⟨y, _, rfl⟩ := List.mem_map.1 he
    exact entC_one y u hu
  have HAP : Hid (∀ (W : World) (A0 : Option Addr) (m c0 : Nat) (xs : List Value), Go.Adm.Own W (w.heap.size + 1) 50 33 A0 m c0 xs → Apart (Value.slice A0 m c0).ownBlock [.cells w.heap.size 50 (entC x), .low (.els B 33 A n (l.map entC)), .kept w w.heap.size]) := Lib.hid fun W A0 m c0 xs ho => by
    cases hq : (Value.slice A0 m c0).ownBlock with
    | none => exact Apart.none _
    | some g =>
      have hg := (ho.lt hq).1
      exact ⟨fun e => by injection e with e; omega, fun g' e => by injection e with e; have := hB; simp only [Low.els]; omega, fun g' e => by injection e with e; omega, trivial⟩
  have hR1 : All (w.alloc (.cells (entC x).toArray 50)) (.own (w.heap.size + 1) 50 33 none 0 0 (((l.take 0).map entC).flatten) :: [.cells w.heap.size 50 (entC x), .low (.els B 33 A n (l.map entC)), .kept w w.heap.size]) := ⟨Go.Adm.Own.nil _ _ _ _, hR.new (l := entC x) _ _ rfl rfl⟩
  clear hl h32 hn hx hR hnc
  have hs1 : w.heap.size + 1 ≤ (w.alloc (.cells (entC x).toArray 50)).heap.size := by simp
  go_enter Tryd.func30, Tryd.ntmps30
  go_upto_region 1 with (fail)
  refine wp_genP (Pr := fun W => All W (.own (w.heap.size + 1) 50 33 none 0 0 (((l.take 0).map entC).flatten) :: [.cells w.heap.size 50 (entC x), .low (.els B 33 A n (l.map entC)), .kept w w.heap.size]) ∧ w.heap.size + 1 ≤ W.heap.size) ⟨hR1, hs1⟩ ?_
  clear hR1 hs1
  rintro W1 ⟨hI0, hs0⟩
  go_wp2
  go_loopw [5, 6] (fun v i wr => ∃ (k : Nat) (A' : Option Addr) (c' : Nat), k ≤ n ∧ i = .int .i64 k ∧ v = .slice A' k c' ∧ (w.heap.size + 1) ≤ wr.heap.size ∧ (∀ j (hj : j < l.length), j < k → blt (Ent.p l[j]) (Ent.p x) = true) ∧ All wr (.own (w.heap.size + 1) 50 33 A' k c' (((l.take k).map entC).flatten) :: [.cells w.heap.size 50 (entC x), .low (.els B 33 A n (l.map entC)), .kept w w.heap.size])) (fun _ i _ => n - (intOf i).toNat)
  case atStart => exact ⟨0, none, 0, by omega, rfl, rfl, hs0, fun _ _ h => absurd h (by omega), hI0⟩
  case round =>
    obtain ⟨k, A', c', hk, rfl, rfl, hsr, hall, hI⟩ := hrel
    have Hall := Lib.hid hall
    clear hI0 hs0 hall
    have c1 : wr.cell? ⟨w.heap.size, 0, none⟩ = some (.string x.p) := by
      have := Cells.cell (hI.at_ 1 rfl) (i := 0) (by rw [entC_len HXX.out]; decide)
      exact this
    by_cases hlt : k < n
    · have hkl : k < l.length := by rw [HN.out]; exact hlt
      obtain ⟨ad, rfl, hadB, hc⟩ := Els.elem (hI.at_ 2 rfl : Els wr B 33 A n (l.map entC) ∧ B ≤ wr.heap.size).1 hkl
      have HC := Lib.hid hc
      have hy := Lib.hid (H32.out _ (List.getElem_mem hkl))
      have HM : Hid (blt (Ent.p l[k]) (Ent.p x) = true → ∀ j (hj : j < l.length), j < k + 1 → blt (Ent.p l[j]) (Ent.p x) = true) := Lib.hid (fun h j hj h2 => by
        rcases Nat.lt_succ_iff_lt_or_eq.1 h2 with h4 | h4
        · exact Hall.out j hj h4
        · subst h4; exact h)
      have HPUT' : Hid (blt (Ent.p l[k]) (Ent.p x) = false → putK blt Ent.p l x = l.take k ++ x :: l.drop k) := Lib.hid (fun h => putK_at Ent.p l x k (by omega) (fun j hj h2 => Hall.out j hj h2) (fun _ => h))
      have HT : Hid (l.take (k + 1) = l.take k ++ [l[k]]) := Lib.hid (List.take_succ_eq_append_getElem hkl)
      clear hc
      generalize l[k] = y at *
      have c0 : wr.cell? (ad.add (k * 33)) = some (.string y.p) := by have := HC.out 0 (sv y.p) rfl; rwa [add_zero] at this
      have d1 : decide ((k : Int) < (n : Int)) = true := by simp; omega
      have wk0 : (0 : Int) ≤ (k : Int) := by omega
      have wk1 : (k : Int) < (n : Int) := by omega
      have wk2 : ((k : Int)).toNat = k := by omega
      go_upto_region 3 with (fail)
      cases hb : Op.bytesLess y.p.toList x.p.toList with
      | true =>
        have hm := Lib.hid (HM.out hb)
        go_quiet (fail)
        clear hb c0 c1
        have hI1 := hI.drewN nq
        have hsr1 : (w.heap.size + 1) ≤ (wr.drewN nq).heap.size := hsr
        have HC1 : Hid (∀ j u, (entC y)[j]? = some u → (wr.drewN nq).cell? ((ad.add (k * 33)).add j) = some u) := HC
        generalize wr.drewN nq = wq at *
        go_wp2_with (first
          | (refine wl_load_any rfl 50 (.tmp 24) rfl (ad.add (k * 33)) rfl (entC y) _ HC1.out Tryd.underlying50 rfl (by rw [entC_len hy.out]; kernel_rfl) ?_)
          | (refine wl_lit1 el_ent rfl _ rfl (entC y) rfl (entC_len hy.out) (by decide) ?_)
          | (at_builtin; refine wl_app_at el_ent (hI1.alloc _) 0 rfl (.tmp 21) (.tmp 26) rfl (w.heap.size + 1) _ _ _ _ rfl rfl (wq.heap.size + 1) _ 1 1 (entC y) rfl (Rd.lit wq (entC y).toArray _ 1 (by rw [List.size_toArray]; exact entC_len hy.out)) (entC_one _) (by omega) (by simp; omega) (by intro g hg h; simp [Apart, Res.apart, Low.els] <;> omega) ?_; intro A7 c7 w7 hI7 hs7))
        refine ⟨⟨k + 1, A7, c7, by omega, by go_num, rfl, by simp at hs7; omega, hm.out, ?_⟩, by simp [intOf]; omega⟩
        rw [HT.out, List.map_append, List.flatten_append]
        simpa using hI7
      | false =>
        have HPUT := Lib.hid (HPUT'.out hb)
        go_quiet (fail)
        clear hb c0 c1
        replace hI := hI.drewN nq
        replace hsr : (w.heap.size + 1) ≤ (wr.drewN nq).heap.size := hsr
        have HI := hI
        clear HC
        generalize wr.drewN nq = wq at *
        go_upto_region 6 with (fail)
        refine wp_region_came [30, 31, 32, 33, 34, 35, 36, 37, 4]
          (JP (fun j v => match j with
              | 0 => v = .slice A' k c'
              | 1 => v = .agg (entC x).toArray
              | 4 => v = .slice (some ad) n c
              | 5 => v = .int .i64 (k : Int)
              | 6 => ∃ A6 c6, v = .slice A6 (n - k) c6 ∧ ∀ W, All W [.cells w.heap.size 50 (entC x), .low (.els B 33 (some ad) n (l.map entC)), .kept w w.heap.size] → Rd W B 33 A6 (n - k) (((l.drop k).map entC).flatten)
              | _ => True)
            (fun W => All W [.cells w.heap.size 50 (entC x), .low (.els B 33 (some ad) n (l.map entC)), .kept w w.heap.size] ∧ (w.heap.size + 1) ≤ W.heap.size)
            (fun W => Go.Adm.Own W (w.heap.size + 1) 50 33 A' k c' (((l.take k).map entC).flatten))
            (fun v W => ∃ A9 c9, v = .slice A9 1 c9 ∧ Rd W W.heap.size 33 A9 1 (entC x))
            (fun v W => ∃ A3 c3, v = .slice A3 (k + 1) c3 ∧ Go.Adm.Own W (w.heap.size + 1) 50 33 A3 (k + 1) c3 ((((l.take k).map entC).flatten) ++ entC x))
            (fun v W => ∃ A7 c7, v = .slice A7 (k + 1 + (n - k)) c7 ∧ Go.Adm.Own W (w.heap.size + 1) 50 33 A7 (k + 1 + (n - k)) c7 (((((l.take k).map entC).flatten) ++ entC x) ++ ((l.drop k).map entC).flatten)))
          (by kernel_rfl) (by kernel_rfl) (by simp) (JP.start ⟨⟨hI.drew.at_ 1 rfl, hI.drew.at_ 2 rfl, hI.drew.at_ 3 rfl, trivial⟩, hsr⟩ (hI.drew.at_ 0 rfl)) rfl ?hops ?fin
        case hops =>
          refine ⟨?_, ?_, ?_, ?_, ?_, ?_, ?_, ?_, ?_, trivial⟩
          · refine ⟨rfl, ?_⟩
            intro a W L vs hJ hk hcl hold hb K hK
            have b5 := hold 5 rfl
            go_simp
            exact hK _ _ (by intro h; cases h) (hJ.quiet 0 (by decide) (by decide) (by decide) (by decide) hk rfl)
          · refine ⟨rfl, ?_⟩
            intro a W L vs hJ hk hcl hold hb K hK
            have b3 := hold 3 rfl
            refine wp_load_any 50 (.tmp 3) rfl ⟨w.heap.size, 0, none⟩ (show a.eval (.tmp 3) = _ from by simp only [Act.eval, Array.getD_eq_getD_getElem?]; exact b3) (entC x) _ (Cells.sub (hJ.2.1.1.at_ 0 rfl) 0 (fun j u hu => by rw [Nat.zero_add]; exact hu)) Tryd.underlying50 rfl (by rw [entC_len HXX.out]; kernel_rfl) ?_
            exact hK _ _ (by intro h; cases h) (hJ.quiet 1 (by decide) (by decide) (by decide) (by decide) hk rfl)
          · refine ⟨rfl, ?_⟩
            intro a W L vs hJ hk hcl hold hb K hK
            obtain ⟨h1, b31⟩ := hb ⟨1, .data⟩ (by simp) rfl
            have e1 : vs 1 = _ := hJ.1 1 h1
            replace b31 : a.tmps[31]?.getD undef = vs 1 := b31
            rw [e1] at b31
            refine wp_lit1 el_ent (.tmp 31) rfl (entC x) (show a.eval (.tmp 31) = _ from by simp only [Act.eval, Array.getD_eq_getD_getElem?]; exact b31) (entC_len HXX.out) (by decide) ?_
            exact hK _ _ (by intro h; cases h) (hJ.step2 ⟨hJ.2.1.1.alloc _, by have := hJ.2.1.2; simp; omega⟩ (fun h => h.alloc _) (fun v ⟨A3, c3, e, h⟩ => ⟨A3, c3, e, h.alloc _⟩) (fun v ⟨A3, c3, e, h⟩ => ⟨A3, c3, e, h.alloc _⟩) trivial ⟨_, _, rfl, by have := Rd.lit W (entC x).toArray 50 1 (size := 33) (by rw [List.size_toArray]; exact entC_len HXX.out); simpa using this⟩)
          · refine ⟨rfl, ?_⟩
            intro a W L vs hJ hk hcl hold hb K hK
            obtain ⟨h0, b30⟩ := hb ⟨0, .data⟩ (by simp) rfl
            obtain ⟨h2, b32⟩ := hb ⟨2, .data⟩ (by simp) rfl
            have e0 : vs 0 = _ := hJ.1 0 h0
            obtain ⟨A9, c9, e2, hrd⟩ := hJ.2.2.2.1 h2 hk
            replace b30 : a.tmps[30]?.getD undef = vs 0 := b30
            rw [e0] at b30
            replace b32 : a.tmps[32]?.getD undef = vs 2 := b32
            rw [e2] at b32
            have h7 : L 7 = false := by
              cases h : L 7 with
              | false => rfl
              | true => have h4 := hcl 7 _ rfl h ⟨3, .data⟩ (by simp) rfl; rw [hk] at h4; cases h4
            have hown := hJ.2.2.1 hk
            refine wp_app6 _ el_ent (.tmp 30) (.tmp 32) rfl (w.heap.size + 1) A' k c' _ (show a.eval (.tmp 30) = _ from by simp only [Act.eval, Array.getD_eq_getD_getElem?]; exact b30) hown W.heap.size A9 1 c9 (entC x) (show a.eval (.tmp 32) = _ from by simp only [Act.eval, Array.getD_eq_getD_getElem?]; exact b32) hrd (entC_one _) (by omega) hJ.2.1.2 ?_
            intro A3 c3 w3 hown3 hg3 hob3
            exact hK _ _ (by intro h; cases h) (hJ.step3 ⟨All.step hg3 hJ.2.1.1 (HAP.out _ _ _ _ _ hown), Nat.le_trans hJ.2.1.2 hg3.size⟩ h7 trivial ⟨A3, c3, rfl, hown3⟩)
          · refine ⟨rfl, ?_⟩
            intro a W L vs hJ hk hcl hold hb K hK
            have b0 := hold 0 rfl
            go_simp
            exact hK _ _ (by intro h; cases h) (hJ.quiet 4 (by decide) (by decide) (by decide) (by decide) hk rfl)
          · refine ⟨rfl, ?_⟩
            intro a W L vs hJ hk hcl hold hb K hK
            have b6 := hold 6 rfl
            go_simp
            exact hK _ _ (by intro h; cases h) (hJ.quiet 5 (by decide) (by decide) (by decide) (by decide) hk rfl)
          · refine ⟨rfl, ?_⟩
            intro a W L vs hJ hk hcl hold hb K hK
            obtain ⟨h4, b34⟩ := hb ⟨4, .data⟩ (by simp) rfl
            obtain ⟨h5, b35⟩ := hb ⟨5, .data⟩ (by simp) rfl
            have e4 : vs 4 = _ := hJ.1 4 h4
            have e5 : vs 5 = _ := hJ.1 5 h5
            replace b34 : a.tmps[34]?.getD undef = vs 4 := b34
            rw [e4] at b34
            replace b35 : a.tmps[35]?.getD undef = vs 5 := b35
            rw [e5] at b35
            have d2 : 0 ≤ (k : Int) ∧ (k : Int) ≤ (n : Int) := by omega
            have d3 : ((k : Int)).toNat = k := by omega
            have hr : ∀ W, All W [.cells w.heap.size 50 (entC x), .low (.els B 33 (some ad) n (l.map entC)), .kept w w.heap.size] → Rd W B 33 (if c = k then (some ad) else (some ad : Option Addr).map (·.add (k * 33))) (n - k) (((l.drop k).map entC).flatten) := fun W hW => by
              have hE : Els W B 33 (some ad) n (l.map entC) ∧ B ≤ W.heap.size := hW.at_ 1 rfl
              have := hE.1.rd.cut (k := k) (cap := c) (by omega) HNC.out
              rwa [flat_dropE HLEN.out] at this
            go_simp
            exact hK _ _ (by intro h; cases h) (hJ.quiet 6 (by decide) (by decide) (by decide) (by decide) hk ⟨_, _, rfl, hr⟩)
          · refine ⟨rfl, ?_⟩
            intro a W L vs hJ hk hcl hold hb K hK
            obtain ⟨h3, b33⟩ := hb ⟨3, .data⟩ (by simp) rfl
            obtain ⟨h6, b36⟩ := hb ⟨6, .data⟩ (by simp) rfl
            obtain ⟨A3, c3, e3, hown⟩ := hJ.2.2.2.2.1 h3 hk
            obtain ⟨A6, c6, e6, hrd⟩ : ∃ A6 c6, vs 6 = .slice A6 (n - k) c6 ∧ ∀ W, All W [.cells w.heap.size 50 (entC x), .low (.els B 33 (some ad) n (l.map entC)), .kept w w.heap.size] → Rd W B 33 A6 (n - k) (((l.drop k).map entC).flatten) := hJ.1 6 h6
            replace b33 : a.tmps[33]?.getD undef = vs 3 := b33
            rw [e3] at b33
            replace b36 : a.tmps[36]?.getD undef = vs 6 := b36
            rw [e6] at b36
            refine wp_app6 _ el_ent (.tmp 33) (.tmp 36) rfl (w.heap.size + 1) A3 (k + 1) c3 _ (show a.eval (.tmp 33) = _ from by simp only [Act.eval, Array.getD_eq_getD_getElem?]; exact b33) hown B A6 (n - k) c6 _ (show a.eval (.tmp 36) = _ from by simp only [Act.eval, Array.getD_eq_getD_getElem?]; exact b36) (hrd W hJ.2.1.1) (HONE.out _) (by omega) hJ.2.1.2 ?_
            intro A7 c7 w7 hown7 hg7 hob7
            exact hK _ _ (by intro h; cases h) (hJ.step7 ⟨All.step hg7 hJ.2.1.1 (HAP.out _ _ _ _ _ hown), Nat.le_trans hJ.2.1.2 hg7.size⟩ h3 hk trivial ⟨A7, c7, rfl, hown7⟩)
          · refine ⟨rfl, ?_⟩
            intro a W L vs hJ hk hcl hold hb K hK
            obtain ⟨h7, b37⟩ := hb ⟨7, .data⟩ (by simp) rfl
            replace b37 : a.tmps[37]?.getD undef = vs 7 := b37
            go_simp
            exact hK _ _ (by intro h; cases h) (hJ.step8 h7 trivial)
        case fin =>
          intro vs W L hJ hall
          obtain ⟨A7, c7, e7, hown7⟩ := hJ.2.2.2.2.2.1 (hall 7 (by decide))
          have e8 : vs 8 = _ := (hJ.2.2.2.2.2.2 (hall 8 (by decide))).2.trans e7
          have hkept := hJ.2.1.1.at_ 2 rfl
          simp only [putAll, List.drop_succ_cons, List.drop_zero, e8, Act.put, List.setIfInBounds_toArray, List.set_cons_succ, List.set_cons_zero]
          clear e8 e7 hJ hall
          go_wp2_with fail
          go_ret
          have hln : (putK blt Ent.p l x).length = k + 1 + (n - k) := by rw [HPUT.out, List.length_append, List.length_take, List.length_cons, List.length_drop, HN.out]; omega
          refine ⟨A7, c7, by rw [hln]; rfl, ?_, hkept.1⟩
          rw [hln, HPUT.out, List.map_append, List.map_cons, List.flatten_append, List.flatten_cons, ← List.append_assoc]
          exact hown7.less (by omega)
    · have d1 : decide ((k : Int) < (n : Int)) = false := by simp; omega
      have HPUT : Hid (putK blt Ent.p l x = l.take k ++ x :: l.drop k) := Lib.hid (putK_at Ent.p l x k (by rw [HN.out]; omega) (fun j hj h2 => Hall.out j hj h2) (fun h => by rw [HN.out] at h; omega))
      go_upto_region 3 with (fail)
      go_quiet (fail)
      clear c1
      replace hI := hI.drewN nq
      replace hsr : (w.heap.size + 1) ≤ (wr.drewN nq).heap.size := hsr
      generalize wr.drewN nq = wq at *
      go_upto_region 6 with (fail)
      refine wp_region_came [30, 31, 32, 33, 34, 35, 36, 37, 4]
        (JP (fun j v => match j with
            | 0 => v = .slice A' k c'
            | 1 => v = .agg (entC x).toArray
            | 4 => v = .slice A n c
            | 5 => v = .int .i64 (k : Int)
            | 6 => ∃ A6 c6, v = .slice A6 (n - k) c6 ∧ ∀ W, All W [.cells w.heap.size 50 (entC x), .low (.els B 33 A n (l.map entC)), .kept w w.heap.size] → Rd W B 33 A6 (n - k) (((l.drop k).map entC).flatten)
            | _ => True)
          (fun W => All W [.cells w.heap.size 50 (entC x), .low (.els B 33 A n (l.map entC)), .kept w w.heap.size] ∧ (w.heap.size + 1) ≤ W.heap.size)
          (fun W => Go.Adm.Own W (w.heap.size + 1) 50 33 A' k c' (((l.take k).map entC).flatten))
          (fun v W => ∃ A9 c9, v = .slice A9 1 c9 ∧ Rd W W.heap.size 33 A9 1 (entC x))
          (fun v W => ∃ A3 c3, v = .slice A3 (k + 1) c3 ∧ Go.Adm.Own W (w.heap.size + 1) 50 33 A3 (k + 1) c3 ((((l.take k).map entC).flatten) ++ entC x))
          (fun v W => ∃ A7 c7, v = .slice A7 (k + 1 + (n - k)) c7 ∧ Go.Adm.Own W (w.heap.size + 1) 50 33 A7 (k + 1 + (n - k)) c7 (((((l.take k).map entC).flatten) ++ entC x) ++ ((l.drop k).map entC).flatten)))
        (by kernel_rfl) (by kernel_rfl) (by simp) (JP.start ⟨⟨hI.drew.at_ 1 rfl, hI.drew.at_ 2 rfl, hI.drew.at_ 3 rfl, trivial⟩, hsr⟩ (hI.drew.at_ 0 rfl)) rfl ?hops ?fin
      case hops =>
        refine ⟨?_, ?_, ?_, ?_, ?_, ?_, ?_, ?_, ?_, trivial⟩
        · refine ⟨rfl, ?_⟩
          intro a W L vs hJ hk hcl hold hb K hK
          have b5 := hold 5 rfl
          go_simp
          exact hK _ _ (by intro h; cases h) (hJ.quiet 0 (by decide) (by decide) (by decide) (by decide) hk rfl)
        · refine ⟨rfl, ?_⟩
          intro a W L vs hJ hk hcl hold hb K hK
          have b3 := hold 3 rfl
          refine wp_load_any 50 (.tmp 3) rfl ⟨w.heap.size, 0, none⟩ (show a.eval (.tmp 3) = _ from by simp only [Act.eval, Array.getD_eq_getD_getElem?]; exact b3) (entC x) _ (Cells.sub (hJ.2.1.1.at_ 0 rfl) 0 (fun j u hu => by rw [Nat.zero_add]; exact hu)) Tryd.underlying50 rfl (by rw [entC_len HXX.out]; kernel_rfl) ?_
          exact hK _ _ (by intro h; cases h) (hJ.quiet 1 (by decide) (by decide) (by decide) (by decide) hk rfl)
        · refine ⟨rfl, ?_⟩
          intro a W L vs hJ hk hcl hold hb K hK
          obtain ⟨h1, b31⟩ := hb ⟨1, .data⟩ (by simp) rfl
          have e1 : vs 1 = _ := hJ.1 1 h1
          replace b31 : a.tmps[31]?.getD undef = vs 1 := b31
          rw [e1] at b31
          refine wp_lit1 el_ent (.tmp 31) rfl (entC x) (show a.eval (.tmp 31) = _ from by simp only [Act.eval, Array.getD_eq_getD_getElem?]; exact b31) (entC_len HXX.out) (by decide) ?_
          exact hK _ _ (by intro h; cases h) (hJ.step2 ⟨hJ.2.1.1.alloc _, by have := hJ.2.1.2; simp; omega⟩ (fun h => h.alloc _) (fun v ⟨A3, c3, e, h⟩ => ⟨A3, c3, e, h.alloc _⟩) (fun v ⟨A3, c3, e, h⟩ => ⟨A3, c3, e, h.alloc _⟩) trivial ⟨_, _, rfl, by have := Rd.lit W (entC x).toArray 50 1 (size := 33) (by rw [List.size_toArray]; exact entC_len HXX.out); simpa using this⟩)
        · refine ⟨rfl, ?_⟩
          intro a W L vs hJ hk hcl hold hb K hK
          obtain ⟨h0, b30⟩ := hb ⟨0, .data⟩ (by simp) rfl
          obtain ⟨h2, b32⟩ := hb ⟨2, .data⟩ (by simp) rfl
          have e0 : vs 0 = _ := hJ.1 0 h0
          obtain ⟨A9, c9, e2, hrd⟩ := hJ.2.2.2.1 h2 hk
          replace b30 : a.tmps[30]?.getD undef = vs 0 := b30
          rw [e0] at b30
          replace b32 : a.tmps[32]?.getD undef = vs 2 := b32
          rw [e2] at b32
          have h7 : L 7 = false := by
            cases h : L 7 with
            | false => rfl
            | true => have h4 := hcl 7 _ rfl h ⟨3, .data⟩ (by simp) rfl; rw [hk] at h4; cases h4
          have hown := hJ.2.2.1 hk
          refine wp_app6 _ el_ent (.tmp 30) (.tmp 32) rfl (w.heap.size + 1) A' k c' _ (show a.eval (.tmp 30) = _ from by simp only [Act.eval, Array.getD_eq_getD_getElem?]; exact b30) hown W.heap.size A9 1 c9 (entC x) (show a.eval (.tmp 32) = _ from by simp only [Act.eval, Array.getD_eq_getD_getElem?]; exact b32) hrd (entC_one _) (by omega) hJ.2.1.2 ?_
          intro A3 c3 w3 hown3 hg3 hob3
          exact hK _ _ (by intro h; cases h) (hJ.step3 ⟨All.step hg3 hJ.2.1.1 (HAP.out _ _ _ _ _ hown), Nat.le_trans hJ.2.1.2 hg3.size⟩ h7 trivial ⟨A3, c3, rfl, hown3⟩)
        · refine ⟨rfl, ?_⟩
          intro a W L vs hJ hk hcl hold hb K hK
          have b0 := hold 0 rfl
          go_simp
          exact hK _ _ (by intro h; cases h) (hJ.quiet 4 (by decide) (by decide) (by decide) (by decide) hk rfl)
        · refine ⟨rfl, ?_⟩
          intro a W L vs hJ hk hcl hold hb K hK
          have b6 := hold 6 rfl
          go_simp
          exact hK _ _ (by intro h; cases h) (hJ.quiet 5 (by decide) (by decide) (by decide) (by decide) hk rfl)
        · refine ⟨rfl, ?_⟩
          intro a W L vs hJ hk hcl hold hb K hK
          obtain ⟨h4, b34⟩ := hb ⟨4, .data⟩ (by simp) rfl
          obtain ⟨h5, b35⟩ := hb ⟨5, .data⟩ (by simp) rfl
          have e4 : vs 4 = _ := hJ.1 4 h4
          have e5 : vs 5 = _ := hJ.1 5 h5
          replace b34 : a.tmps[34]?.getD undef = vs 4 := b34
          rw [e4] at b34
          replace b35 : a.tmps[35]?.getD undef = vs 5 := b35
          rw [e5] at b35
          have d2 : 0 ≤ (k : Int) ∧ (k : Int) ≤ (n : Int) := by omega
          have d3 : ((k : Int)).toNat = k := by omega
          have hr : ∀ W, All W [.cells w.heap.size 50 (entC x), .low (.els B 33 A n (l.map entC)), .kept w w.heap.size] → Rd W B 33 (if c = k then A else A.map (·.add (k * 33))) (n - k) (((l.drop k).map entC).flatten) := fun W hW => by
            have hE : Els W B 33 A n (l.map entC) ∧ B ≤ W.heap.size := hW.at_ 1 rfl
            have := hE.1.rd.cut (k := k) (cap := c) (by omega) HNC.out
            rwa [flat_dropE HLEN.out] at this
          go_simp
          exact hK _ _ (by intro h; cases h) (hJ.quiet 6 (by decide) (by decide) (by decide) (by decide) hk ⟨_, _, rfl, hr⟩)
        · refine ⟨rfl, ?_⟩
          intro a W L vs hJ hk hcl hold hb K hK
          obtain ⟨h3, b33⟩ := hb ⟨3, .data⟩ (by simp) rfl
          obtain ⟨h6, b36⟩ := hb ⟨6, .data⟩ (by simp) rfl
          obtain ⟨A3, c3, e3, hown⟩ := hJ.2.2.2.2.1 h3 hk
          obtain ⟨A6, c6, e6, hrd⟩ : ∃ A6 c6, vs 6 = .slice A6 (n - k) c6 ∧ ∀ W, All W [.cells w.heap.size 50 (entC x), .low (.els B 33 A n (l.map entC)), .kept w w.heap.size] → Rd W B 33 A6 (n - k) (((l.drop k).map entC).flatten) := hJ.1 6 h6
          replace b33 : a.tmps[33]?.getD undef = vs 3 := b33
          rw [e3] at b33
          replace b36 : a.tmps[36]?.getD undef = vs 6 := b36
          rw [e6] at b36
          refine wp_app6 _ el_ent (.tmp 33) (.tmp 36) rfl (w.heap.size + 1) A3 (k + 1) c3 _ (show a.eval (.tmp 33) = _ from by simp only [Act.eval, Array.getD_eq_getD_getElem?]; exact b33) hown B A6 (n - k) c6 _ (show a.eval (.tmp 36) = _ from by simp only [Act.eval, Array.getD_eq_getD_getElem?]; exact b36) (hrd W hJ.2.1.1) (HONE.out _) (by omega) hJ.2.1.2 ?_
          intro A7 c7 w7 hown7 hg7 hob7
          exact hK _ _ (by intro h; cases h) (hJ.step7 ⟨All.step hg7 hJ.2.1.1 (HAP.out _ _ _ _ _ hown), Nat.le_trans hJ.2.1.2 hg7.size⟩ h3 hk trivial ⟨A7, c7, rfl, hown7⟩)
        · refine ⟨rfl, ?_⟩
          intro a W L vs hJ hk hcl hold hb K hK
          obtain ⟨h7, b37⟩ := hb ⟨7, .data⟩ (by simp) rfl
          replace b37 : a.tmps[37]?.getD undef = vs 7 := b37
          go_simp
          exact hK _ _ (by intro h; cases h) (hJ.step8 h7 trivial)
      case fin =>
        intro vs W L hJ hall
        obtain ⟨A7, c7, e7, hown7⟩ := hJ.2.2.2.2.2.1 (hall 7 (by decide))
        have e8 : vs 8 = _ := (hJ.2.2.2.2.2.2 (hall 8 (by decide))).2.trans e7
        have hkept := hJ.2.1.1.at_ 2 rfl
        simp only [putAll, List.drop_succ_cons, List.drop_zero, e8, Act.put, List.setIfInBounds_toArray, List.set_cons_succ, List.set_cons_zero]
        clear e8 e7 hJ hall
        go_wp2_with fail
        go_ret
        have hln : (putK blt Ent.p l x).length = k + 1 + (n - k) := by rw [HPUT.out, List.length_append, List.length_take, List.length_cons, List.length_drop, HN.out]; omega
        refine ⟨A7, c7, by rw [hln]; rfl, ?_, hkept.1⟩
        rw [hln, HPUT.out, List.map_append, List.map_cons, List.flatten_append, List.flatten_cons, ← List.append_assoc]
        exact hown7.less (by omega)

end Go.Proofs.YtipepcjiogifaaaDoor

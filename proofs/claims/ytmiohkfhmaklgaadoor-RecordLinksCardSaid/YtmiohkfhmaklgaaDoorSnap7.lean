/- Diff. -/
import Derived.Test.YtmiohkfhmaklgaaDoorSnap6
import Derived.Test.YtmiohkfhmaklgaaDoorFreA
set_option linter.unusedSimpArgs false
set_option linter.unusedVariables false
namespace Go.Adm
open Go Go.RowKit
theorem runS_len {α β : Type} (f : α → Option (Option β)) : ∀ (l : List α) {r : List β}, runS f l = some r → r.length ≤ l.length
  | [], r, h => by simp only [runS, Option.some.injEq] at h; subst h; simp
  | q :: l, r, h => by
    simp only [runS] at h
    cases hq : f q with
    | none => rw [hq] at h; cases h
    | some e =>
      rw [hq] at h
      cases hl : runS f l with
      | none => simp [hl] at h
      | some m =>
        simp only [hl, Option.map_some, Option.some.injEq] at h
        subst h
        have := runS_len f l hl
        cases e <;> simp <;> omega
def itX (A1 : Option Addr) {a b : List C} : It a b → Value
  | .l i => ptrA A1 i.val
  | .r _ => .pointer none
  | .e i _ => ptrA A1 i.val
def itY (A2 : Option Addr) {a b : List C} : It a b → Value
  | .l _ => .pointer none
  | .r j => ptrA A2 j.val
  | .e _ j => ptrA A2 j.val
/-- one element more in the row that a box holds -/
theorem out_more {W w3 : World} {bO size g6 n : Nat} {tid tsl : TypeId} {A A3 : Option Addr} {c c3 : Nat} {xs u : List Value} {rest : List Res} (h : All W (.own bO tid size A n c xs :: .cells g6 tsl [.slice A n c] :: rest)) (hr : ∀ g, bO ≤ g → (Value.slice A n c).ownBlock = some g → Apart (some g) rest) (h6 : g6 < bO)
    (hown3 : Own w3 bO tid size A3 (n + 1) c3 (xs ++ u)) (hg3 : W.grownBy w3 (Value.slice A n c).ownBlock) (hr6 : Apart (some g6) rest) :
    All w3 (.own bO tid size A3 (n + 1) c3 (xs ++ u) :: .cells g6 tsl [.slice A n c] :: rest) ∧ All (w3.setCell ⟨g6, 0, Option.none⟩ (.slice A3 (n + 1) c3)) (.own bO tid size A3 (n + 1) c3 (xs ++ u) :: .cells g6 tsl [.slice A3 (n + 1) c3] :: rest) ∧ KeepsOthers W (w3.setCell ⟨g6, 0, Option.none⟩ (.slice A3 (n + 1) c3)) := by
  have hown : Own W bO tid size A n c xs := h.1
  have h1 : All w3 (.cells g6 tsl [.slice A n c] :: rest) := by
    refine All.step hg3 h.2 ?_
    cases hq : (Value.slice A n c).ownBlock with
    | none => exact Apart.none _
    | some g => exact ⟨fun e => by injection e with e; have := (hown.lt hq).1; omega, hr g (hown.lt hq).1 hq⟩
  have h2 : All w3 (.own bO tid size A3 (n + 1) c3 (xs ++ u) :: .cells g6 tsl [.slice A n c] :: rest) := ⟨hown3, h1⟩
  refine ⟨h2, ?_, (KeepsOthers.of_grownBy hg3 fun j o' e ho => Own.isCells hown j o' e ho).trans (.setCell _ _ _)⟩
  have h3 := h2.store 1 rfl 0 (.slice A3 (n + 1) c3) ⟨fun g e => .inl (by injection e with e; omega), hr6⟩
  simpa using h3
theorem wpIn_neq0 {F : Fence} {nF : Nat} {P : Program} {o : Oper} {a : Act} {w : World} {K : Act → World → Prop} {Q : Exit → Act → World → Prop} {t t2 : TypeId} (hF : ∀ f, F.fn f) (x y : Operand) (ho : o.op = .binOp .neq t x y t2) (v : Value)
    (h : (binOp .neq t (a.eval x) (a.eval y)).run P w = .ok v w) (hg : (eqGuard .neq t x y (a.eval x) (a.eval y)).run P w = .ok () w) (hk : K (a.put o.dst v) w) : o.wpIn F nF P a w K Q :=
  wpIn_val hF (by rw [ho]; intro c hc; cases hc) (v := v) (w' := w) (by
    unfold execOp
    simp only [ho, Sem.run_bind, hg, h, Result.andThen_ok, Sem.run_pure]) hk
def diffR (a b : List E) : List C × Int := if validB a && validB b then (diff blt z32 a b, 0) else ([], 1)
theorem own_low {w : World} {base size n c B : Nat} {e : TypeId} {A : Option Addr} {es : List (List Value)} (h : Own w base e size A n c es.flatten) (he : ∀ x ∈ es, x.length = size) (hl : es.length = n) (hB : ∀ g, (Value.slice A n c).ownBlock = some g → g < B) : Els w B size A n es := by
  refine ⟨⟨h.rd.len, fun hn => ?_⟩, he, hl⟩
  obtain ⟨ad, h1, h2, h3⟩ := h.rd.at_ hn
  subst h1
  exact ⟨ad, rfl, hB _ rfl, h3⟩
end Go.Adm
namespace Go.Proofs.YtmiohkfhmaklgaaDoor
open Go Go.RowKit Go.Adm Go.Shelf
attribute [local go_sem] Oper.semAt_some

set_option maxRecDepth 100000 in
set_option maxHeartbeats 3200000 in
theorem Diff_good (w : World) (B : Nat) (A1 A2 : Option Addr) (c1 c2 : Nat) (a b : List E) (h1 : Els w B 33 A1 a.length (a.map entC)) (h2 : Els w B 33 A2 b.length (b.map entC)) (ha : ∀ e ∈ a, E32 e) (hb : ∀ e ∈ b, E32 e) (hn1 : a.length ≤ 1000000) (hn2 : b.length ≤ 1000000) (hB : B ≤ w.heap.size) (hv : validB a = true) (hv2 : validB b = true) :
    Calls Tryd.prog 19 #[.slice A1 a.length c1, .slice A2 b.length c2] w (ResPost chgC 65 (diff blt z32 a b) 0 60 w) := by
  have hR : All w [.low (.els B 33 A1 a.length (a.map entC)), .low (.els B 33 A2 b.length (b.map entC)), .kept w w.heap.size] := ⟨⟨h1, hB⟩, ⟨h2, hB⟩, ⟨Below.refl _ _, Nat.le_refl _⟩, trivial⟩
  have HA := Lib.hid ha
  have HB := Lib.hid hb
  have HV := Lib.hid hv
  have HV2 := Lib.hid hv2
  clear h1 h2 ha hb hv hv2
  refine (callsIn_wide (n := 3)).1 ?_
  refine callsIn_of_wp_marks Tryd.func19 rfl trivial ?_
  refine wpIn_wide.2 ?_
  simp only [Tryd.ntmps19, List.size_toArray, List.length_cons, List.length_nil, Nat.reduceAdd, Nat.reduceSub, Array.replicate_succ, Array.replicate_zero, List.push_toArray, List.append_toArray, List.nil_append, List.cons_append]
  have hVa := Valid_any w B A1 a.length c1 a (hR.at_ 0 rfl : Els w B 33 A1 a.length (a.map entC) ∧ B ≤ w.heap.size).1 HA.out rfl hn1 hB
  rw [HV.out] at hVa
  go_wp2_with (first
    | (refine hVa.mono ?_; clear hVa; rintro e w1 ⟨rfl, hb1⟩; have hR1 := hR.call hb1; have hVb := Valid_any w1 B A2 b.length c2 b (hR1.at_ 1 rfl : Els w1 B 33 A2 b.length (b.map entC) ∧ B ≤ w1.heap.size).1 HB.out rfl hn2 (hR1.at_ 1 rfl : Els w1 B 33 A2 b.length (b.map entC) ∧ B ≤ w1.heap.size).2; rw [HV2.out] at hVb)
    | (refine hVb.mono ?_; clear hVb; rintro e w2 ⟨rfl, hb2⟩; have hR2 := hR1.call hb2))
  have hs2 : w.heap.size ≤ w2.heap.size := hR2.size_kept 2 rfl
  have hR3 := hR2.new #[.slice none 0 0] 33 rfl rfl
  clear hR hR1 hR2 hb1 hb2
  refine (creation_any _ B A1 a.length c1 a (hR3.at_ 1 rfl : Els _ B 33 A1 a.length (a.map entC) ∧ B ≤ _).1 HA.out rfl hn1 (hR3.at_ 1 rfl : Els _ B 33 A1 a.length (a.map entC) ∧ B ≤ _).2).mono ?_
  rintro e w3 ⟨X1, k1, rfl, hO1, hb3⟩
  have hs3 := hb3.size
  have hR4 := hR3.call hb3
  obtain ⟨b1, hb1⟩ : ∃ b1, b1 = w2.heap.size + 1 := ⟨_, rfl⟩
  rw [show (w2.alloc (.cells #[.slice none 0 0] 33)).heap.size = b1 from by rw [hb1]; simp] at hO1 hs3
  clear hR3 hb3
  go_wp2_with fail
  refine (creation_any _ B A2 b.length c2 b (hR4.at_ 2 rfl : Els _ B 33 A2 b.length (b.map entC) ∧ B ≤ _).1 HB.out rfl hn2 (hR4.at_ 2 rfl : Els _ B 33 A2 b.length (b.map entC) ∧ B ≤ _).2).mono ?_
  rintro e w4 ⟨X2, k2, rfl, hO2, hb4⟩
  have hs4 := hb4.size
  have hO1' := Go.Adm.Own.kept hO1 hb4
  have hR5 := hR4.call hb4
  have hX1 : ∀ g, (Value.slice X1 (a.map (cre z32)).length k1).ownBlock = some g → g < w3.heap.size := fun g hg => (hO1.lt hg).2
  have hX2 : ∀ g, (Value.slice X2 (b.map (cre z32)).length k2).ownBlock = some g → g < w4.heap.size := fun g hg => (hO2.lt hg).2
  clear hR4 hb4 hO1
  have HDR : Hid (runS (difF z32) ((bothF (a.map (cre z32)) (b.map (cre z32)) 0 0).map (lookF _ _)) = some (diff blt z32 a b)) := Lib.hid (by
    rw [bothF_map _ _ _ 0 0 (Nat.le_refl _), List.drop_zero, List.drop_zero]
    exact diff_run blt z32 a b)
  have HLA : Hid (∀ c ∈ a.map (cre z32), C32 c) := Lib.hid (fun c hc => by obtain ⟨x, hx, rfl⟩ := List.mem_map.1 hc; exact cre_32 (HA.out x hx))
  have HLB : Hid (∀ c ∈ b.map (cre z32), C32 c) := Lib.hid (fun c hc => by obtain ⟨x, hx, rfl⟩ := List.mem_map.1 hc; exact cre_32 (HB.out x hx))
  have hna : (a.map (cre z32)).length ≤ 1000000 := by rw [List.length_map]; exact hn1
  have hnb : (b.map (cre z32)).length ≤ 1000000 := by rw [List.length_map]; exact hn2
  obtain ⟨la, hla⟩ : ∃ la, a.map (cre z32) = la := ⟨_, rfl⟩
  obtain ⟨lb, hlb⟩ : ∃ lb, b.map (cre z32) = lb := ⟨_, rfl⟩
  have HL1 : Hid (la.length = a.length) := Lib.hid (by rw [← hla, List.length_map])
  have HL2 : Hid (lb.length = b.length) := Lib.hid (by rw [← hlb, List.length_map])
  rw [hla] at hO1' hX1 HDR HLA hna
  rw [hlb] at hO2 hX2 HDR HLB hnb
  clear hla hlb
  go_wp2_with fail
  refine (both_any w4 (.slice X1 a.length k1) (.slice X2 b.length k2) rfl rfl X1 X2 a.length b.length k1 k2 rfl rfl).mono ?_
  rintro e w5 ⟨rfl, rfl⟩
  go_wp2_with fail
  have hs43 : w3.heap.size ≤ w4.heap.size := hs4
  have hAll0 : All ((w4.alloc (.cells #[.slice X1 a.length k1] 33)).alloc (.cells #[.slice X2 b.length k2] 33)) [.own (w4.heap.size + 1 + 1) 60 65 none ([] : List C).length 0 (([] : List C).map chgC).flatten, .cells w2.heap.size 33 [.slice none ([] : List C).length 0], .own (w2.heap.size + 1) 60 65 X1 la.length k1 (la.map chgC).flatten, .own w3.heap.size 60 65 X2 lb.length k2 (lb.map chgC).flatten, .cells w4.heap.size 33 [.slice X1 la.length k1], .cells (w4.heap.size + 1) 33 [.slice X2 lb.length k2], .kept w w.heap.size] := by
    have h1 : All w4 [.own (w2.heap.size + 1) 60 65 X1 la.length k1 (la.map chgC).flatten, .own w3.heap.size 60 65 X2 lb.length k2 (lb.map chgC).flatten, .cells w2.heap.size 33 [.slice none 0 0], .kept w w.heap.size] := ⟨by rw [hb1] at hO1'; exact hO1', hO2, hR5.at_ 0 rfl, hR5.at_ 3 rfl, trivial⟩
    have h2 := (h1.new #[.slice X1 a.length k1] 33 rfl rfl).new #[.slice X2 b.length k2] 33 (g := w4.heap.size + 1) (by simp) rfl
    rw [HL1.out, HL2.out] at *
    exact ⟨Go.Adm.Own.nil _ _ _ _, h2.at_ 4 rfl, h2.at_ 2 rfl, h2.at_ 3 rfl, h2.at_ 1 rfl, h2.at_ 0 rfl, h2.at_ 5 rfl, trivial⟩
  have hsz0 : ((w4.alloc (.cells #[.slice X1 a.length k1] 33)).alloc (.cells #[.slice X2 b.length k2] 33)).heap.size = w4.heap.size + 1 + 1 := by simp
  have hs32 : w2.heap.size + 1 ≤ w3.heap.size := by rw [hb1] at hs3; exact hs3
  have hLOW : ∀ (V : World) (A : Option Addr) (c : Nat) (r : List C), All V [.own (w4.heap.size + 1 + 1) 60 65 A r.length c (r.map chgC).flatten, .cells w2.heap.size 33 [.slice A r.length c], .own (w2.heap.size + 1) 60 65 X1 la.length k1 (la.map chgC).flatten, .own w3.heap.size 60 65 X2 lb.length k2 (lb.map chgC).flatten, .cells w4.heap.size 33 [.slice X1 la.length k1], .cells (w4.heap.size + 1) 33 [.slice X2 lb.length k2], .kept w w.heap.size] → w4.heap.size + 1 + 1 ≤ V.heap.size → All V [.cells w4.heap.size 33 [.slice X1 la.length k1], .cells (w4.heap.size + 1) 33 [.slice X2 lb.length k2], .low (.els (w4.heap.size + 1 + 1) 65 X1 la.length (la.map chgC)), .low (.els (w4.heap.size + 1 + 1) 65 X2 lb.length (lb.map chgC))] := fun V A c r h hs => ⟨h.at_ 4 rfl, h.at_ 5 rfl, ⟨own_low (h.at_ 2 rfl) (chgs_len HLA.out) (by rw [List.length_map]) (fun g hg => by have := hX1 g hg; omega), hs⟩, ⟨own_low (h.at_ 3 rfl) (chgs_len HLB.out) (by rw [List.length_map]) (fun g hg => by have := hX2 g hg; omega), hs⟩, trivial⟩
  have HX1 := Lib.hid hX1
  have HX2 := Lib.hid hX2
  clear hR5 hO1' hO2 hX1 hX2 hs3 hs4 hb1
  refine (wpIn_wide (n := 3)).1 ?_
  refine wpIn_rangeFunc_ownF rfl (by decide) (gf := 33) (lb := #[.pointer (some ⟨w4.heap.size, 0, none⟩), .pointer (some ⟨w4.heap.size + 1, 0, none⟩)]) rfl trivial (enters_of Tryd.func33 (by kernel_rfl) rfl)
    (both_stops 2 (by decide) w4.heap.size (w4.heap.size + 1) (w4.heap.size + 1 + 1) X1 X2 k1 k2 la lb _ (by omega) (by simp; omega) (by simp) hna hnb (hLOW _ _ _ _ hAll0 (by rw [hsz0]; exact Nat.le_refl _))) (fun h k hh => k (h hh))
    (fun W' D o o' hB hD ho _ hA => All.dead (grownBy_putObj' W' D o') hB hD ho hA ⟨trivial, trivial, by rw [hsz0]; exact Nat.le_refl _, by rw [hsz0]; exact Nat.le_refl _, trivial⟩) (Below.refl _ _) (fun x => by cases x <;> rfl)
    (fun pre W' => ∃ (A : Option Addr) (c : Nat) (r : List C), runS (difF z32) (pre.map (lookF la lb)) = some r ∧ All W' [.own (w4.heap.size + 1 + 1) 60 65 A r.length c (r.map chgC).flatten, .cells w2.heap.size 33 [.slice A r.length c], .own (w2.heap.size + 1) 60 65 X1 la.length k1 (la.map chgC).flatten, .own w3.heap.size 60 65 X2 lb.length k2 (lb.map chgC).flatten, .cells w4.heap.size 33 [.slice X1 la.length k1], .cells (w4.heap.size + 1) 33 [.slice X2 lb.length k2], .kept w w.heap.size] ∧ (w4.heap.size + 1 + 1) ≤ W'.heap.size)
    (fun _ _ _ => False) ?own (fun _ _ _ _ _ hs _ _ => hs) ⟨none, 0, [], rfl, hAll0, by rw [hsz0]; exact Nat.le_refl _⟩
    (fun x => { tmps := #[(.slice A1 a.length c1), (.slice A2 b.length c2), undef, undef, (.slice none 0 0), (.int .i64 0), (.pointer (some ⟨w2.heap.size, 0, none⟩)), (itX X1 x), (itY X2 x), (.slice A1 a.length c1), (.bool true), (.bool false), (.bool false), (.slice A2 b.length c2), (.bool true), (.bool false), (.bool false), (.slice A1 a.length c1), (.slice X1 a.length k1), (.slice A2 b.length c2), (.slice X2 b.length k2), (.func (.func 33) #[] #[.pointer (some ⟨w4.heap.size, 0, none⟩), .pointer (some ⟨w4.heap.size + 1, 0, none⟩)]), (itX X1 x), (itY X2 x), undef, undef, undef, undef, undef, undef, undef, undef, undef, undef, undef, undef, undef, undef, undef, undef, undef, undef, undef, undef, undef, undef, undef, undef, undef, undef, undef, undef, undef, undef, undef, undef, undef, undef, undef, undef, undef, undef, undef, undef, undef, undef, undef, undef, undef, undef, undef, undef, undef, undef, undef], defers := [] }) ?assign ?body ?done ?stop
  case own =>
    rintro s W W' row ⟨A, c, r, h1, h2, h3⟩ hg hr
    exact ⟨A, c, r, h1, (all_from (B := ((w4.alloc (.cells #[.slice X1 a.length k1] 33)).alloc (.cells #[.slice X2 b.length k2] 33)).heap.size) (f := fun _ : Unit => [.own (w4.heap.size + 1 + 1) 60 65 A r.length c (r.map chgC).flatten, .cells w2.heap.size 33 [.slice A r.length c], .own (w2.heap.size + 1) 60 65 X1 la.length k1 (la.map chgC).flatten, .own w3.heap.size 60 65 X2 lb.length k2 (lb.map chgC).flatten, .cells w4.heap.size 33 [.slice X1 la.length k1], .cells (w4.heap.size + 1) 33 [.slice X2 lb.length k2], .kept w w.heap.size]) (fun _ => ⟨trivial, trivial, trivial, trivial, trivial, trivial, (show w.heap.size ≤ _ from by rw [hsz0]; omega), trivial⟩)) () W W' row h2 hg hr, Nat.le_trans h3 hg.size⟩
  case assign =>
    intro l x W K hK
    cases x <;> (simp only [encI]; gi_wp2; exact hK)
  case stop =>
    intro D c' pre W _ _ h _
    exact h.elim
  case body =>
    rintro l pre x W ⟨A, c, r, hr, hI, hsz⟩ hpl
    have HRUN : Hid (∀ v, difF z32 (lookF la lb x) = some v → runS (difF z32) ((pre ++ [x]).map (lookF la lb)) = some (r ++ v.toList)) := Lib.hid (fun v hv => by rw [List.map_append, List.map_cons, List.map_nil, runS_snoc _ _ _ hr, hv]; rfl)
    have hrl : r.length ≤ 2000000 := by have := runS_len _ _ hr; rw [List.length_map] at this; omega
    have LOWS := Lib.hid hLOW
    clear hr hLOW hAll0 hsz0
    cases x with
    | l i =>
      have hel1 : Els W W.heap.size 65 X1 la.length (la.map chgC) := Els.of (hI.at_ 2 rfl) (chgs_len HLA.out) (by rw [List.length_map])
      obtain ⟨ad1, rfl, -, -⟩ := Els.elem hel1 i.isLt
      clear hel1
      have HF : Hid (difF z32 (lookF la lb (It.l i)) = some (some ⟨la[i.val].p, la[i.val].n, z32⟩)) := Lib.hid rfl
      have HX : Hid (∀ W, All W [.own (w4.heap.size + 1 + 1) 60 65 A r.length c (r.map chgC).flatten, .cells w2.heap.size 33 [.slice A r.length c], .own (w2.heap.size + 1) 60 65 (some ad1) la.length k1 (la.map chgC).flatten, .own w3.heap.size 60 65 X2 lb.length k2 (lb.map chgC).flatten, .cells w4.heap.size 33 [.slice (some ad1) la.length k1], .cells (w4.heap.size + 1) 33 [.slice X2 lb.length k2], .kept w w.heap.size] → (∀ q s, (chgC la[i.val])[q]? = some s → W.cell? ((ad1.add (i.val * 65)).add q) = some s) ∧ True) := Lib.hid (fun W hW => by
        have hel : Els W W.heap.size 65 (some ad1) la.length (la.map chgC) := Els.of (hW.at_ 2 rfl) (chgs_len HLA.out) (by rw [List.length_map])
        obtain ⟨ad', e, -, hc⟩ := Els.elem hel i.isLt
        obtain rfl := Option.some.inj e
        exact ⟨hc, trivial⟩)
      have hxv := Lib.hid (HLA.out _ (List.getElem_mem i.isLt))
      generalize la[i.val] = v at *
      simp only [itX, itY, ptrA, Option.map_some]
      gi_wp2
      refine wpIn_region_hopsJ 11 [27, 28, 29, 30, 31, 32, 33, 34, 35, 36, 37] [.own (w4.heap.size + 1 + 1) 60 65 A r.length c (r.map chgC).flatten, .cells w2.heap.size 33 [.slice A r.length c], .own (w2.heap.size + 1) 60 65 (some ad1) la.length k1 (la.map chgC).flatten, .own w3.heap.size 60 65 X2 lb.length k2 (lb.map chgC).flatten, .cells w4.heap.size 33 [.slice (some ad1) la.length k1], .cells (w4.heap.size + 1) 33 [.slice X2 lb.length k2], .kept w w.heap.size] (fun V => KeepsOthers W V ∧ (w4.heap.size + 1 + 1) ≤ V.heap.size)
        [.eq (.slice A r.length c), .eq (.pointer (some (ad1.add (i.val * 65)))), .eq (.pointer (some (ad1.add (i.val * 65)))), .eq (.pointer (some (ad1.add (i.val * 65)))), .eq (.string v.p), .eq (.pointer (some (ad1.add (i.val * 65)))), .eq (.pointer (some (ad1.add (i.val * 65)))), .eq (.pointer (some ((ad1.add (i.val * 65)).add 33))), .eq (.agg (v.n.map bv).toArray), .eq (.agg (chgC ⟨v.p, v.n, z32⟩).toArray), .rd 65 1 (chgC ⟨v.p, v.n, z32⟩)]
        (fun _ => trivial) (by kernel_rfl) (by kernel_rfl) (fun w1 w2 hg hj => ⟨hj.1.trans (.of_grownBy hg (fun j o e => by cases e)), Nat.le_trans hj.2 hg.size⟩) ⟨hI, .refl W, hsz⟩ rfl ?hops ?fin
      case hops =>
        refine ⟨?_, ?_, ?_, ?_, ?_, ?_, ?_, ?_, ?_, ?_, ?_, trivial⟩
        · intro a' W hW hb hd K hK
          have b6 := hb 6 rfl
          have q1 : W.cell? ⟨w2.heap.size, 0, none⟩ = some (.slice A r.length c) := Cells.cell (hW.1.at_ 1 rfl) (i := 0) (by simp)
          refine ⟨fun _ _ => trivial, ?_⟩
          go_simp
          exact hK _ _ (World.grownBy.refl _ _) rfl
        · intro a' W hW hb hd K hK
          have b7 := hb 7 rfl
          refine ⟨fun _ _ => trivial, ?_⟩
          go_simp
          exact hK _ _ (World.grownBy.refl _ _) rfl
        · intro a' W hW hb hd K hK
          have b28 : a'.tmps[28]?.getD undef = _ := hd ⟨1, .data⟩ (by simp) rfl
          refine ⟨fun _ _ => trivial, ?_⟩
          go_simp
          exact hK _ _ (World.grownBy.refl _ _) rfl
        · intro a' W hW hb hd K hK
          have b29 : a'.tmps[29]?.getD undef = _ := hd ⟨2, .data⟩ (by simp) rfl
          refine ⟨fun _ _ => trivial, ?_⟩
          go_simp
          exact hK _ _ (World.grownBy.refl _ _) (by first | rfl | (rw [add_zero]; rfl) | (simp [add_zero]; rfl))
        · intro a' W hW hb hd K hK
          have b30 : a'.tmps[30]?.getD undef = _ := hd ⟨3, .data⟩ (by simp) rfl
          have q1 : W.cell? (ad1.add (i.val * 65)) = some (.string v.p) := by have := (HX.out W hW.1).1 0 (sv v.p) rfl; rwa [add_zero] at this
          refine ⟨fun _ _ => trivial, ?_⟩
          go_simp
          exact hK _ _ (World.grownBy.refl _ _) rfl
        · intro a' W hW hb hd K hK
          have b7 := hb 7 rfl
          refine ⟨fun _ _ => trivial, ?_⟩
          go_simp
          exact hK _ _ (World.grownBy.refl _ _) rfl
        · intro a' W hW hb hd K hK
          have b32 : a'.tmps[32]?.getD undef = _ := hd ⟨5, .data⟩ (by simp) rfl
          refine ⟨fun _ _ => trivial, ?_⟩
          go_simp
          exact hK _ _ (World.grownBy.refl _ _) rfl
        · intro a' W hW hb hd K hK
          have b33 : a'.tmps[33]?.getD undef = _ := hd ⟨6, .data⟩ (by simp) rfl
          refine ⟨fun _ _ => trivial, ?_⟩
          go_simp
          exact hK _ _ (World.grownBy.refl _ _) (by first | rfl | (rw [add_zero]; rfl) | (simp [add_zero]; rfl))
        · intro a' W hW hb hd K hK
          have b34 : a'.tmps[34]?.getD undef = _ := hd ⟨7, .data⟩ (by simp) rfl
          refine wpIn_load_any (fun _ => trivial) 51 (.tmp 34) rfl ((ad1.add (i.val * 65)).add 33) (show a'.eval (.tmp 34) = _ from by simp only [Act.eval, Array.getD_eq_getD_getElem?]; exact b34) (v.n.map bv) _ (fun q s hs => by rw [add_add]; exact (HX.out W hW.1).1 _ s (chg_sub2 hxv.out q s hs)) Tryd.underlying51 rfl (by rw [List.length_map, hxv.out.2.1]; kernel_rfl) ?_
          exact hK _ _ (World.grownBy.refl _ _) rfl
        · intro a' W hW hb hd K hK
          have b31 : a'.tmps[31]?.getD undef = _ := hd ⟨4, .data⟩ (by simp) rfl
          have b35 : a'.tmps[35]?.getD undef = _ := hd ⟨8, .data⟩ (by simp) rfl
          refine wpIn_bld (fun _ => trivial) 60 [(0, .tmp 31), (1, .tmp 35)] rfl _ _ #[(0, 1), (1, 32), (33, 32)] (chgC ⟨v.p, v.n, z32⟩).toArray zero_chg Tryd.underlying60 (fun w => by kernel_rfl) ?_ ?_
          · simp only [List.map_cons, List.map_nil]
            rw [(show a'.eval (.tmp 31) = _ from by simp only [Act.eval, Array.getD_eq_getD_getElem?]; exact b31), (show a'.eval (.tmp 35) = _ from by simp only [Act.eval, Array.getD_eq_getD_getElem?]; exact b35)]
            exact fill_chg01 v.p v.n hxv.out.2.1
          exact hK _ _ (World.grownBy.refl _ _) rfl
        · intro a' W hW hb hd K hK
          have b36 : a'.tmps[36]?.getD undef = _ := hd ⟨9, .data⟩ (by simp) rfl
          refine wpIn_lit1 (fun _ => trivial) el_chg (.tmp 36) rfl (chgC ⟨v.p, v.n, z32⟩) (show a'.eval (.tmp 36) = _ from by simp only [Act.eval, Array.getD_eq_getD_getElem?]; exact b36) (chgC_len ⟨hxv.out.2.1, rfl, hxv.out.2.2⟩) (by decide) ?_
          exact hK _ _ (grown_alloc _ _) ⟨_, _, rfl, by have := Rd.lit W (chgC ⟨v.p, v.n, z32⟩).toArray 60 1 (size := 65) (by rw [List.size_toArray]; exact chgC_len ⟨hxv.out.2.1, rfl, hxv.out.2.2⟩); simpa using this⟩
      case fin =>
        intro vs V ⟨hV, hKO, hVs⟩ hv
        have e0 : vs 0 = _ := hv 0 (by decide)
        obtain ⟨A9, c9, e9, hRd⟩ := (hv 10 (by decide) : VF.ok (.rd 65 1 (chgC ⟨v.p, v.n, z32⟩)) (vs 10) V)
        clear hv
        simp only [putAll, List.drop_succ_cons, List.drop_zero, e0, e9, Act.put, List.setIfInBounds_toArray, List.set_cons_succ, List.set_cons_zero]
        clear e0 e9
        refine wlIn_app el_chg rfl (.tmp 27) (.tmp 37) rfl (w4.heap.size + 1 + 1) A r.length c ((r.map chgC).flatten) rfl (hV.at_ 0 rfl) V.heap.size A9 1 c9 (chgC ⟨v.p, v.n, z32⟩) rfl hRd (chgC_one _) (by omega) hVs ?_
        intro A3 c3 w9 hown3 hg3 hob3
        have hlt1 := fun g (hg : (Value.slice (some ad1) la.length k1).ownBlock = some g) => Nat.lt_of_lt_of_le (HX1.out g hg) hs43
        have hap1 : ∀ g, (w4.heap.size + 1 + 1) ≤ g → (Value.slice A r.length c).ownBlock = some g → Apart (some g) [.own (w2.heap.size + 1) 60 65 (some ad1) la.length k1 (la.map chgC).flatten, .own w3.heap.size 60 65 X2 lb.length k2 (lb.map chgC).flatten, .cells w4.heap.size 33 [.slice (some ad1) la.length k1], .cells (w4.heap.size + 1) 33 [.slice X2 lb.length k2], .kept w w.heap.size] := fun g hg hg2 => ⟨fun g' e => .inr (fun e2 => by injection e with e; subst e; have := HX1.out _ e2; omega), fun g' e => .inr (fun e2 => by injection e with e; subst e; have := HX2.out _ e2; omega), fun e => by injection e with e; omega, fun e => by injection e with e; omega, fun g' e => by injection e with e; omega, trivial⟩
        have hap2 : Apart (some w2.heap.size) [.own (w2.heap.size + 1) 60 65 (some ad1) la.length k1 (la.map chgC).flatten, .own w3.heap.size 60 65 X2 lb.length k2 (lb.map chgC).flatten, .cells w4.heap.size 33 [.slice (some ad1) la.length k1], .cells (w4.heap.size + 1) 33 [.slice X2 lb.length k2], .kept w w.heap.size] := ⟨fun g' e => .inl (by injection e with e; omega), fun g' e => .inl (by injection e with e; omega), fun e => by injection e with e; omega, fun e => by injection e with e; omega, fun g' e => by injection e with e; omega, trivial⟩
        obtain ⟨hM1, hM2, hM3⟩ := out_more hV hap1 (by omega) hown3 hg3 hap2
        have c2 : w9.cell? ⟨w2.heap.size, 0, none⟩ = some (.slice A r.length c) := Cells.cell (hM1.at_ 1 rfl) (i := 0) (by simp)
        have f2 : w9.frozen? ⟨w2.heap.size, 0, none⟩ = false := Cells.frozen (hM1.at_ 1 rfl) 0
        gi_wp2
        clear c2 f2
        have hM4 : All (w9.setCell ⟨w2.heap.size, 0, none⟩ (.slice A3 (r.length + 1) c3)) [.own (w4.heap.size + 1 + 1) 60 65 A3 (r ++ [(⟨v.p, v.n, z32⟩ : C)]).length c3 ((r ++ [(⟨v.p, v.n, z32⟩ : C)]).map chgC).flatten, .cells w2.heap.size 33 [.slice A3 (r ++ [(⟨v.p, v.n, z32⟩ : C)]).length c3], .own (w2.heap.size + 1) 60 65 (some ad1) la.length k1 (la.map chgC).flatten, .own w3.heap.size 60 65 X2 lb.length k2 (lb.map chgC).flatten, .cells w4.heap.size 33 [.slice (some ad1) la.length k1], .cells (w4.heap.size + 1) 33 [.slice X2 lb.length k2], .kept w w.heap.size] := by
          rw [List.length_append, List.map_append, List.flatten_append]
          simpa using hM2
        have hM5 : (w4.heap.size + 1 + 1) ≤ (w9.setCell ⟨w2.heap.size, 0, none⟩ (.slice A3 (r.length + 1) c3)).heap.size := by
          have := hg3.size
          rw [size_setCell]
          omega
        exact ⟨hKO.trans hM3, fun _ => LOWS.out _ _ _ _ hM4 hM5, A3, c3, r ++ [(⟨v.p, v.n, z32⟩ : C)], HRUN.out _ HF.out, hM4, hM5⟩
    | r j =>
      have hel2 : Els W W.heap.size 65 X2 lb.length (lb.map chgC) := Els.of (hI.at_ 3 rfl) (chgs_len HLB.out) (by rw [List.length_map])
      obtain ⟨ad2, rfl, -, -⟩ := Els.elem hel2 j.isLt
      clear hel2
      have HF : Hid (difF z32 (lookF la lb (It.r j)) = some (some lb[j.val])) := Lib.hid rfl
      have HY : Hid (∀ W, All W [.own (w4.heap.size + 1 + 1) 60 65 A r.length c (r.map chgC).flatten, .cells w2.heap.size 33 [.slice A r.length c], .own (w2.heap.size + 1) 60 65 X1 la.length k1 (la.map chgC).flatten, .own w3.heap.size 60 65 (some ad2) lb.length k2 (lb.map chgC).flatten, .cells w4.heap.size 33 [.slice X1 la.length k1], .cells (w4.heap.size + 1) 33 [.slice (some ad2) lb.length k2], .kept w w.heap.size] → (∀ q s, (chgC lb[j.val])[q]? = some s → W.cell? ((ad2.add (j.val * 65)).add q) = some s) ∧ True) := Lib.hid (fun W hW => by
        have hel : Els W W.heap.size 65 (some ad2) lb.length (lb.map chgC) := Els.of (hW.at_ 3 rfl) (chgs_len HLB.out) (by rw [List.length_map])
        obtain ⟨ad', e, -, hc⟩ := Els.elem hel j.isLt
        obtain rfl := Option.some.inj e
        exact ⟨hc, trivial⟩)
      have hxu := Lib.hid (HLB.out _ (List.getElem_mem j.isLt))
      generalize lb[j.val] = u at *
      simp only [itX, itY, ptrA, Option.map_some]
      gi_wp2
      refine wpIn_region_hopsJ 5 [42, 43, 44, 45, 46] [.own (w4.heap.size + 1 + 1) 60 65 A r.length c (r.map chgC).flatten, .cells w2.heap.size 33 [.slice A r.length c], .own (w2.heap.size + 1) 60 65 X1 la.length k1 (la.map chgC).flatten, .own w3.heap.size 60 65 (some ad2) lb.length k2 (lb.map chgC).flatten, .cells w4.heap.size 33 [.slice X1 la.length k1], .cells (w4.heap.size + 1) 33 [.slice (some ad2) lb.length k2], .kept w w.heap.size] (fun V => KeepsOthers W V ∧ (w4.heap.size + 1 + 1) ≤ V.heap.size)
        [.eq (.slice A r.length c), .eq (.pointer (some (ad2.add (j.val * 65)))), .eq (.pointer (some (ad2.add (j.val * 65)))), .eq (.agg (chgC u).toArray), .rd 65 1 (chgC u)]
        (fun _ => trivial) (by kernel_rfl) (by kernel_rfl) (fun w1 w2 hg hj => ⟨hj.1.trans (.of_grownBy hg (fun j o e => by cases e)), Nat.le_trans hj.2 hg.size⟩) ⟨hI, .refl W, hsz⟩ rfl ?hops ?fin
      case hops =>
        refine ⟨?_, ?_, ?_, ?_, ?_, trivial⟩
        · intro a' W hW hb hd K hK
          have b6 := hb 6 rfl
          have q1 : W.cell? ⟨w2.heap.size, 0, none⟩ = some (.slice A r.length c) := Cells.cell (hW.1.at_ 1 rfl) (i := 0) (by simp)
          refine ⟨fun _ _ => trivial, ?_⟩
          go_simp
          exact hK _ _ (World.grownBy.refl _ _) rfl
        · intro a' W hW hb hd K hK
          have b8 := hb 8 rfl
          refine ⟨fun _ _ => trivial, ?_⟩
          go_simp
          exact hK _ _ (World.grownBy.refl _ _) rfl
        · intro a' W hW hb hd K hK
          have b43 : a'.tmps[43]?.getD undef = _ := hd ⟨1, .data⟩ (by simp) rfl
          refine ⟨fun _ _ => trivial, ?_⟩
          go_simp
          exact hK _ _ (World.grownBy.refl _ _) rfl
        · intro a' W hW hb hd K hK
          have b44 : a'.tmps[44]?.getD undef = _ := hd ⟨2, .data⟩ (by simp) rfl
          refine wpIn_load_any (fun _ => trivial) 60 (.tmp 44) rfl (ad2.add (j.val * 65)) (show a'.eval (.tmp 44) = _ from by simp only [Act.eval, Array.getD_eq_getD_getElem?]; exact b44) (chgC u) _ ((HY.out W hW.1).1) Tryd.underlying60 rfl (by rw [chgC_len hxu.out]; kernel_rfl) ?_
          exact hK _ _ (World.grownBy.refl _ _) rfl
        · intro a' W hW hb hd K hK
          have b45 : a'.tmps[45]?.getD undef = _ := hd ⟨3, .data⟩ (by simp) rfl
          refine wpIn_lit1 (fun _ => trivial) el_chg (.tmp 45) rfl (chgC u) (show a'.eval (.tmp 45) = _ from by simp only [Act.eval, Array.getD_eq_getD_getElem?]; exact b45) (chgC_len hxu.out) (by decide) ?_
          exact hK _ _ (grown_alloc _ _) ⟨_, _, rfl, by have := Rd.lit W (chgC u).toArray 60 1 (size := 65) (by rw [List.size_toArray]; exact chgC_len hxu.out); simpa using this⟩
      case fin =>
        intro vs V ⟨hV, hKO, hVs⟩ hv
        have e0 : vs 0 = _ := hv 0 (by decide)
        obtain ⟨A9, c9, e9, hRd⟩ := (hv 4 (by decide) : VF.ok (.rd 65 1 (chgC u)) (vs 4) V)
        clear hv
        simp only [putAll, List.drop_succ_cons, List.drop_zero, e0, e9, Act.put, List.setIfInBounds_toArray, List.set_cons_succ, List.set_cons_zero]
        clear e0 e9
        refine wlIn_app el_chg rfl (.tmp 42) (.tmp 46) rfl (w4.heap.size + 1 + 1) A r.length c ((r.map chgC).flatten) rfl (hV.at_ 0 rfl) V.heap.size A9 1 c9 (chgC u) rfl hRd (chgC_one _) (by omega) hVs ?_
        intro A3 c3 w9 hown3 hg3 hob3
        have hlt1 := fun g (hg : (Value.slice X1 la.length k1).ownBlock = some g) => Nat.lt_of_lt_of_le (HX1.out g hg) hs43
        have hap1 : ∀ g, (w4.heap.size + 1 + 1) ≤ g → (Value.slice A r.length c).ownBlock = some g → Apart (some g) [.own (w2.heap.size + 1) 60 65 X1 la.length k1 (la.map chgC).flatten, .own w3.heap.size 60 65 (some ad2) lb.length k2 (lb.map chgC).flatten, .cells w4.heap.size 33 [.slice X1 la.length k1], .cells (w4.heap.size + 1) 33 [.slice (some ad2) lb.length k2], .kept w w.heap.size] := fun g hg hg2 => ⟨fun g' e => .inr (fun e2 => by injection e with e; subst e; have := HX1.out _ e2; omega), fun g' e => .inr (fun e2 => by injection e with e; subst e; have := HX2.out _ e2; omega), fun e => by injection e with e; omega, fun e => by injection e with e; omega, fun g' e => by injection e with e; omega, trivial⟩
        have hap2 : Apart (some w2.heap.size) [.own (w2.heap.size + 1) 60 65 X1 la.length k1 (la.map chgC).flatten, .own w3.heap.size 60 65 (some ad2) lb.length k2 (lb.map chgC).flatten, .cells w4.heap.size 33 [.slice X1 la.length k1], .cells (w4.heap.size + 1) 33 [.slice (some ad2) lb.length k2], .kept w w.heap.size] := ⟨fun g' e => .inl (by injection e with e; omega), fun g' e => .inl (by injection e with e; omega), fun e => by injection e with e; omega, fun e => by injection e with e; omega, fun g' e => by injection e with e; omega, trivial⟩
        obtain ⟨hM1, hM2, hM3⟩ := out_more hV hap1 (by omega) hown3 hg3 hap2
        have c2 : w9.cell? ⟨w2.heap.size, 0, none⟩ = some (.slice A r.length c) := Cells.cell (hM1.at_ 1 rfl) (i := 0) (by simp)
        have f2 : w9.frozen? ⟨w2.heap.size, 0, none⟩ = false := Cells.frozen (hM1.at_ 1 rfl) 0
        gi_wp2
        clear c2 f2
        have hM4 : All (w9.setCell ⟨w2.heap.size, 0, none⟩ (.slice A3 (r.length + 1) c3)) [.own (w4.heap.size + 1 + 1) 60 65 A3 (r ++ [u]).length c3 ((r ++ [u]).map chgC).flatten, .cells w2.heap.size 33 [.slice A3 (r ++ [u]).length c3], .own (w2.heap.size + 1) 60 65 X1 la.length k1 (la.map chgC).flatten, .own w3.heap.size 60 65 (some ad2) lb.length k2 (lb.map chgC).flatten, .cells w4.heap.size 33 [.slice X1 la.length k1], .cells (w4.heap.size + 1) 33 [.slice (some ad2) lb.length k2], .kept w w.heap.size] := by
          rw [List.length_append, List.map_append, List.flatten_append]
          simpa using hM2
        have hM5 : (w4.heap.size + 1 + 1) ≤ (w9.setCell ⟨w2.heap.size, 0, none⟩ (.slice A3 (r.length + 1) c3)).heap.size := by
          have := hg3.size
          rw [size_setCell]
          omega
        exact ⟨hKO.trans hM3, fun _ => LOWS.out _ _ _ _ hM4 hM5, A3, c3, r ++ [u], HRUN.out _ HF.out, hM4, hM5⟩
    | e i j =>
      have hel1 : Els W W.heap.size 65 X1 la.length (la.map chgC) := Els.of (hI.at_ 2 rfl) (chgs_len HLA.out) (by rw [List.length_map])
      obtain ⟨ad1, rfl, -, -⟩ := Els.elem hel1 i.isLt
      clear hel1
      have hel2 : Els W W.heap.size 65 X2 lb.length (lb.map chgC) := Els.of (hI.at_ 3 rfl) (chgs_len HLB.out) (by rw [List.length_map])
      obtain ⟨ad2, rfl, -, -⟩ := Els.elem hel2 j.isLt
      clear hel2
      have HF0 : Hid (∀ v u, la[i.val] = v → lb[j.val] = u → difF z32 (lookF la lb (It.e i j)) = if v.n = u.n then some none else some (some ⟨v.p, v.n, u.n⟩)) := Lib.hid (fun v u hv hu => by subst hv; subst hu; rfl)
      have HX : Hid (∀ W, All W [.own (w4.heap.size + 1 + 1) 60 65 A r.length c (r.map chgC).flatten, .cells w2.heap.size 33 [.slice A r.length c], .own (w2.heap.size + 1) 60 65 (some ad1) la.length k1 (la.map chgC).flatten, .own w3.heap.size 60 65 (some ad2) lb.length k2 (lb.map chgC).flatten, .cells w4.heap.size 33 [.slice (some ad1) la.length k1], .cells (w4.heap.size + 1) 33 [.slice (some ad2) lb.length k2], .kept w w.heap.size] → (∀ q s, (chgC la[i.val])[q]? = some s → W.cell? ((ad1.add (i.val * 65)).add q) = some s) ∧ True) := Lib.hid (fun W hW => by
        have hel : Els W W.heap.size 65 (some ad1) la.length (la.map chgC) := Els.of (hW.at_ 2 rfl) (chgs_len HLA.out) (by rw [List.length_map])
        obtain ⟨ad', e, -, hc⟩ := Els.elem hel i.isLt
        obtain rfl := Option.some.inj e
        exact ⟨hc, trivial⟩)
      have hxv := Lib.hid (HLA.out _ (List.getElem_mem i.isLt))
      have HY : Hid (∀ W, All W [.own (w4.heap.size + 1 + 1) 60 65 A r.length c (r.map chgC).flatten, .cells w2.heap.size 33 [.slice A r.length c], .own (w2.heap.size + 1) 60 65 (some ad1) la.length k1 (la.map chgC).flatten, .own w3.heap.size 60 65 (some ad2) lb.length k2 (lb.map chgC).flatten, .cells w4.heap.size 33 [.slice (some ad1) la.length k1], .cells (w4.heap.size + 1) 33 [.slice (some ad2) lb.length k2], .kept w w.heap.size] → (∀ q s, (chgC lb[j.val])[q]? = some s → W.cell? ((ad2.add (j.val * 65)).add q) = some s) ∧ True) := Lib.hid (fun W hW => by
        have hel : Els W W.heap.size 65 (some ad2) lb.length (lb.map chgC) := Els.of (hW.at_ 3 rfl) (chgs_len HLB.out) (by rw [List.length_map])
        obtain ⟨ad', e, -, hc⟩ := Els.elem hel j.isLt
        obtain rfl := Option.some.inj e
        exact ⟨hc, trivial⟩)
      have hxu := Lib.hid (HLB.out _ (List.getElem_mem j.isLt))
      obtain ⟨v, hv⟩ : ∃ v, la[i.val] = v := ⟨_, rfl⟩
      obtain ⟨u, hu⟩ : ∃ u, lb[j.val] = u := ⟨_, rfl⟩
      have HF1 := Lib.hid (HF0.out v u hv hu)
      rw [hv] at HX hxv
      rw [hu] at HY hxu
      clear hv hu HF0
      simp only [itX, itY, ptrA, Option.map_some]
      gi_wp2
      cases hq : decide (v.n = u.n) with
      | true =>
        have HF : Hid (difF z32 (lookF la lb (It.e i j)) = some none) := Lib.hid (by rw [HF1.out, if_pos (of_decide_eq_true hq)])
        have HQ : Hid (Value.bool (!decide (v.n = u.n)) = .bool false) := Lib.hid (by rw [hq]; rfl)
        clear hq
        refine wpIn_region_hopsJ 9 [49, 50, 51, 52, 53, 54, 55, 56, 57] [.own (w4.heap.size + 1 + 1) 60 65 A r.length c (r.map chgC).flatten, .cells w2.heap.size 33 [.slice A r.length c], .own (w2.heap.size + 1) 60 65 (some ad1) la.length k1 (la.map chgC).flatten, .own w3.heap.size 60 65 (some ad2) lb.length k2 (lb.map chgC).flatten, .cells w4.heap.size 33 [.slice (some ad1) la.length k1], .cells (w4.heap.size + 1) 33 [.slice (some ad2) lb.length k2], .kept w w.heap.size] (fun V => KeepsOthers W V ∧ (w4.heap.size + 1 + 1) ≤ V.heap.size)
          [.eq (.pointer (some (ad1.add (i.val * 65)))), .eq (.pointer (some (ad1.add (i.val * 65)))), .eq (.pointer (some ((ad1.add (i.val * 65)).add 33))), .eq (.agg (v.n.map bv).toArray), .eq (.pointer (some (ad2.add (j.val * 65)))), .eq (.pointer (some (ad2.add (j.val * 65)))), .eq (.pointer (some ((ad2.add (j.val * 65)).add 33))), .eq (.agg (u.n.map bv).toArray), .eq (.bool false)]
          (fun _ => trivial) (by kernel_rfl) (by kernel_rfl) (fun w1 w2 hg hj => ⟨hj.1.trans (.of_grownBy hg (fun j o e => by cases e)), Nat.le_trans hj.2 hg.size⟩) ⟨hI, .refl W, hsz⟩ rfl ?hops ?fin
        case hops =>
          refine ⟨?_, ?_, ?_, ?_, ?_, ?_, ?_, ?_, ?_, trivial⟩
          · intro a' W hW hb hd K hK
            have b7 := hb 7 rfl
            refine ⟨fun _ _ => trivial, ?_⟩
            go_simp
            exact hK _ _ (World.grownBy.refl _ _) rfl
          · intro a' W hW hb hd K hK
            have b49 : a'.tmps[49]?.getD undef = _ := hd ⟨0, .data⟩ (by simp) rfl
            refine ⟨fun _ _ => trivial, ?_⟩
            go_simp
            exact hK _ _ (World.grownBy.refl _ _) rfl
          · intro a' W hW hb hd K hK
            have b50 : a'.tmps[50]?.getD undef = _ := hd ⟨1, .data⟩ (by simp) rfl
            refine ⟨fun _ _ => trivial, ?_⟩
            go_simp
            exact hK _ _ (World.grownBy.refl _ _) (by first | rfl | (rw [add_zero]; rfl) | (simp [add_zero]; rfl))
          · intro a' W hW hb hd K hK
            have b51 : a'.tmps[51]?.getD undef = _ := hd ⟨2, .data⟩ (by simp) rfl
            refine wpIn_load_any (fun _ => trivial) 51 (.tmp 51) rfl ((ad1.add (i.val * 65)).add 33) (show a'.eval (.tmp 51) = _ from by simp only [Act.eval, Array.getD_eq_getD_getElem?]; exact b51) (v.n.map bv) _ (fun q s hs => by rw [add_add]; exact (HX.out W hW.1).1 _ s (chg_sub2 hxv.out q s hs)) Tryd.underlying51 rfl (by rw [List.length_map, hxv.out.2.1]; kernel_rfl) ?_
            exact hK _ _ (World.grownBy.refl _ _) rfl
          · intro a' W hW hb hd K hK
            have b8 := hb 8 rfl
            refine ⟨fun _ _ => trivial, ?_⟩
            go_simp
            exact hK _ _ (World.grownBy.refl _ _) rfl
          · intro a' W hW hb hd K hK
            have b53 : a'.tmps[53]?.getD undef = _ := hd ⟨4, .data⟩ (by simp) rfl
            refine ⟨fun _ _ => trivial, ?_⟩
            go_simp
            exact hK _ _ (World.grownBy.refl _ _) rfl
          · intro a' W hW hb hd K hK
            have b54 : a'.tmps[54]?.getD undef = _ := hd ⟨5, .data⟩ (by simp) rfl
            refine ⟨fun _ _ => trivial, ?_⟩
            go_simp
            exact hK _ _ (World.grownBy.refl _ _) (by first | rfl | (rw [add_zero]; rfl) | (simp [add_zero]; rfl))
          · intro a' W hW hb hd K hK
            have b55 : a'.tmps[55]?.getD undef = _ := hd ⟨6, .data⟩ (by simp) rfl
            refine wpIn_load_any (fun _ => trivial) 51 (.tmp 55) rfl ((ad2.add (j.val * 65)).add 33) (show a'.eval (.tmp 55) = _ from by simp only [Act.eval, Array.getD_eq_getD_getElem?]; exact b55) (u.n.map bv) _ (fun q s hs => by rw [add_add]; exact (HY.out W hW.1).1 _ s (chg_sub2 hxu.out q s hs)) Tryd.underlying51 rfl (by rw [List.length_map, hxu.out.2.1]; kernel_rfl) ?_
            exact hK _ _ (World.grownBy.refl _ _) rfl
          · intro a' W hW hb hd K hK
            have b52 : a'.tmps[52]?.getD undef = _ := hd ⟨3, .data⟩ (by simp) rfl
            have b56 : a'.tmps[56]?.getD undef = _ := hd ⟨7, .data⟩ (by simp) rfl
            refine wpIn_neq0 (fun _ => trivial) (.tmp 52) (.tmp 56) rfl (.bool false) (by rw [(show a'.eval (.tmp 52) = _ from by simp only [Act.eval, Array.getD_eq_getD_getElem?]; exact b52), (show a'.eval (.tmp 56) = _ from by simp only [Act.eval, Array.getD_eq_getD_getElem?]; exact b56), ne_dg W v.n u.n hxv.out.2.1 hxu.out.2.1, HQ.out]) (by go_simp) ?_
            exact hK _ _ (World.grownBy.refl _ _) rfl
        case fin =>
          intro vs V0 ⟨hV0, hKO0, hVs0⟩ hv
          have e8 : vs 8 = _ := hv 8 (by decide)
          clear hv
          simp only [putAll, List.drop_succ_cons, List.drop_zero, e8, Act.put, List.setIfInBounds_toArray, List.set_cons_succ, List.set_cons_zero]
          clear e8
          gi_wp2
          exact ⟨hKO0, fun _ => LOWS.out _ _ _ _ hV0 hVs0, A, c, r, by have := HRUN.out _ HF.out; rwa [Option.toList_none, List.append_nil] at this, hV0, hVs0⟩
      | false =>
        have HF : Hid (difF z32 (lookF la lb (It.e i j)) = some (some ⟨v.p, v.n, u.n⟩)) := Lib.hid (by rw [HF1.out, if_neg (of_decide_eq_false hq)])
        have HQ : Hid (Value.bool (!decide (v.n = u.n)) = .bool true) := Lib.hid (by rw [hq]; rfl)
        clear hq
        refine wpIn_region_hopsJ 9 [49, 50, 51, 52, 53, 54, 55, 56, 57] [.own (w4.heap.size + 1 + 1) 60 65 A r.length c (r.map chgC).flatten, .cells w2.heap.size 33 [.slice A r.length c], .own (w2.heap.size + 1) 60 65 (some ad1) la.length k1 (la.map chgC).flatten, .own w3.heap.size 60 65 (some ad2) lb.length k2 (lb.map chgC).flatten, .cells w4.heap.size 33 [.slice (some ad1) la.length k1], .cells (w4.heap.size + 1) 33 [.slice (some ad2) lb.length k2], .kept w w.heap.size] (fun V => KeepsOthers W V ∧ (w4.heap.size + 1 + 1) ≤ V.heap.size)
          [.eq (.pointer (some (ad1.add (i.val * 65)))), .eq (.pointer (some (ad1.add (i.val * 65)))), .eq (.pointer (some ((ad1.add (i.val * 65)).add 33))), .eq (.agg (v.n.map bv).toArray), .eq (.pointer (some (ad2.add (j.val * 65)))), .eq (.pointer (some (ad2.add (j.val * 65)))), .eq (.pointer (some ((ad2.add (j.val * 65)).add 33))), .eq (.agg (u.n.map bv).toArray), .eq (.bool true)]
          (fun _ => trivial) (by kernel_rfl) (by kernel_rfl) (fun w1 w2 hg hj => ⟨hj.1.trans (.of_grownBy hg (fun j o e => by cases e)), Nat.le_trans hj.2 hg.size⟩) ⟨hI, .refl W, hsz⟩ rfl ?hops ?fin
        case hops =>
          refine ⟨?_, ?_, ?_, ?_, ?_, ?_, ?_, ?_, ?_, trivial⟩
          · intro a' W hW hb hd K hK
            have b7 := hb 7 rfl
            refine ⟨fun _ _ => trivial, ?_⟩
            go_simp
            exact hK _ _ (World.grownBy.refl _ _) rfl
          · intro a' W hW hb hd K hK
            have b49 : a'.tmps[49]?.getD undef = _ := hd ⟨0, .data⟩ (by simp) rfl
            refine ⟨fun _ _ => trivial, ?_⟩
            go_simp
            exact hK _ _ (World.grownBy.refl _ _) rfl
          · intro a' W hW hb hd K hK
            have b50 : a'.tmps[50]?.getD undef = _ := hd ⟨1, .data⟩ (by simp) rfl
            refine ⟨fun _ _ => trivial, ?_⟩
            go_simp
            exact hK _ _ (World.grownBy.refl _ _) (by first | rfl | (rw [add_zero]; rfl) | (simp [add_zero]; rfl))
          · intro a' W hW hb hd K hK
            have b51 : a'.tmps[51]?.getD undef = _ := hd ⟨2, .data⟩ (by simp) rfl
            refine wpIn_load_any (fun _ => trivial) 51 (.tmp 51) rfl ((ad1.add (i.val * 65)).add 33) (show a'.eval (.tmp 51) = _ from by simp only [Act.eval, Array.getD_eq_getD_getElem?]; exact b51) (v.n.map bv) _ (fun q s hs => by rw [add_add]; exact (HX.out W hW.1).1 _ s (chg_sub2 hxv.out q s hs)) Tryd.underlying51 rfl (by rw [List.length_map, hxv.out.2.1]; kernel_rfl) ?_
            exact hK _ _ (World.grownBy.refl _ _) rfl
          · intro a' W hW hb hd K hK
            have b8 := hb 8 rfl
            refine ⟨fun _ _ => trivial, ?_⟩
            go_simp
            exact hK _ _ (World.grownBy.refl _ _) rfl
          · intro a' W hW hb hd K hK
            have b53 : a'.tmps[53]?.getD undef = _ := hd ⟨4, .data⟩ (by simp) rfl
            refine ⟨fun _ _ => trivial, ?_⟩
            go_simp
            exact hK _ _ (World.grownBy.refl _ _) rfl
          · intro a' W hW hb hd K hK
            have b54 : a'.tmps[54]?.getD undef = _ := hd ⟨5, .data⟩ (by simp) rfl
            refine ⟨fun _ _ => trivial, ?_⟩
            go_simp
            exact hK _ _ (World.grownBy.refl _ _) (by first | rfl | (rw [add_zero]; rfl) | (simp [add_zero]; rfl))
          · intro a' W hW hb hd K hK
            have b55 : a'.tmps[55]?.getD undef = _ := hd ⟨6, .data⟩ (by simp) rfl
            refine wpIn_load_any (fun _ => trivial) 51 (.tmp 55) rfl ((ad2.add (j.val * 65)).add 33) (show a'.eval (.tmp 55) = _ from by simp only [Act.eval, Array.getD_eq_getD_getElem?]; exact b55) (u.n.map bv) _ (fun q s hs => by rw [add_add]; exact (HY.out W hW.1).1 _ s (chg_sub2 hxu.out q s hs)) Tryd.underlying51 rfl (by rw [List.length_map, hxu.out.2.1]; kernel_rfl) ?_
            exact hK _ _ (World.grownBy.refl _ _) rfl
          · intro a' W hW hb hd K hK
            have b52 : a'.tmps[52]?.getD undef = _ := hd ⟨3, .data⟩ (by simp) rfl
            have b56 : a'.tmps[56]?.getD undef = _ := hd ⟨7, .data⟩ (by simp) rfl
            refine wpIn_neq0 (fun _ => trivial) (.tmp 52) (.tmp 56) rfl (.bool true) (by rw [(show a'.eval (.tmp 52) = _ from by simp only [Act.eval, Array.getD_eq_getD_getElem?]; exact b52), (show a'.eval (.tmp 56) = _ from by simp only [Act.eval, Array.getD_eq_getD_getElem?]; exact b56), ne_dg W v.n u.n hxv.out.2.1 hxu.out.2.1, HQ.out]) (by go_simp) ?_
            exact hK _ _ (World.grownBy.refl _ _) rfl
        case fin =>
          intro vs V0 ⟨hV0, hKO0, hVs0⟩ hv
          have e8 : vs 8 = _ := hv 8 (by decide)
          clear hv
          simp only [putAll, List.drop_succ_cons, List.drop_zero, e8, Act.put, List.setIfInBounds_toArray, List.set_cons_succ, List.set_cons_zero]
          clear e8
          gi_wp2
          refine wpIn_region_hopsJ 15 [58, 59, 60, 61, 62, 63, 64, 65, 66, 67, 68, 69, 70, 71, 72] [.own (w4.heap.size + 1 + 1) 60 65 A r.length c (r.map chgC).flatten, .cells w2.heap.size 33 [.slice A r.length c], .own (w2.heap.size + 1) 60 65 (some ad1) la.length k1 (la.map chgC).flatten, .own w3.heap.size 60 65 (some ad2) lb.length k2 (lb.map chgC).flatten, .cells w4.heap.size 33 [.slice (some ad1) la.length k1], .cells (w4.heap.size + 1) 33 [.slice (some ad2) lb.length k2], .kept w w.heap.size] (fun V => KeepsOthers W V ∧ (w4.heap.size + 1 + 1) ≤ V.heap.size)
            [.eq (.slice A r.length c), .eq (.pointer (some (ad1.add (i.val * 65)))), .eq (.pointer (some (ad1.add (i.val * 65)))), .eq (.pointer (some (ad1.add (i.val * 65)))), .eq (.string v.p), .eq (.pointer (some (ad1.add (i.val * 65)))), .eq (.pointer (some (ad1.add (i.val * 65)))), .eq (.pointer (some ((ad1.add (i.val * 65)).add 33))), .eq (.agg (v.n.map bv).toArray), .eq (.pointer (some (ad2.add (j.val * 65)))), .eq (.pointer (some (ad2.add (j.val * 65)))), .eq (.pointer (some ((ad2.add (j.val * 65)).add 33))), .eq (.agg (u.n.map bv).toArray), .eq (.agg (chgC ⟨v.p, v.n, u.n⟩).toArray), .rd 65 1 (chgC ⟨v.p, v.n, u.n⟩)]
            (fun _ => trivial) (by kernel_rfl) (by kernel_rfl) (fun w1 w2 hg hj => ⟨hj.1.trans (.of_grownBy hg (fun j o e => by cases e)), Nat.le_trans hj.2 hg.size⟩) ⟨hV0, hKO0, hVs0⟩ rfl ?hops ?fin
          case hops =>
            refine ⟨?_, ?_, ?_, ?_, ?_, ?_, ?_, ?_, ?_, ?_, ?_, ?_, ?_, ?_, ?_, trivial⟩
            · intro a' W hW hb hd K hK
              have b6 := hb 6 rfl
              have q1 : W.cell? ⟨w2.heap.size, 0, none⟩ = some (.slice A r.length c) := Cells.cell (hW.1.at_ 1 rfl) (i := 0) (by simp)
              refine ⟨fun _ _ => trivial, ?_⟩
              go_simp
              exact hK _ _ (World.grownBy.refl _ _) rfl
            · intro a' W hW hb hd K hK
              have b7 := hb 7 rfl
              refine ⟨fun _ _ => trivial, ?_⟩
              go_simp
              exact hK _ _ (World.grownBy.refl _ _) rfl
            · intro a' W hW hb hd K hK
              have b59 : a'.tmps[59]?.getD undef = _ := hd ⟨1, .data⟩ (by simp) rfl
              refine ⟨fun _ _ => trivial, ?_⟩
              go_simp
              exact hK _ _ (World.grownBy.refl _ _) rfl
            · intro a' W hW hb hd K hK
              have b60 : a'.tmps[60]?.getD undef = _ := hd ⟨2, .data⟩ (by simp) rfl
              refine ⟨fun _ _ => trivial, ?_⟩
              go_simp
              exact hK _ _ (World.grownBy.refl _ _) (by first | rfl | (rw [add_zero]; rfl) | (simp [add_zero]; rfl))
            · intro a' W hW hb hd K hK
              have b61 : a'.tmps[61]?.getD undef = _ := hd ⟨3, .data⟩ (by simp) rfl
              have q1 : W.cell? (ad1.add (i.val * 65)) = some (.string v.p) := by have := (HX.out W hW.1).1 0 (sv v.p) rfl; rwa [add_zero] at this
              refine ⟨fun _ _ => trivial, ?_⟩
              go_simp
              exact hK _ _ (World.grownBy.refl _ _) rfl
            · intro a' W hW hb hd K hK
              have b7 := hb 7 rfl
              refine ⟨fun _ _ => trivial, ?_⟩
              go_simp
              exact hK _ _ (World.grownBy.refl _ _) rfl
            · intro a' W hW hb hd K hK
              have b63 : a'.tmps[63]?.getD undef = _ := hd ⟨5, .data⟩ (by simp) rfl
              refine ⟨fun _ _ => trivial, ?_⟩
              go_simp
              exact hK _ _ (World.grownBy.refl _ _) rfl
            · intro a' W hW hb hd K hK
              have b64 : a'.tmps[64]?.getD undef = _ := hd ⟨6, .data⟩ (by simp) rfl
              refine ⟨fun _ _ => trivial, ?_⟩
              go_simp
              exact hK _ _ (World.grownBy.refl _ _) (by first | rfl | (rw [add_zero]; rfl) | (simp [add_zero]; rfl))
            · intro a' W hW hb hd K hK
              have b65 : a'.tmps[65]?.getD undef = _ := hd ⟨7, .data⟩ (by simp) rfl
              refine wpIn_load_any (fun _ => trivial) 51 (.tmp 65) rfl ((ad1.add (i.val * 65)).add 33) (show a'.eval (.tmp 65) = _ from by simp only [Act.eval, Array.getD_eq_getD_getElem?]; exact b65) (v.n.map bv) _ (fun q s hs => by rw [add_add]; exact (HX.out W hW.1).1 _ s (chg_sub2 hxv.out q s hs)) Tryd.underlying51 rfl (by rw [List.length_map, hxv.out.2.1]; kernel_rfl) ?_
              exact hK _ _ (World.grownBy.refl _ _) rfl
            · intro a' W hW hb hd K hK
              have b8 := hb 8 rfl
              refine ⟨fun _ _ => trivial, ?_⟩
              go_simp
              exact hK _ _ (World.grownBy.refl _ _) rfl
            · intro a' W hW hb hd K hK
              have b67 : a'.tmps[67]?.getD undef = _ := hd ⟨9, .data⟩ (by simp) rfl
              refine ⟨fun _ _ => trivial, ?_⟩
              go_simp
              exact hK _ _ (World.grownBy.refl _ _) rfl
            · intro a' W hW hb hd K hK
              have b68 : a'.tmps[68]?.getD undef = _ := hd ⟨10, .data⟩ (by simp) rfl
              refine ⟨fun _ _ => trivial, ?_⟩
              go_simp
              exact hK _ _ (World.grownBy.refl _ _) (by first | rfl | (rw [add_zero]; rfl) | (simp [add_zero]; rfl))
            · intro a' W hW hb hd K hK
              have b69 : a'.tmps[69]?.getD undef = _ := hd ⟨11, .data⟩ (by simp) rfl
              refine wpIn_load_any (fun _ => trivial) 51 (.tmp 69) rfl ((ad2.add (j.val * 65)).add 33) (show a'.eval (.tmp 69) = _ from by simp only [Act.eval, Array.getD_eq_getD_getElem?]; exact b69) (u.n.map bv) _ (fun q s hs => by rw [add_add]; exact (HY.out W hW.1).1 _ s (chg_sub2 hxu.out q s hs)) Tryd.underlying51 rfl (by rw [List.length_map, hxu.out.2.1]; kernel_rfl) ?_
              exact hK _ _ (World.grownBy.refl _ _) rfl
            · intro a' W hW hb hd K hK
              have b62 : a'.tmps[62]?.getD undef = _ := hd ⟨4, .data⟩ (by simp) rfl
              have b66 : a'.tmps[66]?.getD undef = _ := hd ⟨8, .data⟩ (by simp) rfl
              have b70 : a'.tmps[70]?.getD undef = _ := hd ⟨12, .data⟩ (by simp) rfl
              refine wpIn_bld (fun _ => trivial) 60 [(0, .tmp 62), (1, .tmp 66), (2, .tmp 70)] rfl _ _ #[(0, 1), (1, 32), (33, 32)] (chgC ⟨v.p, v.n, u.n⟩).toArray zero_chg Tryd.underlying60 (fun w => by kernel_rfl) ?_ ?_
              · simp only [List.map_cons, List.map_nil]
                rw [(show a'.eval (.tmp 62) = _ from by simp only [Act.eval, Array.getD_eq_getD_getElem?]; exact b62), (show a'.eval (.tmp 66) = _ from by simp only [Act.eval, Array.getD_eq_getD_getElem?]; exact b66), (show a'.eval (.tmp 70) = _ from by simp only [Act.eval, Array.getD_eq_getD_getElem?]; exact b70)]
                exact fill_chg012 v.p v.n u.n hxv.out.2.1 hxu.out.2.1
              exact hK _ _ (World.grownBy.refl _ _) rfl
            · intro a' W hW hb hd K hK
              have b71 : a'.tmps[71]?.getD undef = _ := hd ⟨13, .data⟩ (by simp) rfl
              refine wpIn_lit1 (fun _ => trivial) el_chg (.tmp 71) rfl (chgC ⟨v.p, v.n, u.n⟩) (show a'.eval (.tmp 71) = _ from by simp only [Act.eval, Array.getD_eq_getD_getElem?]; exact b71) (chgC_len ⟨hxv.out.2.1, hxu.out.2.1, hxv.out.2.2⟩) (by decide) ?_
              exact hK _ _ (grown_alloc _ _) ⟨_, _, rfl, by have := Rd.lit W (chgC ⟨v.p, v.n, u.n⟩).toArray 60 1 (size := 65) (by rw [List.size_toArray]; exact chgC_len ⟨hxv.out.2.1, hxu.out.2.1, hxv.out.2.2⟩); simpa using this⟩
          case fin =>
            intro vs V ⟨hV, hKO, hVs⟩ hv
            have e0 : vs 0 = _ := hv 0 (by decide)
            obtain ⟨A9, c9, e9, hRd⟩ := (hv 14 (by decide) : VF.ok (.rd 65 1 (chgC ⟨v.p, v.n, u.n⟩)) (vs 14) V)
            clear hv
            simp only [putAll, List.drop_succ_cons, List.drop_zero, e0, e9, Act.put, List.setIfInBounds_toArray, List.set_cons_succ, List.set_cons_zero]
            clear e0 e9
            refine wlIn_app el_chg rfl (.tmp 58) (.tmp 72) rfl (w4.heap.size + 1 + 1) A r.length c ((r.map chgC).flatten) rfl (hV.at_ 0 rfl) V.heap.size A9 1 c9 (chgC ⟨v.p, v.n, u.n⟩) rfl hRd (chgC_one _) (by omega) hVs ?_
            intro A3 c3 w9 hown3 hg3 hob3
            have hlt1 := fun g (hg : (Value.slice (some ad1) la.length k1).ownBlock = some g) => Nat.lt_of_lt_of_le (HX1.out g hg) hs43
            have hap1 : ∀ g, (w4.heap.size + 1 + 1) ≤ g → (Value.slice A r.length c).ownBlock = some g → Apart (some g) [.own (w2.heap.size + 1) 60 65 (some ad1) la.length k1 (la.map chgC).flatten, .own w3.heap.size 60 65 (some ad2) lb.length k2 (lb.map chgC).flatten, .cells w4.heap.size 33 [.slice (some ad1) la.length k1], .cells (w4.heap.size + 1) 33 [.slice (some ad2) lb.length k2], .kept w w.heap.size] := fun g hg hg2 => ⟨fun g' e => .inr (fun e2 => by injection e with e; subst e; have := HX1.out _ e2; omega), fun g' e => .inr (fun e2 => by injection e with e; subst e; have := HX2.out _ e2; omega), fun e => by injection e with e; omega, fun e => by injection e with e; omega, fun g' e => by injection e with e; omega, trivial⟩
            have hap2 : Apart (some w2.heap.size) [.own (w2.heap.size + 1) 60 65 (some ad1) la.length k1 (la.map chgC).flatten, .own w3.heap.size 60 65 (some ad2) lb.length k2 (lb.map chgC).flatten, .cells w4.heap.size 33 [.slice (some ad1) la.length k1], .cells (w4.heap.size + 1) 33 [.slice (some ad2) lb.length k2], .kept w w.heap.size] := ⟨fun g' e => .inl (by injection e with e; omega), fun g' e => .inl (by injection e with e; omega), fun e => by injection e with e; omega, fun e => by injection e with e; omega, fun g' e => by injection e with e; omega, trivial⟩
            obtain ⟨hM1, hM2, hM3⟩ := out_more hV hap1 (by omega) hown3 hg3 hap2
            have c2 : w9.cell? ⟨w2.heap.size, 0, none⟩ = some (.slice A r.length c) := Cells.cell (hM1.at_ 1 rfl) (i := 0) (by simp)
            have f2 : w9.frozen? ⟨w2.heap.size, 0, none⟩ = false := Cells.frozen (hM1.at_ 1 rfl) 0
            gi_wp2
            clear c2 f2
            have hM4 : All (w9.setCell ⟨w2.heap.size, 0, none⟩ (.slice A3 (r.length + 1) c3)) [.own (w4.heap.size + 1 + 1) 60 65 A3 (r ++ [(⟨v.p, v.n, u.n⟩ : C)]).length c3 ((r ++ [(⟨v.p, v.n, u.n⟩ : C)]).map chgC).flatten, .cells w2.heap.size 33 [.slice A3 (r ++ [(⟨v.p, v.n, u.n⟩ : C)]).length c3], .own (w2.heap.size + 1) 60 65 (some ad1) la.length k1 (la.map chgC).flatten, .own w3.heap.size 60 65 (some ad2) lb.length k2 (lb.map chgC).flatten, .cells w4.heap.size 33 [.slice (some ad1) la.length k1], .cells (w4.heap.size + 1) 33 [.slice (some ad2) lb.length k2], .kept w w.heap.size] := by
              rw [List.length_append, List.map_append, List.flatten_append]
              simpa using hM2
            have hM5 : (w4.heap.size + 1 + 1) ≤ (w9.setCell ⟨w2.heap.size, 0, none⟩ (.slice A3 (r.length + 1) c3)).heap.size := by
              have := hg3.size
              rw [size_setCell]
              omega
            exact ⟨hKO.trans hM3, fun _ => LOWS.out _ _ _ _ hM4 hM5, A3, c3, r ++ [(⟨v.p, v.n, u.n⟩ : C)], HRUN.out _ HF.out, hM4, hM5⟩
  case done =>
    rintro D xs W' hDl hxs ⟨A, c, r, hr, hI, hsz⟩ hK
    subst hxs
    rw [HDR.out] at hr
    obtain rfl := Option.some.inj hr
    have c1 : W'.cell? ⟨w2.heap.size, 0, none⟩ = some (.slice A (diff blt z32 a b).length c) := Cells.cell (hI.at_ 1 rfl) (i := 0) (by simp)
    go_wp2
    refine leaves_all (B := w.heap.size) [D] W' ?_ (by simp) ?_
    · intro D' hD'
      obtain rfl : D' = D := by simpa using hD'
      exact ⟨by rw [hsz0] at hDl; omega, hK⟩
    · intro W'' hW'' _
      have h1 := hW'' [.own (w4.heap.size + 1 + 1) 60 65 A (diff blt z32 a b).length c ((diff blt z32 a b).map chgC).flatten, .cells w2.heap.size 33 [.slice A (diff blt z32 a b).length c], .own (w2.heap.size + 1) 60 65 X1 la.length k1 (la.map chgC).flatten, .own w3.heap.size 60 65 X2 lb.length k2 (lb.map chgC).flatten, .cells w4.heap.size 33 [.slice X1 la.length k1], .cells (w4.heap.size + 1) 33 [.slice X2 lb.length k2], .kept w w.heap.size] ⟨trivial, trivial, trivial, trivial, trivial, trivial, Nat.le_refl _, trivial⟩ hI
      exact ⟨_, results_tmp2 rfl _ _ _, A, c, rfl, Go.Adm.Own.less (h1.at_ 0 rfl) (by omega), (h1.at_ 6 rfl).1⟩
end Go.Proofs.YtmiohkfhmaklgaaDoor

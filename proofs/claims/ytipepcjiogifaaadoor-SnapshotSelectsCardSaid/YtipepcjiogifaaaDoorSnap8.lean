/- Apply. -/
import Derived.Test.YtipepcjiogifaaaDoorSnap7
import Derived.Test.YtipepcjiogifaaaDoorFreeS
set_option linter.unusedSimpArgs false
set_option linter.unusedVariables false
namespace Go.Adm
open Go Go.RowKit
def appR (s : List E) (l : List C) : List E × Int := match runS (appF z32) (both blt (s.map (cre z32)) l) with
  | none => ([], 9)
  | some r => if 64 < r.length then ([], 3) else (r, 0)
theorem boxes2 {g1 g2 n1 n2 : Nat} {t1 t2 : TypeId} {w : World} {cs1 cs2 : List Value} (l1 : cs1.length = n1) (c1 : Cells w g1 t1 cs1) (l2 : cs2.length = n2) (c2 : Cells w g2 t2 cs2) : Boxes [(g1, t1, n1), (g2, t2, n2)] w := by
  intro b hb
  simp only [List.mem_cons, List.not_mem_nil, or_false] at hb
  rcases hb with rfl | rfl
  · exact ⟨cs1, l1, c1⟩
  · exact ⟨cs2, l2, c2⟩
theorem boxes1 {g1 n1 : Nat} {t1 : TypeId} {w : World} {cs1 : List Value} (l1 : cs1.length = n1) (c1 : Cells w g1 t1 cs1) : Boxes [(g1, t1, n1)] w := by
  intro b hb
  simp only [List.mem_cons, List.not_mem_nil, or_false] at hb
  subst hb
  exact ⟨cs1, l1, c1⟩
theorem apart_new {w : World} {g : Nat} (hg : w.heap.size ≤ g) : ∀ {rs : List Res}, All w rs → LowLe w.heap.size rs → Apart (some g) rs
  | [], _, _ => trivial
  | .low l :: rs, h, hl => ⟨fun g' e => by injection e with e; have : l.B ≤ w.heap.size := hl.1; omega, apart_new hg h.2 hl.2⟩
  | .cells g' t cs :: rs, h, hl => ⟨fun e => by injection e with e; have := Cells.lt h.1; omega, apart_new hg h.2 hl.2⟩
  | .own base e size A n c xs :: rs, h, hl => ⟨fun g' e2 => .inr (fun e3 => by injection e2 with e2; subst e2; have := (Own.lt h.1 e3).2; omega), apart_new hg h.2 hl.2⟩
  | .kept w0 B :: rs, h, hl => ⟨fun g' e => by injection e with e; have : B ≤ w.heap.size := hl.1; omega, apart_new hg h.2 hl.2⟩
theorem results_cell2 {P : Program} {fn : Func} {p q : Tmp} {t u : TypeId} (h : fn.results = #[.cell p t, .cell q u]) (tmps : Array Value) (w : World) (g1 g2 : Nat) (v1 v2 : Value) (hp : tmps.getD p undef = .pointer (some ⟨g1, 0, none⟩)) (hq : tmps.getD q undef = .pointer (some ⟨g2, 0, none⟩))
    (h1 : (loadVar t ⟨g1, 0, none⟩).run P w = .ok v1 w) (h2 : (loadVar u ⟨g2, 0, none⟩).run P w = .ok v2 w) : (results fn tmps).run P w = .ok (.tuple #[v1, v2]) w := by
  have hp' : tmps[p]?.getD undef = .pointer (some ⟨g1, 0, none⟩) := by simpa using hp
  have hq' : tmps[q]?.getD undef = .pointer (some ⟨g2, 0, none⟩) := by simpa using hq
  simp [results, h, hp', hq', asAddr, h1, h2]
end Go.Adm
namespace Go.Proofs.YtipepcjiogifaaaDoor
open Go Go.RowKit Go.Adm Go.Shelf
attribute [local go_sem] Oper.semAt_some

set_option maxRecDepth 100000 in
set_option maxHeartbeats 6400000 in
theorem Apply_good (w : World) (B : Nat) (A1 A2 : Option Addr) (c1 c2 : Nat) (a : List E) (lb : List C) (h1 : Els w B 33 A1 a.length (a.map entC)) (h2 : Els w B 65 A2 lb.length (lb.map chgC)) (ha : ∀ e ∈ a, E32 e) (hb : ∀ e ∈ lb, C32 e) (hn1 : a.length ≤ 1000000) (hn2 : lb.length ≤ 1000000) (hB : B ≤ w.heap.size) (hv : validB a = true) (hv2 : changesB lb = true) :
    Calls Tryd.prog 33 #[.slice A1 a.length c1, .slice A2 lb.length c2] w (ResPost entC 33 (appR a lb).1 (appR a lb).2 50 w) := by
  have hR : All w [.low (.els B 33 A1 a.length (a.map entC)), .low (.els B 65 A2 lb.length (lb.map chgC)), .kept w w.heap.size] := ⟨⟨h1, hB⟩, ⟨h2, hB⟩, ⟨Below.refl _ _, Nat.le_refl _⟩, trivial⟩
  have HA := Lib.hid ha
  have HLB := Lib.hid hb
  have HV := Lib.hid hv
  have HV2 := Lib.hid hv2
  clear h1 h2 ha hb hv hv2
  refine (callsIn_wide (n := 3)).1 ?_
  refine callsIn_of_wp_marks Tryd.func33 rfl trivial ?_
  refine wpIn_wide.2 ?_
  simp only [Tryd.ntmps33, List.size_toArray, List.length_cons, List.length_nil, Nat.reduceAdd, Nat.reduceSub, Array.replicate_succ, Array.replicate_zero, List.push_toArray, List.append_toArray, List.nil_append, List.cons_append]
  go_upto_region 1 with (fail)
  have hR0 := (hR.new #[.slice none 0 0] 22 rfl rfl).new #[.int .i64 0] 31 (g := w.heap.size + 1) (by simp) rfl
  refine wp_gen hR0 ?_
  intro w0 hR0
  clear hR
  have hVa := Valid_any w0 B A1 a.length c1 a (hR0.at_ 2 rfl : Els w0 B 33 A1 a.length (a.map entC) ∧ B ≤ w0.heap.size).1 HA.out rfl hn1 (hR0.at_ 2 rfl : Els w0 B 33 A1 a.length (a.map entC) ∧ B ≤ w0.heap.size).2
  rw [HV.out] at hVa
  go_wp2_with (first
    | (refine hVa.mono ?_; clear hVa; rintro e w1 ⟨rfl, hb1⟩; have hR1 := hR0.call hb1; have hVb := changes_any w1 B A2 lb.length c2 lb (hR1.at_ 3 rfl : Els w1 B 65 A2 lb.length (lb.map chgC) ∧ B ≤ w1.heap.size).1 HLB.out rfl hn2 (hR1.at_ 3 rfl : Els w1 B 65 A2 lb.length (lb.map chgC) ∧ B ≤ w1.heap.size).2; rw [HV2.out] at hVb)
    | (refine hVb.mono ?_; clear hVb; rintro e w2 ⟨rfl, hb2⟩; have hR2 := hR1.call hb2))
  have hs2 : w.heap.size ≤ w2.heap.size := hR2.size_kept 4 rfl
  have hs21 : w.heap.size + 1 < w2.heap.size := Cells.lt (hR2.at_ 0 rfl)
  have hR3 := hR2.new #[.slice none 0 0] 22 rfl rfl
  clear hR0 hR1 hR2 hb1 hb2
  refine (creation_any _ B A1 a.length c1 a (hR3.at_ 3 rfl : Els _ B 33 A1 a.length (a.map entC) ∧ B ≤ _).1 HA.out rfl hn1 (hR3.at_ 3 rfl : Els _ B 33 A1 a.length (a.map entC) ∧ B ≤ _).2).mono ?_
  rintro e w4 ⟨X1, k1, rfl, hO1, hb3⟩
  have hs3 := hb3.size
  have hR4 := hR3.call hb3
  rw [show (w2.alloc (.cells #[.slice none 0 0] 22)).heap.size = w2.heap.size + 1 from by simp] at hO1 hs3
  clear hR3 hb3
  have hX1 : ∀ g, (Value.slice X1 (a.map (cre z32)).length k1).ownBlock = some g → g < w4.heap.size := fun g hg => (hO1.lt hg).2
  have HDR : Hid (∀ pre, (∃ t, pre ++ t = bothF (a.map (cre z32)) lb 0 0) → runS (appF z32) (pre.map (lookF _ _)) = none → appR a lb = ([], 9)) := Lib.hid (fun pre ⟨t, ht⟩ hn => by
    have h1 := bothF_map (a.map (cre z32)) lb _ 0 0 (Nat.le_refl _)
    rw [List.drop_zero, List.drop_zero, ← ht, List.map_append] at h1
    unfold appR
    rw [← h1, runS_prefix _ _ _ hn])
  have HDS : Hid (∀ r, runS (appF z32) ((bothF (a.map (cre z32)) lb 0 0).map (lookF _ _)) = some r → appR a lb = if 64 < r.length then ([], 3) else (r, 0)) := Lib.hid (fun r hr => by
    have h1 := bothF_map (a.map (cre z32)) lb _ 0 0 (Nat.le_refl _)
    rw [List.drop_zero, List.drop_zero] at h1
    unfold appR
    rw [← h1, hr])
  have HLA : Hid (∀ c ∈ a.map (cre z32), C32 c) := Lib.hid (fun c hc => by obtain ⟨x, hx, rfl⟩ := List.mem_map.1 hc; exact cre_32 (HA.out x hx))
  have hna : (a.map (cre z32)).length ≤ 1000000 := by rw [List.length_map]; exact hn1
  obtain ⟨la, hla⟩ : ∃ la, a.map (cre z32) = la := ⟨_, rfl⟩
  have HL1 : Hid (la.length = a.length) := Lib.hid (by rw [← hla, List.length_map])
  rw [hla] at hO1 hX1 HDR HDS HLA hna
  clear hla
  go_wp2_with fail
  refine (both_any w4 (.slice X1 a.length k1) (.slice A2 lb.length c2) rfl rfl X1 A2 a.length lb.length k1 c2 rfl rfl).mono ?_
  rintro e w5 ⟨rfl, rfl⟩
  go_wp2_with fail
  have hs43 : w2.heap.size + 1 ≤ w4.heap.size := hs3
  have hAll0 : All ((w4.alloc (.cells #[.slice X1 a.length k1] 58)).alloc (.cells #[.slice A2 lb.length c2] 58)) [.own (w4.heap.size + 1 + 1) 50 33 none ([] : List E).length 0 (([] : List E).map entC).flatten, .cells w2.heap.size 22 [.slice none ([] : List E).length 0], .own (w2.heap.size + 1) 57 65 X1 la.length k1 (la.map chgC).flatten, .low (.els B 65 A2 lb.length (lb.map chgC)), .cells w4.heap.size 58 [.slice X1 la.length k1], .cells (w4.heap.size + 1) 58 [.slice A2 lb.length c2], .cells w.heap.size 22 [.slice none 0 0], .cells (w.heap.size + 1) 31 [.int .i64 0], .kept w w.heap.size] := by
    have h1 : All w4 [.own (w2.heap.size + 1) 57 65 X1 la.length k1 (la.map chgC).flatten, .low (.els B 65 A2 lb.length (lb.map chgC)), .cells w2.heap.size 22 [.slice none 0 0], .cells (w.heap.size + 1) 31 [.int .i64 0], .cells w.heap.size 22 [.slice none 0 0], .kept w w.heap.size] := ⟨hO1, hR4.at_ 4 rfl, hR4.at_ 0 rfl, hR4.at_ 1 rfl, hR4.at_ 2 rfl, hR4.at_ 5 rfl, trivial⟩
    have h2 := (h1.new #[.slice X1 a.length k1] 58 rfl rfl).new #[.slice A2 lb.length c2] 58 (g := w4.heap.size + 1) (by simp) rfl
    rw [HL1.out] at *
    exact ⟨Go.Adm.Own.nil _ _ _ _, h2.at_ 4 rfl, h2.at_ 2 rfl, h2.at_ 3 rfl, h2.at_ 1 rfl, h2.at_ 0 rfl, h2.at_ 6 rfl, h2.at_ 5 rfl, h2.at_ 7 rfl, trivial⟩
  have hsz0 : ((w4.alloc (.cells #[.slice X1 a.length k1] 58)).alloc (.cells #[.slice A2 lb.length c2] 58)).heap.size = w4.heap.size + 1 + 1 := by simp
  have hBw : B ≤ w.heap.size := hB
  have hLOW : ∀ (V : World) (A : Option Addr) (c : Nat) (r : List E), All V [.own (w4.heap.size + 1 + 1) 50 33 A r.length c (r.map entC).flatten, .cells w2.heap.size 22 [.slice A r.length c], .own (w2.heap.size + 1) 57 65 X1 la.length k1 (la.map chgC).flatten, .low (.els B 65 A2 lb.length (lb.map chgC)), .cells w4.heap.size 58 [.slice X1 la.length k1], .cells (w4.heap.size + 1) 58 [.slice A2 lb.length c2], .cells w.heap.size 22 [.slice none 0 0], .cells (w.heap.size + 1) 31 [.int .i64 0], .kept w w.heap.size] → w4.heap.size + 1 + 1 ≤ V.heap.size → All V [.cells w4.heap.size 58 [.slice X1 la.length k1], .cells (w4.heap.size + 1) 58 [.slice A2 lb.length c2], .low (.els (w4.heap.size + 1 + 1) 65 X1 la.length (la.map chgC)), .low (.els (w4.heap.size + 1 + 1) 65 A2 lb.length (lb.map chgC))] := fun V A c r h hs => ⟨h.at_ 4 rfl, h.at_ 5 rfl, ⟨own_low (h.at_ 2 rfl) (chgs_len HLA.out) (by rw [List.length_map]) (fun g hg => by have := hX1 g hg; omega), hs⟩, ⟨Els.mono (h.at_ 3 rfl : Els V B 65 A2 lb.length (lb.map chgC) ∧ B ≤ V.heap.size).1 (by omega), hs⟩, trivial⟩
  have HX1 := Lib.hid hX1
  clear hR4 hO1 hX1 hs3
  refine (wpIn_wide (n := 3)).1 ?_
  refine wpIn_rangeFunc_ownF rfl (by decide) (gf := 65) (lb := #[.pointer (some ⟨w4.heap.size, 0, none⟩), .pointer (some ⟨w4.heap.size + 1, 0, none⟩)]) rfl trivial (enters_of Tryd.func65 (by kernel_rfl) rfl)
    (both_stops 2 (by decide) w4.heap.size (w4.heap.size + 1) (w4.heap.size + 1 + 1) X1 A2 k1 c2 la lb _ (by omega) (by simp; omega) (by simp) hna hn2 (hLOW _ _ _ _ hAll0 (by rw [hsz0]; exact Nat.le_refl _))) (fun h k hh => k (h hh))
    (fun W' D o o' hB hD ho _ hA => All.dead (grownBy_putObj' W' D o') hB hD ho hA ⟨trivial, trivial, by rw [hsz0]; exact Nat.le_refl _, by rw [hsz0]; exact Nat.le_refl _, trivial⟩) (Below.refl _ _) (fun x => by cases x <;> rfl)
    (fun pre W' => ∃ (A : Option Addr) (c : Nat) (r : List E), runS (appF z32) (pre.map (lookF la lb)) = some r ∧ All W' [.own (w4.heap.size + 1 + 1) 50 33 A r.length c (r.map entC).flatten, .cells w2.heap.size 22 [.slice A r.length c], .own (w2.heap.size + 1) 57 65 X1 la.length k1 (la.map chgC).flatten, .low (.els B 65 A2 lb.length (lb.map chgC)), .cells w4.heap.size 58 [.slice X1 la.length k1], .cells (w4.heap.size + 1) 58 [.slice A2 lb.length c2], .cells w.heap.size 22 [.slice none 0 0], .cells (w.heap.size + 1) 31 [.int .i64 0], .kept w w.heap.size] ∧ (w4.heap.size + 1 + 1) ≤ W'.heap.size)
    (fun cj pre W' => cj = .ret ∧ runS (appF z32) (pre.map (lookF la lb)) = none ∧ All W' [.cells w.heap.size 22 [.slice none 0 0], .cells (w.heap.size + 1) 31 [.int .i64 9], .kept w w.heap.size]) ?own ?own2 ⟨none, 0, [], rfl, hAll0, by rw [hsz0]; exact Nat.le_refl _⟩
    (fun x => { tmps := #[(.slice A1 a.length c1), (.slice A2 lb.length c2), undef, undef, (.pointer (some ⟨w.heap.size, 0, none⟩)), (.pointer (some ⟨w.heap.size + 1, 0, none⟩)), (.pointer (some ⟨w2.heap.size, 0, none⟩)), (itX X1 x), (itY A2 x), undef, undef, undef, (.slice A1 a.length c1), (.bool true), (.bool false), (.bool false), (.slice A2 lb.length c2), (.bool true), (.bool false), (.bool false), (.slice A1 a.length c1), (.slice X1 a.length k1), (.slice A2 lb.length c2), (.func (.func 65) #[] #[.pointer (some ⟨w4.heap.size, 0, none⟩), .pointer (some ⟨w4.heap.size + 1, 0, none⟩)]), (itX X1 x), (itY A2 x), undef, undef, undef, undef, undef, undef, undef, undef, undef, undef, undef, undef, undef, undef, undef, undef, undef, undef, undef, undef, undef, undef, undef, undef, undef, undef, undef, undef, undef, undef, undef, undef, undef, undef, undef, undef, undef, undef, undef, undef, undef, undef, undef], defers := [] }) ?assign ?body ?done ?stop
  case own =>
    rintro s W W' row ⟨A, c, r, h1, h2, h3⟩ hg hr
    exact ⟨A, c, r, h1, (all_from (B := ((w4.alloc (.cells #[.slice X1 a.length k1] 58)).alloc (.cells #[.slice A2 lb.length c2] 58)).heap.size) (f := fun _ : Unit => [.own (w4.heap.size + 1 + 1) 50 33 A r.length c (r.map entC).flatten, .cells w2.heap.size 22 [.slice A r.length c], .own (w2.heap.size + 1) 57 65 X1 la.length k1 (la.map chgC).flatten, .low (.els B 65 A2 lb.length (lb.map chgC)), .cells w4.heap.size 58 [.slice X1 la.length k1], .cells (w4.heap.size + 1) 58 [.slice A2 lb.length c2], .cells w.heap.size 22 [.slice none 0 0], .cells (w.heap.size + 1) 31 [.int .i64 0], .kept w w.heap.size]) (fun _ => ⟨trivial, trivial, trivial, (show B ≤ _ from by rw [hsz0]; omega), trivial, trivial, trivial, trivial, (show w.heap.size ≤ _ from by rw [hsz0]; omega), trivial⟩)) () W W' row h2 hg hr, Nat.le_trans h3 hg.size⟩
  case own2 =>
    rintro cj s W W' row ⟨h0, h1, h2⟩ hg hr
    exact ⟨h0, h1, (all_from (B := ((w4.alloc (.cells #[.slice X1 a.length k1] 58)).alloc (.cells #[.slice A2 lb.length c2] 58)).heap.size) (f := fun _ : Unit => [.cells w.heap.size 22 [.slice none 0 0], .cells (w.heap.size + 1) 31 [.int .i64 9], .kept w w.heap.size]) (fun _ => ⟨trivial, trivial, (show w.heap.size ≤ _ from by rw [hsz0]; omega), trivial⟩)) () W W' row h2 hg hr⟩
  case assign =>
    intro l x W K hK
    cases x <;> (simp only [encI]; gi_wp2; exact hK)
  case stop =>
    rintro D cj pre W hDl hSp ⟨rfl, hr, hI⟩ hK
    have hfin : appR a lb = ([], 9) := HDR.out pre hSp hr
    refine wpIn_wide.2 ?_
    go_wp2
    refine leaves_all (B := w.heap.size) [D] W ?_ (by simp) ?_
    · intro D' hD'
      obtain rfl : D' = D := by simpa using hD'
      exact ⟨by rw [hsz0] at hDl; omega, hK⟩
    · intro W'' hW'' _
      have h1 := hW'' [.cells w.heap.size 22 [.slice none 0 0], .cells (w.heap.size + 1) 31 [.int .i64 9], .kept w w.heap.size] ⟨trivial, trivial, Nat.le_refl _, trivial⟩ hI
      rw [hfin]
      refine ⟨_, results_cell2 rfl _ _ w.heap.size (w.heap.size + 1) (.slice none 0 0) (.int .i64 9) rfl rfl ?_ ?_, ResPost.nil rfl (h1.at_ 2 rfl).1⟩
      · have := Cells.cell (h1.at_ 0 rfl : Cells W'' _ _ _) (i := 0) (by simp)
        go_simp
      · have := Cells.cell (h1.at_ 1 rfl : Cells W'' _ _ _) (i := 0) (by simp)
        go_simp
  case body =>
    rintro l pre x W0 ⟨A, c, r, hr, hI, hsz⟩ hpl
    have HRUN : Hid (∀ v, appF z32 (lookF la lb x) = some v → runS (appF z32) ((pre ++ [x]).map (lookF la lb)) = some (r ++ v.toList)) := Lib.hid (fun v hv => by rw [List.map_append, List.map_cons, List.map_nil, runS_snoc _ _ _ hr, hv]; rfl)
    have HRUN0 : Hid (appF z32 (lookF la lb x) = none → runS (appF z32) ((pre ++ [x]).map (lookF la lb)) = none) := Lib.hid (fun hv => by rw [List.map_append, List.map_cons, List.map_nil, runS_snoc _ _ _ hr, hv]; rfl)
    have hrl : r.length ≤ 2000000 := by have := runS_len _ _ hr; rw [List.length_map] at this; omega
    have LOWS := Lib.hid hLOW
    have hwW : w.heap.size ≤ W0.heap.size := hI.size_kept 8 rfl
    clear hr hLOW hAll0 hsz0
    cases x with
    | l i =>
      have hel1 : Els W0 W0.heap.size 65 X1 la.length (la.map chgC) := Els.of (hI.at_ 2 rfl) (chgs_len HLA.out) (by rw [List.length_map])
      obtain ⟨ad1, rfl, -, -⟩ := Els.elem hel1 i.isLt
      clear hel1
      have HF0 : Hid (appF z32 (lookF la lb (It.l i)) = if la[i.val].n = z32 then some none else some (some ⟨la[i.val].p, la[i.val].n⟩)) := Lib.hid rfl
      have HX : Hid (∀ V : World, Go.Adm.Own V (w2.heap.size + 1) 57 65 (some ad1) la.length k1 (la.map chgC).flatten → (∀ q s, (chgC la[i.val])[q]? = some s → V.cell? ((ad1.add (i.val * 65)).add q) = some s) ∧ True) := Lib.hid (fun V hV => by
        have hel : Els V V.heap.size 65 (some ad1) la.length (la.map chgC) := Els.of hV (chgs_len HLA.out) (by rw [List.length_map])
        obtain ⟨ad', e, -, hc⟩ := Els.elem hel i.isLt
        obtain rfl := Option.some.inj e
        exact ⟨hc, trivial⟩)
      have hxv := Lib.hid (HLA.out _ (List.getElem_mem i.isLt))
      generalize la[i.val] = v at *
      have HAP : Hid (∀ g, W0.heap.size ≤ g → Apart (some g) [.own (w4.heap.size + 1 + 1) 50 33 A r.length c (r.map entC).flatten, .cells w2.heap.size 22 [.slice A r.length c], .own (w2.heap.size + 1) 57 65 (some ad1) la.length k1 (la.map chgC).flatten, .low (.els B 65 A2 lb.length (lb.map chgC)), .cells w4.heap.size 58 [.slice (some ad1) la.length k1], .cells (w4.heap.size + 1) 58 [.slice A2 lb.length c2], .cells w.heap.size 22 [.slice none 0 0], .cells (w.heap.size + 1) 31 [.int .i64 0], .kept w w.heap.size]) := Lib.hid (fun g hg => apart_new hg hI ⟨trivial, trivial, trivial, (hI.at_ 3 rfl : Els W0 B 65 A2 lb.length (lb.map chgC) ∧ B ≤ W0.heap.size).2, trivial, trivial, trivial, trivial, hwW, trivial⟩)
      have HAP1 : Hid (∀ g, (w4.heap.size + 1 + 1) ≤ g → (Value.slice A r.length c).ownBlock = some g → Apart (some g) [.own (w2.heap.size + 1) 57 65 (some ad1) la.length k1 (la.map chgC).flatten, .low (.els B 65 A2 lb.length (lb.map chgC)), .cells w4.heap.size 58 [.slice (some ad1) la.length k1], .cells (w4.heap.size + 1) 58 [.slice A2 lb.length c2], .cells w.heap.size 22 [.slice none 0 0], .cells (w.heap.size + 1) 31 [.int .i64 0], .kept w w.heap.size]) := Lib.hid (fun g hg hg2 => ⟨fun g' e => .inr (fun e2 => by injection e with e; subst e; have := HX1.out _ e2; omega), fun g' e => by injection e with e; have := hBw; simp only [Low.els]; omega, fun e => by injection e with e; omega, fun e => by injection e with e; omega, fun e => by injection e with e; omega, fun e => by injection e with e; omega, fun g' e => by injection e with e; omega, trivial⟩)
      have HAP2 : Hid (Apart (some w2.heap.size) [.own (w2.heap.size + 1) 57 65 (some ad1) la.length k1 (la.map chgC).flatten, .low (.els B 65 A2 lb.length (lb.map chgC)), .cells w4.heap.size 58 [.slice (some ad1) la.length k1], .cells (w4.heap.size + 1) 58 [.slice A2 lb.length c2], .cells w.heap.size 22 [.slice none 0 0], .cells (w.heap.size + 1) 31 [.int .i64 0], .kept w w.heap.size]) := Lib.hid ⟨fun g' e => .inl (by injection e with e; omega), fun g' e => by injection e with e; have := hBw; simp only [Low.els]; omega, fun e => by injection e with e; omega, fun e => by injection e with e; omega, fun e => by injection e with e; omega, fun e => by injection e with e; omega, fun g' e => by injection e with e; omega, trivial⟩
      have hV1 : All ((W0.alloc (.cells (z32.map bv).toArray 40)).alloc (.cells (z32.map bv).toArray 40)) [.cells (W0.heap.size + 1) 40 (z32.map bv), .cells W0.heap.size 40 (z32.map bv), .own (w4.heap.size + 1 + 1) 50 33 A r.length c (r.map entC).flatten, .cells w2.heap.size 22 [.slice A r.length c], .own (w2.heap.size + 1) 57 65 (some ad1) la.length k1 (la.map chgC).flatten, .low (.els B 65 A2 lb.length (lb.map chgC)), .cells w4.heap.size 58 [.slice (some ad1) la.length k1], .cells (w4.heap.size + 1) 58 [.slice A2 lb.length c2], .cells w.heap.size 22 [.slice none 0 0], .cells (w.heap.size + 1) 31 [.int .i64 0], .kept w w.heap.size] := (hI.new (l := z32.map bv) _ 40 rfl rfl).new (l := z32.map bv) _ 40 (g := W0.heap.size + 1) (by simp) rfl
      have hKO1 : KeepsOthers W0 ((W0.alloc (.cells (z32.map bv).toArray 40)).alloc (.cells (z32.map bv).toArray 40)) := (KeepsOthers.alloc _ _).trans (.alloc _ _)
      have hs1 : W0.heap.size + 2 ≤ ((W0.alloc (.cells (z32.map bv).toArray 40)).alloc (.cells (z32.map bv).toArray 40)).heap.size := by simp
      clear hI
      simp only [itX, itY, ptrA, Option.map_some]
      gi_wp2
      refine wpIn_region_est [28, 29, 30, 31, 32, 33, 34, 35, 36, 37, 38, 39, 9, 1013, 1014] [.own (w4.heap.size + 1 + 1) 50 33 A r.length c (r.map entC).flatten, .cells w2.heap.size 22 [.slice A r.length c], .own (w2.heap.size + 1) 57 65 (some ad1) la.length k1 (la.map chgC).flatten, .low (.els B 65 A2 lb.length (lb.map chgC)), .cells w4.heap.size 58 [.slice (some ad1) la.length k1], .cells (w4.heap.size + 1) 58 [.slice A2 lb.length c2], .cells w.heap.size 22 [.slice none 0 0], .cells (w.heap.size + 1) 31 [.int .i64 0], .kept w w.heap.size] (fun V => KeepsOthers W0 V ∧ W0.heap.size + 2 ≤ V.heap.size)
        [(.pointer (some (ad1.add (i.val * 65)))), (.pointer (some (ad1.add (i.val * 65)))), (.pointer (some (ad1.add (i.val * 65)))), (.string v.p), (.pointer (some (ad1.add (i.val * 65)))), (.pointer (some (ad1.add (i.val * 65)))), (.pointer (some ((ad1.add (i.val * 65)).add 33))), (.agg (v.n.map bv).toArray), (.pointer (some (ad1.add (i.val * 65)))), (.pointer (some (ad1.add (i.val * 65)))), (.pointer (some ((ad1.add (i.val * 65)).add 33))), (.agg (v.n.map bv).toArray), (.string v.p)] [(W0.heap.size, 40, v.n.map bv), (W0.heap.size + 1, 40, v.n.map bv)]
        (fun _ => trivial) (by kernel_rfl) (by kernel_rfl) (by show (69 : Nat) ≤ 1000; decide) (fun w1 w2 hk hs hj => ⟨hj.1.trans hk, Nat.le_trans hj.2 hs⟩) ⟨hV1.2.2, ⟨hKO1, hs1⟩, (boxes2 (by rw [List.length_map, List.length_map]; exact (rfl).trans (hxv.out.2.1).symm) (hV1.at_ 1 rfl) (by rw [List.length_map, List.length_map]; exact (rfl).trans (hxv.out.2.1).symm) (hV1.at_ 0 rfl))⟩ rfl ?hap ?hnd ?hops ?fin
      case hap => (simp only [List.forall_mem_cons]; exact ⟨HAP.out _ (by omega), HAP.out _ (by omega), by simp⟩)
      case hnd => simp
      case hops =>
        refine ⟨?_, ?_, ?_, ?_, ?_, ?_, ?_, ?_, ?_, ?_, ?_, ?_, ?_, ?_, ?_, trivial⟩
        · refine ⟨rfl, ?_⟩
          intro a' W hW hb hd K hK
          have b7 := hb 7 rfl
          refine ⟨fun _ _ => trivial, ?_⟩
          go_simp
          exact hK _ _ (World.grownBy.refl _ _) rfl (by intro h; cases h)
        · refine ⟨rfl, ?_⟩
          intro a' W hW hb hd K hK
          have b28 : a'.tmps[28]?.getD undef = _ := hd ⟨0, .data⟩ (by simp) rfl
          refine ⟨fun _ _ => trivial, ?_⟩
          go_simp
          exact hK _ _ (World.grownBy.refl _ _) rfl (by intro h; cases h)
        · refine ⟨rfl, ?_⟩
          intro a' W hW hb hd K hK
          have b29 : a'.tmps[29]?.getD undef = _ := hd ⟨1, .data⟩ (by simp) rfl
          refine ⟨fun _ _ => trivial, ?_⟩
          go_simp
          exact hK _ _ (World.grownBy.refl _ _) (by first | rfl | (rw [add_zero]; rfl) | (simp [add_zero]; rfl)) (by intro h; cases h)
        · refine ⟨rfl, ?_⟩
          intro a' W hW hb hd K hK
          have b30 : a'.tmps[30]?.getD undef = _ := hd ⟨2, .data⟩ (by simp) rfl
          have q1 : W.cell? (ad1.add (i.val * 65)) = some (.string v.p) := by have := (HX.out W (hW.1.at_ 2 rfl)).1 0 (sv v.p) rfl; rwa [add_zero] at this
          refine ⟨fun _ _ => trivial, ?_⟩
          go_simp
          exact hK _ _ (World.grownBy.refl _ _) rfl (by intro h; cases h)
        · refine ⟨rfl, ?_⟩
          intro a' W hW hb hd K hK
          have b7 := hb 7 rfl
          refine ⟨fun _ _ => trivial, ?_⟩
          go_simp
          exact hK _ _ (World.grownBy.refl _ _) rfl (by intro h; cases h)
        · refine ⟨rfl, ?_⟩
          intro a' W hW hb hd K hK
          have b32 : a'.tmps[32]?.getD undef = _ := hd ⟨4, .data⟩ (by simp) rfl
          refine ⟨fun _ _ => trivial, ?_⟩
          go_simp
          exact hK _ _ (World.grownBy.refl _ _) rfl (by intro h; cases h)
        · refine ⟨rfl, ?_⟩
          intro a' W hW hb hd K hK
          have b33 : a'.tmps[33]?.getD undef = _ := hd ⟨5, .data⟩ (by simp) rfl
          refine ⟨fun _ _ => trivial, ?_⟩
          go_simp
          exact hK _ _ (World.grownBy.refl _ _) (by first | rfl | (rw [add_zero]; rfl) | (simp [add_zero]; rfl)) (by intro h; cases h)
        · refine ⟨rfl, ?_⟩
          intro a' W hW hb hd K hK
          have b34 : a'.tmps[34]?.getD undef = _ := hd ⟨6, .data⟩ (by simp) rfl
          refine wpIn_load_any (fun _ => trivial) 40 (.tmp 34) rfl ((ad1.add (i.val * 65)).add 33) (show a'.eval (.tmp 34) = _ from by simp only [Act.eval, Array.getD_eq_getD_getElem?]; exact b34) (v.n.map bv) _ (fun q s hs => by rw [add_add]; exact (HX.out W (hW.1.at_ 2 rfl)).1 _ s (chg_sub2 hxv.out q s hs)) Tryd.underlying40 rfl (by rw [List.length_map, hxv.out.2.1]; kernel_rfl) ?_
          exact hK _ _ (World.grownBy.refl _ _) rfl (by intro h; cases h)
        · refine ⟨rfl, ?_⟩
          intro a' W hW hb hd K hK
          have b7 := hb 7 rfl
          refine ⟨fun _ _ => trivial, ?_⟩
          go_simp
          exact hK _ _ (World.grownBy.refl _ _) rfl (by intro h; cases h)
        · refine ⟨rfl, ?_⟩
          intro a' W hW hb hd K hK
          have b36 : a'.tmps[36]?.getD undef = _ := hd ⟨8, .data⟩ (by simp) rfl
          refine ⟨fun _ _ => trivial, ?_⟩
          go_simp
          exact hK _ _ (World.grownBy.refl _ _) rfl (by intro h; cases h)
        · refine ⟨rfl, ?_⟩
          intro a' W hW hb hd K hK
          have b37 : a'.tmps[37]?.getD undef = _ := hd ⟨9, .data⟩ (by simp) rfl
          refine ⟨fun _ _ => trivial, ?_⟩
          go_simp
          exact hK _ _ (World.grownBy.refl _ _) (by first | rfl | (rw [add_zero]; rfl) | (simp [add_zero]; rfl)) (by intro h; cases h)
        · refine ⟨rfl, ?_⟩
          intro a' W hW hb hd K hK
          have b38 : a'.tmps[38]?.getD undef = _ := hd ⟨10, .data⟩ (by simp) rfl
          refine wpIn_load_any (fun _ => trivial) 40 (.tmp 38) rfl ((ad1.add (i.val * 65)).add 33) (show a'.eval (.tmp 38) = _ from by simp only [Act.eval, Array.getD_eq_getD_getElem?]; exact b38) (v.n.map bv) _ (fun q s hs => by rw [add_add]; exact (HX.out W (hW.1.at_ 2 rfl)).1 _ s (chg_sub2 hxv.out q s hs)) Tryd.underlying40 rfl (by rw [List.length_map, hxv.out.2.1]; kernel_rfl) ?_
          exact hK _ _ (World.grownBy.refl _ _) rfl (by intro h; cases h)
        · refine ⟨rfl, ?_⟩
          intro a' W hW hb hd K hK
          have b31 : a'.tmps[31]?.getD undef = _ := hd ⟨3, .data⟩ (by simp) rfl
          refine ⟨fun _ _ => trivial, ?_⟩
          go_simp
          exact hK _ _ (World.grownBy.refl _ _) rfl (by intro h; cases h)
        · refine ⟨rfl, ?_⟩
          intro a' W hW hb hd K hK
          have b10 := hb 10 rfl
          have b35 : a'.tmps[35]?.getD undef = _ := hd ⟨7, .data⟩ (by simp) rfl
          obtain ⟨cs, hl, hc⟩ := hW.2.2 (W0.heap.size, 40, (v.n.map bv).length) (by simp)
          refine wpIn_store_all (fun _ => trivial) 40 (.tmp 10) (.tmp 35) rfl (W0.heap.size) 40 cs (v.n.map bv) hc (show a'.eval (.tmp 10) = _ from by simp only [Act.eval, Array.getD_eq_getD_getElem?]; exact b10) (show a'.eval (.tmp 35) = _ from by simp only [Act.eval, Array.getD_eq_getD_getElem?]; exact b35) hl.symm (by rw [List.length_map, show v.n.length = 32 from hxv.out.2.1]; kernel_rfl) (bv_one _) ?_
          intro w' hgo hc'
          exact hK _ _ hgo ⟨rfl, hc'⟩ (fun _ => rfl)
        · refine ⟨rfl, ?_⟩
          intro a' W hW hb hd K hK
          have b11 := hb 11 rfl
          have b39 : a'.tmps[39]?.getD undef = _ := hd ⟨11, .data⟩ (by simp) rfl
          obtain ⟨cs, hl, hc⟩ := hW.2.2 (W0.heap.size + 1, 40, (v.n.map bv).length) (by simp)
          refine wpIn_store_all (fun _ => trivial) 40 (.tmp 11) (.tmp 39) rfl (W0.heap.size + 1) 40 cs (v.n.map bv) hc (show a'.eval (.tmp 11) = _ from by simp only [Act.eval, Array.getD_eq_getD_getElem?]; exact b11) (show a'.eval (.tmp 39) = _ from by simp only [Act.eval, Array.getD_eq_getD_getElem?]; exact b39) hl.symm (by rw [List.length_map, show v.n.length = 32 from hxv.out.2.1]; kernel_rfl) (bv_one _) ?_
          intro w' hgo hc'
          exact hK _ _ hgo ⟨rfl, hc'⟩ (fun _ => rfl)
      case fin =>
        intro vs V2 ⟨hV2, ⟨hKOV2, hsV2⟩, hBx⟩ hv
        have e3 : vs 3 = _ := hv 3 (by decide)
        have e7 : vs 7 = _ := hv 7 (by decide)
        have e11 : vs 11 = _ := hv 11 (by decide)
        have e12 : vs 12 = _ := hv 12 (by decide)
        obtain ⟨e13, hc13⟩ := (hv 13 (by decide) : SF.ok (.st (W0.heap.size) 40 (v.n.map bv)) (vs 13) V2)
        obtain ⟨e14, hc14⟩ := (hv 14 (by decide) : SF.ok (.st (W0.heap.size + 1) 40 (v.n.map bv)) (vs 14) V2)
        clear hv hBx
        simp only [putAll, List.drop_succ_cons, List.drop_zero, e3, e7, e11, e12, e13, e14, Act.put, List.setIfInBounds_toArray, List.set_cons_succ, List.set_cons_zero, List.set_nil]
        clear e3 e7 e11 e12 e13 e14
        have hVb : All V2 [.cells (W0.heap.size + 1) 40 (v.n.map bv), .cells W0.heap.size 40 (v.n.map bv), .own (w4.heap.size + 1 + 1) 50 33 A r.length c (r.map entC).flatten, .cells w2.heap.size 22 [.slice A r.length c], .own (w2.heap.size + 1) 57 65 (some ad1) la.length k1 (la.map chgC).flatten, .low (.els B 65 A2 lb.length (lb.map chgC)), .cells w4.heap.size 58 [.slice (some ad1) la.length k1], .cells (w4.heap.size + 1) 58 [.slice A2 lb.length c2], .cells w.heap.size 22 [.slice none 0 0], .cells (w.heap.size + 1) 31 [.int .i64 0], .kept w w.heap.size] := ⟨hc14, hc13, hV2⟩
        clear hc13 hc14 hV2
        have e6V2 : V2.cell? ⟨w2.heap.size, 0, none⟩ = some (.slice A r.length c) := Cells.cell (hVb.at_ 3 rfl) (i := 0) (by simp)
        cases hz : decide (v.n = z32) with
        | true =>
          have HZ : Hid (Value.bool (!decide (v.n = z32)) = .bool false) := Lib.hid (by rw [hz]; rfl)
          have HF : Hid (appF z32 (lookF la lb (It.l i)) = some none) := Lib.hid ((by rw [HF0.out]; exact if_pos (of_decide_eq_true hz)))
          clear hz
          gi_wp2_with (first | (refine wlIn_load_any (fun _ => trivial) rfl 40 (.tmp 11) rfl ⟨W0.heap.size + 1, 0, none⟩ rfl (v.n.map bv) _ (Cells.sub (hVb.at_ 0 rfl) 0 (fun j u hu => by rw [Nat.zero_add]; exact hu)) Tryd.underlying40 rfl (by rw [List.length_map, show v.n.length = 32 from hxv.out.2.1]; kernel_rfl) ?_) | (refine wlIn_neq (fun _ => trivial) (.tmp 56) (.tmp 57) rfl rfl (.bool false) ((ne_dg _ v.n z32 (hxv.out.2.1) rfl).trans (by rw [HZ.out])) (by go_simp) ?_))
          exact ⟨hKOV2, fun _ => LOWS.out _ _ _ _ hVb.2.2 (by omega), A, c, r, by have := HRUN.out _ HF.out; rwa [Option.toList_none, List.append_nil] at this, hVb.2.2, by omega⟩
        | false =>
          have HZ : Hid (Value.bool (!decide (v.n = z32)) = .bool true) := Lib.hid (by rw [hz]; rfl)
          have HF : Hid (appF z32 (lookF la lb (It.l i)) = some (some ⟨v.p, v.n⟩)) := Lib.hid ((by rw [HF0.out]; exact if_neg (of_decide_eq_false hz)))
          clear hz
          gi_wp2_with (first | (refine wlIn_load_any (fun _ => trivial) rfl 40 (.tmp 11) rfl ⟨W0.heap.size + 1, 0, none⟩ rfl (v.n.map bv) _ (Cells.sub (hVb.at_ 0 rfl) 0 (fun j u hu => by rw [Nat.zero_add]; exact hu)) Tryd.underlying40 rfl (by rw [List.length_map, show v.n.length = 32 from hxv.out.2.1]; kernel_rfl) ?_) | (refine wlIn_load_any (fun _ => trivial) rfl 40 (.tmp 11) rfl ⟨W0.heap.size + 1, 0, none⟩ rfl (v.n.map bv) _ (Cells.sub (hVb.at_ 0 rfl) 0 (fun j u hu => by rw [Nat.zero_add]; exact hu)) Tryd.underlying40 rfl (by rw [List.length_map, show v.n.length = 32 from hxv.out.2.1]; kernel_rfl) ?_) | (refine wlIn_neq (fun _ => trivial) (.tmp 56) (.tmp 57) rfl rfl (.bool true) ((ne_dg _ v.n z32 (hxv.out.2.1) rfl).trans (by rw [HZ.out])) (by go_simp) ?_) | (refine wlIn_bld (fun _ => trivial) rfl 50 [(0, .tmp 60), (1, .tmp 61)] rfl _ _ #[(0, 1), (1, 32)] (entC ⟨v.p, v.n⟩).toArray zero_ent Tryd.underlying50 (fun w => by kernel_rfl) ?_ ?_; exact fill_ent v.p v.n (hxv.out.2.1)) | (refine wlIn_lit1 (fun _ => trivial) rfl el_ent (.tmp 62) rfl (entC ⟨v.p, v.n⟩) rfl (entC_len ⟨hxv.out.2.1, hxv.out.2.2⟩) (by decide) ?_) | (gi_at_builtin; refine wlIn_app el_ent rfl (.tmp 59) (.tmp 63) rfl (w4.heap.size + 1 + 1) A r.length c ((r.map entC).flatten) rfl (Go.Adm.Own.alloc (hVb.at_ 2 rfl) _) (V2.heap.size + 1) _ 1 1 (entC ⟨v.p, v.n⟩) rfl (Rd.lit V2 (entC ⟨v.p, v.n⟩).toArray 50 1 (by rw [List.size_toArray]; exact entC_len ⟨hxv.out.2.1, hxv.out.2.2⟩)) (entC_one _) (by omega) (by simp; omega) ?_; intro A3 c3 w9 hown3 hg3 hob3; obtain ⟨hM1, hM2, hM3⟩ := out_more ((All.alloc hVb _).2.2) HAP1.out (by omega) hown3 hg3 HAP2.out; have c2 : w9.cell? ⟨w2.heap.size, 0, none⟩ = some (.slice A r.length c) := Cells.cell (hM1.at_ 1 rfl) (i := 0) (by simp); have f2 : w9.frozen? ⟨w2.heap.size, 0, none⟩ = false := Cells.frozen (hM1.at_ 1 rfl) 0; have hsw9 : W0.heap.size + 2 ≤ w9.heap.size := by have h := hg3.size; simp at h; omega))
          clear c2 f2
          have hM4 : All (w9.setCell ⟨w2.heap.size, 0, none⟩ (.slice A3 (r.length + 1) c3)) [.own (w4.heap.size + 1 + 1) 50 33 A3 (r ++ [(⟨v.p, v.n⟩ : E)]).length c3 ((r ++ [(⟨v.p, v.n⟩ : E)]).map entC).flatten, .cells w2.heap.size 22 [.slice A3 (r ++ [(⟨v.p, v.n⟩ : E)]).length c3], .own (w2.heap.size + 1) 57 65 (some ad1) la.length k1 (la.map chgC).flatten, .low (.els B 65 A2 lb.length (lb.map chgC)), .cells w4.heap.size 58 [.slice (some ad1) la.length k1], .cells (w4.heap.size + 1) 58 [.slice A2 lb.length c2], .cells w.heap.size 22 [.slice none 0 0], .cells (w.heap.size + 1) 31 [.int .i64 0], .kept w w.heap.size] := by
            rw [List.length_append, List.map_append, List.flatten_append]
            simpa using hM2
          have hM5 : (w4.heap.size + 1 + 1) ≤ (w9.setCell ⟨w2.heap.size, 0, none⟩ (.slice A3 (r.length + 1) c3)).heap.size := by
            rw [size_setCell]
            omega
          exact ⟨(hKOV2.trans (.alloc _ _)).trans hM3, fun _ => LOWS.out _ _ _ _ hM4 hM5, A3, c3, r ++ [⟨v.p, v.n⟩], HRUN.out _ HF.out, hM4, hM5⟩
    | r j =>
      obtain ⟨ad2, rfl, -, -⟩ := Els.elem (hI.at_ 3 rfl : Els W0 B 65 A2 lb.length (lb.map chgC) ∧ B ≤ W0.heap.size).1 j.isLt
      have HF0 : Hid (appF z32 (lookF la lb (It.r j)) = if lb[j.val].o = z32 then (if lb[j.val].n = z32 then some none else some (some ⟨lb[j.val].p, lb[j.val].n⟩)) else none) := Lib.hid rfl
      have HY : Hid (∀ V : World, Els V B 65 (some ad2) lb.length (lb.map chgC) ∧ B ≤ V.heap.size → (∀ q s, (chgC lb[j.val])[q]? = some s → V.cell? ((ad2.add (j.val * 65)).add q) = some s) ∧ True) := Lib.hid (fun V hV => by
        obtain ⟨ad', e, -, hc⟩ := Els.elem hV.1 j.isLt
        obtain rfl := Option.some.inj e
        exact ⟨hc, trivial⟩)
      have hxu := Lib.hid (HLB.out _ (List.getElem_mem j.isLt))
      generalize lb[j.val] = u at *
      have HAP : Hid (∀ g, W0.heap.size ≤ g → Apart (some g) [.own (w4.heap.size + 1 + 1) 50 33 A r.length c (r.map entC).flatten, .cells w2.heap.size 22 [.slice A r.length c], .own (w2.heap.size + 1) 57 65 X1 la.length k1 (la.map chgC).flatten, .low (.els B 65 (some ad2) lb.length (lb.map chgC)), .cells w4.heap.size 58 [.slice X1 la.length k1], .cells (w4.heap.size + 1) 58 [.slice (some ad2) lb.length c2], .cells w.heap.size 22 [.slice none 0 0], .cells (w.heap.size + 1) 31 [.int .i64 0], .kept w w.heap.size]) := Lib.hid (fun g hg => apart_new hg hI ⟨trivial, trivial, trivial, (hI.at_ 3 rfl : Els W0 B 65 (some ad2) lb.length (lb.map chgC) ∧ B ≤ W0.heap.size).2, trivial, trivial, trivial, trivial, hwW, trivial⟩)
      have HAP1 : Hid (∀ g, (w4.heap.size + 1 + 1) ≤ g → (Value.slice A r.length c).ownBlock = some g → Apart (some g) [.own (w2.heap.size + 1) 57 65 X1 la.length k1 (la.map chgC).flatten, .low (.els B 65 (some ad2) lb.length (lb.map chgC)), .cells w4.heap.size 58 [.slice X1 la.length k1], .cells (w4.heap.size + 1) 58 [.slice (some ad2) lb.length c2], .cells w.heap.size 22 [.slice none 0 0], .cells (w.heap.size + 1) 31 [.int .i64 0], .kept w w.heap.size]) := Lib.hid (fun g hg hg2 => ⟨fun g' e => .inr (fun e2 => by injection e with e; subst e; have := HX1.out _ e2; omega), fun g' e => by injection e with e; have := hBw; simp only [Low.els]; omega, fun e => by injection e with e; omega, fun e => by injection e with e; omega, fun e => by injection e with e; omega, fun e => by injection e with e; omega, fun g' e => by injection e with e; omega, trivial⟩)
      have HAP2 : Hid (Apart (some w2.heap.size) [.own (w2.heap.size + 1) 57 65 X1 la.length k1 (la.map chgC).flatten, .low (.els B 65 (some ad2) lb.length (lb.map chgC)), .cells w4.heap.size 58 [.slice X1 la.length k1], .cells (w4.heap.size + 1) 58 [.slice (some ad2) lb.length c2], .cells w.heap.size 22 [.slice none 0 0], .cells (w.heap.size + 1) 31 [.int .i64 0], .kept w w.heap.size]) := Lib.hid ⟨fun g' e => .inl (by injection e with e; omega), fun g' e => by injection e with e; have := hBw; simp only [Low.els]; omega, fun e => by injection e with e; omega, fun e => by injection e with e; omega, fun e => by injection e with e; omega, fun e => by injection e with e; omega, fun g' e => by injection e with e; omega, trivial⟩
      have hV1 : All ((W0.alloc (.cells (z32.map bv).toArray 40)).alloc (.cells (z32.map bv).toArray 40)) [.cells (W0.heap.size + 1) 40 (z32.map bv), .cells W0.heap.size 40 (z32.map bv), .own (w4.heap.size + 1 + 1) 50 33 A r.length c (r.map entC).flatten, .cells w2.heap.size 22 [.slice A r.length c], .own (w2.heap.size + 1) 57 65 X1 la.length k1 (la.map chgC).flatten, .low (.els B 65 (some ad2) lb.length (lb.map chgC)), .cells w4.heap.size 58 [.slice X1 la.length k1], .cells (w4.heap.size + 1) 58 [.slice (some ad2) lb.length c2], .cells w.heap.size 22 [.slice none 0 0], .cells (w.heap.size + 1) 31 [.int .i64 0], .kept w w.heap.size] := (hI.new (l := z32.map bv) _ 40 rfl rfl).new (l := z32.map bv) _ 40 (g := W0.heap.size + 1) (by simp) rfl
      have hKO1 : KeepsOthers W0 ((W0.alloc (.cells (z32.map bv).toArray 40)).alloc (.cells (z32.map bv).toArray 40)) := (KeepsOthers.alloc _ _).trans (.alloc _ _)
      have hs1 : W0.heap.size + 2 ≤ ((W0.alloc (.cells (z32.map bv).toArray 40)).alloc (.cells (z32.map bv).toArray 40)).heap.size := by simp
      clear hI
      simp only [itX, itY, ptrA, Option.map_some]
      gi_wp2
      cases hm : decide (u.o = z32) with
      | false =>
        have HM : Hid (Value.bool (!decide (u.o = z32)) = .bool true) := Lib.hid (by rw [hm]; rfl)
        have HF : Hid (appF z32 (lookF la lb (It.r j)) = none) := Lib.hid (by rw [HF0.out, if_neg (of_decide_eq_false hm)])
        clear hm
        refine wpIn_region_hopsJ 5 [42, 43, 44, 45, 46] [.cells (W0.heap.size + 1) 40 (z32.map bv), .cells W0.heap.size 40 (z32.map bv), .own (w4.heap.size + 1 + 1) 50 33 A r.length c (r.map entC).flatten, .cells w2.heap.size 22 [.slice A r.length c], .own (w2.heap.size + 1) 57 65 X1 la.length k1 (la.map chgC).flatten, .low (.els B 65 (some ad2) lb.length (lb.map chgC)), .cells w4.heap.size 58 [.slice X1 la.length k1], .cells (w4.heap.size + 1) 58 [.slice (some ad2) lb.length c2], .cells w.heap.size 22 [.slice none 0 0], .cells (w.heap.size + 1) 31 [.int .i64 0], .kept w w.heap.size] (fun V => KeepsOthers W0 V ∧ W0.heap.size + 2 ≤ V.heap.size)
          [.eq (.pointer (some (ad2.add (j.val * 65)))), .eq (.pointer (some (ad2.add (j.val * 65)))), .eq (.pointer (some ((ad2.add (j.val * 65)).add 1))), .eq (.agg (u.o.map bv).toArray), .eq (.agg (z32.map bv).toArray)]
          (fun _ => trivial) (by kernel_rfl) (by kernel_rfl) (fun w1 w2 hg hj => ⟨hj.1.trans (.of_grownBy hg (fun j o e => by cases e)), Nat.le_trans hj.2 hg.size⟩) ⟨hV1, hKO1, hs1⟩ rfl ?hops ?fin
        case hops =>
          refine ⟨?_, ?_, ?_, ?_, ?_, trivial⟩
          · intro a' W hW hb hd K hK
            have b8 := hb 8 rfl
            refine ⟨fun _ _ => trivial, ?_⟩
            go_simp
            exact hK _ _ (World.grownBy.refl _ _) rfl
          · intro a' W hW hb hd K hK
            have b42 : a'.tmps[42]?.getD undef = _ := hd ⟨0, .data⟩ (by simp) rfl
            refine ⟨fun _ _ => trivial, ?_⟩
            go_simp
            exact hK _ _ (World.grownBy.refl _ _) rfl
          · intro a' W hW hb hd K hK
            have b43 : a'.tmps[43]?.getD undef = _ := hd ⟨1, .data⟩ (by simp) rfl
            refine ⟨fun _ _ => trivial, ?_⟩
            go_simp
            exact hK _ _ (World.grownBy.refl _ _) (by first | rfl | (rw [add_zero]; rfl) | (simp [add_zero]; rfl))
          · intro a' W hW hb hd K hK
            have b44 : a'.tmps[44]?.getD undef = _ := hd ⟨2, .data⟩ (by simp) rfl
            refine wpIn_load_any (fun _ => trivial) 40 (.tmp 44) rfl ((ad2.add (j.val * 65)).add 1) (show a'.eval (.tmp 44) = _ from by simp only [Act.eval, Array.getD_eq_getD_getElem?]; exact b44) (u.o.map bv) _ (fun q s hs => by rw [add_add]; exact (HY.out W (hW.1.at_ 5 rfl)).1 _ s (chg_sub1 hxu.out q s hs)) Tryd.underlying40 rfl (by rw [List.length_map, hxu.out.1]; kernel_rfl) ?_
            exact hK _ _ (World.grownBy.refl _ _) rfl
          · intro a' W hW hb hd K hK
            have b10 := hb 10 rfl
            refine wpIn_load_any (fun _ => trivial) 40 (.tmp 10) rfl ⟨W0.heap.size, 0, none⟩ (show a'.eval (.tmp 10) = _ from by simp only [Act.eval, Array.getD_eq_getD_getElem?]; exact b10) (z32.map bv) _ (Cells.sub (hW.1.at_ 1 rfl) 0 (fun q s hs => by rw [Nat.zero_add]; exact hs)) Tryd.underlying40 rfl (by rw [List.length_map, show z32.length = 32 from rfl]; kernel_rfl) ?_
            exact hK _ _ (World.grownBy.refl _ _) rfl
        case fin =>
          intro vs V3 ⟨hV3, hKOV3, hsV3⟩ hv
          have e3 : vs 3 = _ := hv 3 (by decide)
          have e4 : vs 4 = _ := hv 4 (by decide)
          clear hv
          simp only [putAll, List.drop_succ_cons, List.drop_zero, e3, e4, Act.put, List.setIfInBounds_toArray, List.set_cons_succ, List.set_cons_zero]
          clear e3 e4

          have e4 : V3.cell? ⟨w.heap.size, 0, none⟩ = some (.slice none 0 0) := Cells.cell (hV3.at_ 8 rfl) (i := 0) (by simp)
          have f4 : V3.frozen? ⟨w.heap.size, 0, none⟩ = false := Cells.frozen (hV3.at_ 8 rfl) 0
          have e5 : V3.cell? ⟨w.heap.size + 1, 0, none⟩ = some (.int .i64 0) := Cells.cell (hV3.at_ 9 rfl) (i := 0) (by simp)
          have f5 : V3.frozen? ⟨w.heap.size + 1, 0, none⟩ = false := Cells.frozen (hV3.at_ 9 rfl) 0
          gi_wp2_with (refine wlIn_neq (fun _ => trivial) (.tmp 45) (.tmp 46) rfl rfl (.bool true) ((ne_dg _ u.o z32 hxu.out.1 (rfl)).trans (by rw [HM.out])) (by go_simp) ?_)
          clear e4 f4 e5 f5
          have hr1 : All V3 [.cells w.heap.size 22 [.slice none 0 0], .cells (w.heap.size + 1) 31 [.int .i64 0], .kept w w.heap.size] := ⟨hV3.at_ 8 rfl, hV3.at_ 9 rfl, hV3.at_ 10 rfl, trivial⟩
          have hr2 := hr1.store 0 rfl 0 (.slice none 0 0) ⟨fun e => by injection e with e; omega, fun g e => by injection e with e; omega, trivial⟩
          have hr3 := hr2.store 1 rfl 0 (.int .i64 9) ⟨fun e => by injection e with e; omega, fun g e => by injection e with e; omega, trivial⟩
          exact ⟨hKOV3.trans ((KeepsOthers.setCell _ _ _).trans (.setCell _ _ _)), rfl, HRUN0.out HF.out, hr3⟩
      | true =>
        have HM : Hid (Value.bool (!decide (u.o = z32)) = .bool false) := Lib.hid (by rw [hm]; rfl)
        have hmm := Lib.hid (of_decide_eq_true hm)
        clear hm
        refine wpIn_region_hopsJ 5 [42, 43, 44, 45, 46] [.cells (W0.heap.size + 1) 40 (z32.map bv), .cells W0.heap.size 40 (z32.map bv), .own (w4.heap.size + 1 + 1) 50 33 A r.length c (r.map entC).flatten, .cells w2.heap.size 22 [.slice A r.length c], .own (w2.heap.size + 1) 57 65 X1 la.length k1 (la.map chgC).flatten, .low (.els B 65 (some ad2) lb.length (lb.map chgC)), .cells w4.heap.size 58 [.slice X1 la.length k1], .cells (w4.heap.size + 1) 58 [.slice (some ad2) lb.length c2], .cells w.heap.size 22 [.slice none 0 0], .cells (w.heap.size + 1) 31 [.int .i64 0], .kept w w.heap.size] (fun V => KeepsOthers W0 V ∧ W0.heap.size + 2 ≤ V.heap.size)
          [.eq (.pointer (some (ad2.add (j.val * 65)))), .eq (.pointer (some (ad2.add (j.val * 65)))), .eq (.pointer (some ((ad2.add (j.val * 65)).add 1))), .eq (.agg (u.o.map bv).toArray), .eq (.agg (z32.map bv).toArray)]
          (fun _ => trivial) (by kernel_rfl) (by kernel_rfl) (fun w1 w2 hg hj => ⟨hj.1.trans (.of_grownBy hg (fun j o e => by cases e)), Nat.le_trans hj.2 hg.size⟩) ⟨hV1, hKO1, hs1⟩ rfl ?hops ?fin
        case hops =>
          refine ⟨?_, ?_, ?_, ?_, ?_, trivial⟩
          · intro a' W hW hb hd K hK
            have b8 := hb 8 rfl
            refine ⟨fun _ _ => trivial, ?_⟩
            go_simp
            exact hK _ _ (World.grownBy.refl _ _) rfl
          · intro a' W hW hb hd K hK
            have b42 : a'.tmps[42]?.getD undef = _ := hd ⟨0, .data⟩ (by simp) rfl
            refine ⟨fun _ _ => trivial, ?_⟩
            go_simp
            exact hK _ _ (World.grownBy.refl _ _) rfl
          · intro a' W hW hb hd K hK
            have b43 : a'.tmps[43]?.getD undef = _ := hd ⟨1, .data⟩ (by simp) rfl
            refine ⟨fun _ _ => trivial, ?_⟩
            go_simp
            exact hK _ _ (World.grownBy.refl _ _) (by first | rfl | (rw [add_zero]; rfl) | (simp [add_zero]; rfl))
          · intro a' W hW hb hd K hK
            have b44 : a'.tmps[44]?.getD undef = _ := hd ⟨2, .data⟩ (by simp) rfl
            refine wpIn_load_any (fun _ => trivial) 40 (.tmp 44) rfl ((ad2.add (j.val * 65)).add 1) (show a'.eval (.tmp 44) = _ from by simp only [Act.eval, Array.getD_eq_getD_getElem?]; exact b44) (u.o.map bv) _ (fun q s hs => by rw [add_add]; exact (HY.out W (hW.1.at_ 5 rfl)).1 _ s (chg_sub1 hxu.out q s hs)) Tryd.underlying40 rfl (by rw [List.length_map, hxu.out.1]; kernel_rfl) ?_
            exact hK _ _ (World.grownBy.refl _ _) rfl
          · intro a' W hW hb hd K hK
            have b10 := hb 10 rfl
            refine wpIn_load_any (fun _ => trivial) 40 (.tmp 10) rfl ⟨W0.heap.size, 0, none⟩ (show a'.eval (.tmp 10) = _ from by simp only [Act.eval, Array.getD_eq_getD_getElem?]; exact b10) (z32.map bv) _ (Cells.sub (hW.1.at_ 1 rfl) 0 (fun q s hs => by rw [Nat.zero_add]; exact hs)) Tryd.underlying40 rfl (by rw [List.length_map, show z32.length = 32 from rfl]; kernel_rfl) ?_
            exact hK _ _ (World.grownBy.refl _ _) rfl
        case fin =>
          intro vs V3 ⟨hV3, hKOV3, hsV3⟩ hv
          have e3 : vs 3 = _ := hv 3 (by decide)
          have e4 : vs 4 = _ := hv 4 (by decide)
          clear hv
          simp only [putAll, List.drop_succ_cons, List.drop_zero, e3, e4, Act.put, List.setIfInBounds_toArray, List.set_cons_succ, List.set_cons_zero]
          clear e3 e4

          gi_wp2_with (refine wlIn_neq (fun _ => trivial) (.tmp 45) (.tmp 46) rfl rfl (.bool false) ((ne_dg _ u.o z32 hxu.out.1 (rfl)).trans (by rw [HM.out])) (by go_simp) ?_)
          refine wpIn_region_est [48, 49, 50, 51, 52, 53, 54, 55, 9, 1009] (.cells W0.heap.size 40 (z32.map bv) :: [.own (w4.heap.size + 1 + 1) 50 33 A r.length c (r.map entC).flatten, .cells w2.heap.size 22 [.slice A r.length c], .own (w2.heap.size + 1) 57 65 X1 la.length k1 (la.map chgC).flatten, .low (.els B 65 (some ad2) lb.length (lb.map chgC)), .cells w4.heap.size 58 [.slice X1 la.length k1], .cells (w4.heap.size + 1) 58 [.slice (some ad2) lb.length c2], .cells w.heap.size 22 [.slice none 0 0], .cells (w.heap.size + 1) 31 [.int .i64 0], .kept w w.heap.size]) (fun V => KeepsOthers W0 V ∧ W0.heap.size + 2 ≤ V.heap.size)
            [(.pointer (some (ad2.add (j.val * 65)))), (.pointer (some (ad2.add (j.val * 65)))), (.pointer (some (ad2.add (j.val * 65)))), (.string u.p), (.pointer (some (ad2.add (j.val * 65)))), (.pointer (some (ad2.add (j.val * 65)))), (.pointer (some ((ad2.add (j.val * 65)).add 33))), (.agg (u.n.map bv).toArray), (.string u.p)] [(W0.heap.size + 1, 40, u.n.map bv)]
            (fun _ => trivial) (by kernel_rfl) (by kernel_rfl) (by show (69 : Nat) ≤ 1000; decide) (fun w1 w2 hk hs hj => ⟨hj.1.trans hk, Nat.le_trans hj.2 hs⟩) ⟨hV3.2, ⟨hKOV3, hsV3⟩, (boxes1 (by rw [List.length_map, List.length_map]; exact (rfl).trans (hxu.out.2.1).symm) (hV3.at_ 0 rfl))⟩ rfl ?hap ?hnd ?hops ?fin
          case hap => (simp only [List.forall_mem_cons]; exact ⟨⟨fun e => by injection e with e; omega, HAP.out _ (by omega)⟩, by simp⟩)
          case hnd => simp
          case hops =>
            refine ⟨?_, ?_, ?_, ?_, ?_, ?_, ?_, ?_, ?_, ?_, trivial⟩
            · refine ⟨rfl, ?_⟩
              intro a' W hW hb hd K hK
              have b8 := hb 8 rfl
              refine ⟨fun _ _ => trivial, ?_⟩
              go_simp
              exact hK _ _ (World.grownBy.refl _ _) rfl (by intro h; cases h)
            · refine ⟨rfl, ?_⟩
              intro a' W hW hb hd K hK
              have b48 : a'.tmps[48]?.getD undef = _ := hd ⟨0, .data⟩ (by simp) rfl
              refine ⟨fun _ _ => trivial, ?_⟩
              go_simp
              exact hK _ _ (World.grownBy.refl _ _) rfl (by intro h; cases h)
            · refine ⟨rfl, ?_⟩
              intro a' W hW hb hd K hK
              have b49 : a'.tmps[49]?.getD undef = _ := hd ⟨1, .data⟩ (by simp) rfl
              refine ⟨fun _ _ => trivial, ?_⟩
              go_simp
              exact hK _ _ (World.grownBy.refl _ _) (by first | rfl | (rw [add_zero]; rfl) | (simp [add_zero]; rfl)) (by intro h; cases h)
            · refine ⟨rfl, ?_⟩
              intro a' W hW hb hd K hK
              have b50 : a'.tmps[50]?.getD undef = _ := hd ⟨2, .data⟩ (by simp) rfl
              have q1 : W.cell? (ad2.add (j.val * 65)) = some (.string u.p) := by have := (HY.out W (hW.1.at_ 4 rfl)).1 0 (sv u.p) rfl; rwa [add_zero] at this
              refine ⟨fun _ _ => trivial, ?_⟩
              go_simp
              exact hK _ _ (World.grownBy.refl _ _) rfl (by intro h; cases h)
            · refine ⟨rfl, ?_⟩
              intro a' W hW hb hd K hK
              have b8 := hb 8 rfl
              refine ⟨fun _ _ => trivial, ?_⟩
              go_simp
              exact hK _ _ (World.grownBy.refl _ _) rfl (by intro h; cases h)
            · refine ⟨rfl, ?_⟩
              intro a' W hW hb hd K hK
              have b52 : a'.tmps[52]?.getD undef = _ := hd ⟨4, .data⟩ (by simp) rfl
              refine ⟨fun _ _ => trivial, ?_⟩
              go_simp
              exact hK _ _ (World.grownBy.refl _ _) rfl (by intro h; cases h)
            · refine ⟨rfl, ?_⟩
              intro a' W hW hb hd K hK
              have b53 : a'.tmps[53]?.getD undef = _ := hd ⟨5, .data⟩ (by simp) rfl
              refine ⟨fun _ _ => trivial, ?_⟩
              go_simp
              exact hK _ _ (World.grownBy.refl _ _) (by first | rfl | (rw [add_zero]; rfl) | (simp [add_zero]; rfl)) (by intro h; cases h)
            · refine ⟨rfl, ?_⟩
              intro a' W hW hb hd K hK
              have b54 : a'.tmps[54]?.getD undef = _ := hd ⟨6, .data⟩ (by simp) rfl
              refine wpIn_load_any (fun _ => trivial) 40 (.tmp 54) rfl ((ad2.add (j.val * 65)).add 33) (show a'.eval (.tmp 54) = _ from by simp only [Act.eval, Array.getD_eq_getD_getElem?]; exact b54) (u.n.map bv) _ (fun q s hs => by rw [add_add]; exact (HY.out W (hW.1.at_ 4 rfl)).1 _ s (chg_sub2 hxu.out q s hs)) Tryd.underlying40 rfl (by rw [List.length_map, hxu.out.2.1]; kernel_rfl) ?_
              exact hK _ _ (World.grownBy.refl _ _) rfl (by intro h; cases h)
            · refine ⟨rfl, ?_⟩
              intro a' W hW hb hd K hK
              have b51 : a'.tmps[51]?.getD undef = _ := hd ⟨3, .data⟩ (by simp) rfl
              refine ⟨fun _ _ => trivial, ?_⟩
              go_simp
              exact hK _ _ (World.grownBy.refl _ _) rfl (by intro h; cases h)
            · refine ⟨rfl, ?_⟩
              intro a' W hW hb hd K hK
              have b11 := hb 11 rfl
              have b55 : a'.tmps[55]?.getD undef = _ := hd ⟨7, .data⟩ (by simp) rfl
              obtain ⟨cs, hl, hc⟩ := hW.2.2 (W0.heap.size + 1, 40, (u.n.map bv).length) (by simp)
              refine wpIn_store_all (fun _ => trivial) 40 (.tmp 11) (.tmp 55) rfl (W0.heap.size + 1) 40 cs (u.n.map bv) hc (show a'.eval (.tmp 11) = _ from by simp only [Act.eval, Array.getD_eq_getD_getElem?]; exact b11) (show a'.eval (.tmp 55) = _ from by simp only [Act.eval, Array.getD_eq_getD_getElem?]; exact b55) hl.symm (by rw [List.length_map, show u.n.length = 32 from hxu.out.2.1]; kernel_rfl) (bv_one _) ?_
              intro w' hgo hc'
              exact hK _ _ hgo ⟨rfl, hc'⟩ (fun _ => rfl)
          case fin =>
            intro vs V4 ⟨hV4, ⟨hKOV4, hsV4⟩, hBx⟩ hv
            have e3 : vs 3 = _ := hv 3 (by decide)
            have e7 : vs 7 = _ := hv 7 (by decide)
            have e8 : vs 8 = _ := hv 8 (by decide)
            obtain ⟨e9, hc9⟩ := (hv 9 (by decide) : SF.ok (.st (W0.heap.size + 1) 40 (u.n.map bv)) (vs 9) V4)
            clear hv hBx
            simp only [putAll, List.drop_succ_cons, List.drop_zero, e3, e7, e8, e9, Act.put, List.setIfInBounds_toArray, List.set_cons_succ, List.set_cons_zero, List.set_nil]
            clear e3 e7 e8 e9

            have hVb : All V4 [.cells (W0.heap.size + 1) 40 (u.n.map bv), .cells W0.heap.size 40 (z32.map bv), .own (w4.heap.size + 1 + 1) 50 33 A r.length c (r.map entC).flatten, .cells w2.heap.size 22 [.slice A r.length c], .own (w2.heap.size + 1) 57 65 X1 la.length k1 (la.map chgC).flatten, .low (.els B 65 (some ad2) lb.length (lb.map chgC)), .cells w4.heap.size 58 [.slice X1 la.length k1], .cells (w4.heap.size + 1) 58 [.slice (some ad2) lb.length c2], .cells w.heap.size 22 [.slice none 0 0], .cells (w.heap.size + 1) 31 [.int .i64 0], .kept w w.heap.size] := ⟨hc9, hV4⟩
            clear hc9 hV4
            have e6V4 : V4.cell? ⟨w2.heap.size, 0, none⟩ = some (.slice A r.length c) := Cells.cell (hVb.at_ 3 rfl) (i := 0) (by simp)
            cases hz : decide (u.n = z32) with
            | true =>
              have HZ : Hid (Value.bool (!decide (u.n = z32)) = .bool false) := Lib.hid (by rw [hz]; rfl)
              have HF : Hid (appF z32 (lookF la lb (It.r j)) = some none) := Lib.hid (by rw [HF0.out, if_pos hmm.out]; exact if_pos (of_decide_eq_true hz))
              clear hz
              gi_wp2_with (first | (refine wlIn_load_any (fun _ => trivial) rfl 40 (.tmp 11) rfl ⟨W0.heap.size + 1, 0, none⟩ rfl (u.n.map bv) _ (Cells.sub (hVb.at_ 0 rfl) 0 (fun j u hu => by rw [Nat.zero_add]; exact hu)) Tryd.underlying40 rfl (by rw [List.length_map, show u.n.length = 32 from hxu.out.2.1]; kernel_rfl) ?_) | (refine wlIn_neq (fun _ => trivial) (.tmp 56) (.tmp 57) rfl rfl (.bool false) ((ne_dg _ u.n z32 (hxu.out.2.1) rfl).trans (by rw [HZ.out])) (by go_simp) ?_))
              exact ⟨hKOV4, fun _ => LOWS.out _ _ _ _ hVb.2.2 (by omega), A, c, r, by have := HRUN.out _ HF.out; rwa [Option.toList_none, List.append_nil] at this, hVb.2.2, by omega⟩
            | false =>
              have HZ : Hid (Value.bool (!decide (u.n = z32)) = .bool true) := Lib.hid (by rw [hz]; rfl)
              have HF : Hid (appF z32 (lookF la lb (It.r j)) = some (some ⟨u.p, u.n⟩)) := Lib.hid (by rw [HF0.out, if_pos hmm.out]; exact if_neg (of_decide_eq_false hz))
              clear hz
              gi_wp2_with (first | (refine wlIn_load_any (fun _ => trivial) rfl 40 (.tmp 11) rfl ⟨W0.heap.size + 1, 0, none⟩ rfl (u.n.map bv) _ (Cells.sub (hVb.at_ 0 rfl) 0 (fun j u hu => by rw [Nat.zero_add]; exact hu)) Tryd.underlying40 rfl (by rw [List.length_map, show u.n.length = 32 from hxu.out.2.1]; kernel_rfl) ?_) | (refine wlIn_load_any (fun _ => trivial) rfl 40 (.tmp 11) rfl ⟨W0.heap.size + 1, 0, none⟩ rfl (u.n.map bv) _ (Cells.sub (hVb.at_ 0 rfl) 0 (fun j u hu => by rw [Nat.zero_add]; exact hu)) Tryd.underlying40 rfl (by rw [List.length_map, show u.n.length = 32 from hxu.out.2.1]; kernel_rfl) ?_) | (refine wlIn_neq (fun _ => trivial) (.tmp 56) (.tmp 57) rfl rfl (.bool true) ((ne_dg _ u.n z32 (hxu.out.2.1) rfl).trans (by rw [HZ.out])) (by go_simp) ?_) | (refine wlIn_bld (fun _ => trivial) rfl 50 [(0, .tmp 60), (1, .tmp 61)] rfl _ _ #[(0, 1), (1, 32)] (entC ⟨u.p, u.n⟩).toArray zero_ent Tryd.underlying50 (fun w => by kernel_rfl) ?_ ?_; exact fill_ent u.p u.n (hxu.out.2.1)) | (refine wlIn_lit1 (fun _ => trivial) rfl el_ent (.tmp 62) rfl (entC ⟨u.p, u.n⟩) rfl (entC_len ⟨hxu.out.2.1, hxu.out.2.2⟩) (by decide) ?_) | (gi_at_builtin; refine wlIn_app el_ent rfl (.tmp 59) (.tmp 63) rfl (w4.heap.size + 1 + 1) A r.length c ((r.map entC).flatten) rfl (Go.Adm.Own.alloc (hVb.at_ 2 rfl) _) (V4.heap.size + 1) _ 1 1 (entC ⟨u.p, u.n⟩) rfl (Rd.lit V4 (entC ⟨u.p, u.n⟩).toArray 50 1 (by rw [List.size_toArray]; exact entC_len ⟨hxu.out.2.1, hxu.out.2.2⟩)) (entC_one _) (by omega) (by simp; omega) ?_; intro A3 c3 w9 hown3 hg3 hob3; obtain ⟨hM1, hM2, hM3⟩ := out_more ((All.alloc hVb _).2.2) HAP1.out (by omega) hown3 hg3 HAP2.out; have c2 : w9.cell? ⟨w2.heap.size, 0, none⟩ = some (.slice A r.length c) := Cells.cell (hM1.at_ 1 rfl) (i := 0) (by simp); have f2 : w9.frozen? ⟨w2.heap.size, 0, none⟩ = false := Cells.frozen (hM1.at_ 1 rfl) 0; have hsw9 : W0.heap.size + 2 ≤ w9.heap.size := by have h := hg3.size; simp at h; omega))
              clear c2 f2
              have hM4 : All (w9.setCell ⟨w2.heap.size, 0, none⟩ (.slice A3 (r.length + 1) c3)) [.own (w4.heap.size + 1 + 1) 50 33 A3 (r ++ [(⟨u.p, u.n⟩ : E)]).length c3 ((r ++ [(⟨u.p, u.n⟩ : E)]).map entC).flatten, .cells w2.heap.size 22 [.slice A3 (r ++ [(⟨u.p, u.n⟩ : E)]).length c3], .own (w2.heap.size + 1) 57 65 X1 la.length k1 (la.map chgC).flatten, .low (.els B 65 (some ad2) lb.length (lb.map chgC)), .cells w4.heap.size 58 [.slice X1 la.length k1], .cells (w4.heap.size + 1) 58 [.slice (some ad2) lb.length c2], .cells w.heap.size 22 [.slice none 0 0], .cells (w.heap.size + 1) 31 [.int .i64 0], .kept w w.heap.size] := by
                rw [List.length_append, List.map_append, List.flatten_append]
                simpa using hM2
              have hM5 : (w4.heap.size + 1 + 1) ≤ (w9.setCell ⟨w2.heap.size, 0, none⟩ (.slice A3 (r.length + 1) c3)).heap.size := by
                rw [size_setCell]
                omega
              exact ⟨(hKOV4.trans (.alloc _ _)).trans hM3, fun _ => LOWS.out _ _ _ _ hM4 hM5, A3, c3, r ++ [⟨u.p, u.n⟩], HRUN.out _ HF.out, hM4, hM5⟩
    | e i j =>
      have hel1 : Els W0 W0.heap.size 65 X1 la.length (la.map chgC) := Els.of (hI.at_ 2 rfl) (chgs_len HLA.out) (by rw [List.length_map])
      obtain ⟨ad1, rfl, -, -⟩ := Els.elem hel1 i.isLt
      clear hel1
      obtain ⟨ad2, rfl, -, -⟩ := Els.elem (hI.at_ 3 rfl : Els W0 B 65 A2 lb.length (lb.map chgC) ∧ B ≤ W0.heap.size).1 j.isLt
      have HF0 : Hid (∀ v u, la[i.val] = v → lb[j.val] = u → appF z32 (lookF la lb (It.e i j)) = if u.o = v.n then (if u.n = z32 then some none else some (some ⟨u.p, u.n⟩)) else none) := Lib.hid (fun v u hv hu => by subst hv; subst hu; rfl)
      have HX : Hid (∀ V : World, Go.Adm.Own V (w2.heap.size + 1) 57 65 (some ad1) la.length k1 (la.map chgC).flatten → (∀ q s, (chgC la[i.val])[q]? = some s → V.cell? ((ad1.add (i.val * 65)).add q) = some s) ∧ True) := Lib.hid (fun V hV => by
        have hel : Els V V.heap.size 65 (some ad1) la.length (la.map chgC) := Els.of hV (chgs_len HLA.out) (by rw [List.length_map])
        obtain ⟨ad', e, -, hc⟩ := Els.elem hel i.isLt
        obtain rfl := Option.some.inj e
        exact ⟨hc, trivial⟩)
      have hxv := Lib.hid (HLA.out _ (List.getElem_mem i.isLt))
      have HY : Hid (∀ V : World, Els V B 65 (some ad2) lb.length (lb.map chgC) ∧ B ≤ V.heap.size → (∀ q s, (chgC lb[j.val])[q]? = some s → V.cell? ((ad2.add (j.val * 65)).add q) = some s) ∧ True) := Lib.hid (fun V hV => by
        obtain ⟨ad', e, -, hc⟩ := Els.elem hV.1 j.isLt
        obtain rfl := Option.some.inj e
        exact ⟨hc, trivial⟩)
      have hxu := Lib.hid (HLB.out _ (List.getElem_mem j.isLt))
      obtain ⟨v, hv⟩ : ∃ v, la[i.val] = v := ⟨_, rfl⟩
      obtain ⟨u, hu⟩ : ∃ u, lb[j.val] = u := ⟨_, rfl⟩
      have HF1 := Lib.hid (HF0.out v u hv hu)
      rw [hv] at HX hxv
      rw [hu] at HY hxu
      clear hv hu HF0
      have HAP : Hid (∀ g, W0.heap.size ≤ g → Apart (some g) [.own (w4.heap.size + 1 + 1) 50 33 A r.length c (r.map entC).flatten, .cells w2.heap.size 22 [.slice A r.length c], .own (w2.heap.size + 1) 57 65 (some ad1) la.length k1 (la.map chgC).flatten, .low (.els B 65 (some ad2) lb.length (lb.map chgC)), .cells w4.heap.size 58 [.slice (some ad1) la.length k1], .cells (w4.heap.size + 1) 58 [.slice (some ad2) lb.length c2], .cells w.heap.size 22 [.slice none 0 0], .cells (w.heap.size + 1) 31 [.int .i64 0], .kept w w.heap.size]) := Lib.hid (fun g hg => apart_new hg hI ⟨trivial, trivial, trivial, (hI.at_ 3 rfl : Els W0 B 65 (some ad2) lb.length (lb.map chgC) ∧ B ≤ W0.heap.size).2, trivial, trivial, trivial, trivial, hwW, trivial⟩)
      have HAP1 : Hid (∀ g, (w4.heap.size + 1 + 1) ≤ g → (Value.slice A r.length c).ownBlock = some g → Apart (some g) [.own (w2.heap.size + 1) 57 65 (some ad1) la.length k1 (la.map chgC).flatten, .low (.els B 65 (some ad2) lb.length (lb.map chgC)), .cells w4.heap.size 58 [.slice (some ad1) la.length k1], .cells (w4.heap.size + 1) 58 [.slice (some ad2) lb.length c2], .cells w.heap.size 22 [.slice none 0 0], .cells (w.heap.size + 1) 31 [.int .i64 0], .kept w w.heap.size]) := Lib.hid (fun g hg hg2 => ⟨fun g' e => .inr (fun e2 => by injection e with e; subst e; have := HX1.out _ e2; omega), fun g' e => by injection e with e; have := hBw; simp only [Low.els]; omega, fun e => by injection e with e; omega, fun e => by injection e with e; omega, fun e => by injection e with e; omega, fun e => by injection e with e; omega, fun g' e => by injection e with e; omega, trivial⟩)
      have HAP2 : Hid (Apart (some w2.heap.size) [.own (w2.heap.size + 1) 57 65 (some ad1) la.length k1 (la.map chgC).flatten, .low (.els B 65 (some ad2) lb.length (lb.map chgC)), .cells w4.heap.size 58 [.slice (some ad1) la.length k1], .cells (w4.heap.size + 1) 58 [.slice (some ad2) lb.length c2], .cells w.heap.size 22 [.slice none 0 0], .cells (w.heap.size + 1) 31 [.int .i64 0], .kept w w.heap.size]) := Lib.hid ⟨fun g' e => .inl (by injection e with e; omega), fun g' e => by injection e with e; have := hBw; simp only [Low.els]; omega, fun e => by injection e with e; omega, fun e => by injection e with e; omega, fun e => by injection e with e; omega, fun e => by injection e with e; omega, fun g' e => by injection e with e; omega, trivial⟩
      have hV1 : All ((W0.alloc (.cells (z32.map bv).toArray 40)).alloc (.cells (z32.map bv).toArray 40)) [.cells (W0.heap.size + 1) 40 (z32.map bv), .cells W0.heap.size 40 (z32.map bv), .own (w4.heap.size + 1 + 1) 50 33 A r.length c (r.map entC).flatten, .cells w2.heap.size 22 [.slice A r.length c], .own (w2.heap.size + 1) 57 65 (some ad1) la.length k1 (la.map chgC).flatten, .low (.els B 65 (some ad2) lb.length (lb.map chgC)), .cells w4.heap.size 58 [.slice (some ad1) la.length k1], .cells (w4.heap.size + 1) 58 [.slice (some ad2) lb.length c2], .cells w.heap.size 22 [.slice none 0 0], .cells (w.heap.size + 1) 31 [.int .i64 0], .kept w w.heap.size] := (hI.new (l := z32.map bv) _ 40 rfl rfl).new (l := z32.map bv) _ 40 (g := W0.heap.size + 1) (by simp) rfl
      have hKO1 : KeepsOthers W0 ((W0.alloc (.cells (z32.map bv).toArray 40)).alloc (.cells (z32.map bv).toArray 40)) := (KeepsOthers.alloc _ _).trans (.alloc _ _)
      have hs1 : W0.heap.size + 2 ≤ ((W0.alloc (.cells (z32.map bv).toArray 40)).alloc (.cells (z32.map bv).toArray 40)).heap.size := by simp
      clear hI
      simp only [itX, itY, ptrA, Option.map_some]
      gi_wp2
      refine wpIn_region_est [28, 29, 30, 31, 32, 33, 34, 35, 36, 37, 38, 39, 9, 1013, 1014] [.own (w4.heap.size + 1 + 1) 50 33 A r.length c (r.map entC).flatten, .cells w2.heap.size 22 [.slice A r.length c], .own (w2.heap.size + 1) 57 65 (some ad1) la.length k1 (la.map chgC).flatten, .low (.els B 65 (some ad2) lb.length (lb.map chgC)), .cells w4.heap.size 58 [.slice (some ad1) la.length k1], .cells (w4.heap.size + 1) 58 [.slice (some ad2) lb.length c2], .cells w.heap.size 22 [.slice none 0 0], .cells (w.heap.size + 1) 31 [.int .i64 0], .kept w w.heap.size] (fun V => KeepsOthers W0 V ∧ W0.heap.size + 2 ≤ V.heap.size)
        [(.pointer (some (ad1.add (i.val * 65)))), (.pointer (some (ad1.add (i.val * 65)))), (.pointer (some (ad1.add (i.val * 65)))), (.string v.p), (.pointer (some (ad1.add (i.val * 65)))), (.pointer (some (ad1.add (i.val * 65)))), (.pointer (some ((ad1.add (i.val * 65)).add 33))), (.agg (v.n.map bv).toArray), (.pointer (some (ad1.add (i.val * 65)))), (.pointer (some (ad1.add (i.val * 65)))), (.pointer (some ((ad1.add (i.val * 65)).add 33))), (.agg (v.n.map bv).toArray), (.string v.p)] [(W0.heap.size, 40, v.n.map bv), (W0.heap.size + 1, 40, v.n.map bv)]
        (fun _ => trivial) (by kernel_rfl) (by kernel_rfl) (by show (69 : Nat) ≤ 1000; decide) (fun w1 w2 hk hs hj => ⟨hj.1.trans hk, Nat.le_trans hj.2 hs⟩) ⟨hV1.2.2, ⟨hKO1, hs1⟩, (boxes2 (by rw [List.length_map, List.length_map]; exact (rfl).trans (hxv.out.2.1).symm) (hV1.at_ 1 rfl) (by rw [List.length_map, List.length_map]; exact (rfl).trans (hxv.out.2.1).symm) (hV1.at_ 0 rfl))⟩ rfl ?hap ?hnd ?hops ?fin
      case hap => (simp only [List.forall_mem_cons]; exact ⟨HAP.out _ (by omega), HAP.out _ (by omega), by simp⟩)
      case hnd => simp
      case hops =>
        refine ⟨?_, ?_, ?_, ?_, ?_, ?_, ?_, ?_, ?_, ?_, ?_, ?_, ?_, ?_, ?_, trivial⟩
        · refine ⟨rfl, ?_⟩
          intro a' W hW hb hd K hK
          have b7 := hb 7 rfl
          refine ⟨fun _ _ => trivial, ?_⟩
          go_simp
          exact hK _ _ (World.grownBy.refl _ _) rfl (by intro h; cases h)
        · refine ⟨rfl, ?_⟩
          intro a' W hW hb hd K hK
          have b28 : a'.tmps[28]?.getD undef = _ := hd ⟨0, .data⟩ (by simp) rfl
          refine ⟨fun _ _ => trivial, ?_⟩
          go_simp
          exact hK _ _ (World.grownBy.refl _ _) rfl (by intro h; cases h)
        · refine ⟨rfl, ?_⟩
          intro a' W hW hb hd K hK
          have b29 : a'.tmps[29]?.getD undef = _ := hd ⟨1, .data⟩ (by simp) rfl
          refine ⟨fun _ _ => trivial, ?_⟩
          go_simp
          exact hK _ _ (World.grownBy.refl _ _) (by first | rfl | (rw [add_zero]; rfl) | (simp [add_zero]; rfl)) (by intro h; cases h)
        · refine ⟨rfl, ?_⟩
          intro a' W hW hb hd K hK
          have b30 : a'.tmps[30]?.getD undef = _ := hd ⟨2, .data⟩ (by simp) rfl
          have q1 : W.cell? (ad1.add (i.val * 65)) = some (.string v.p) := by have := (HX.out W (hW.1.at_ 2 rfl)).1 0 (sv v.p) rfl; rwa [add_zero] at this
          refine ⟨fun _ _ => trivial, ?_⟩
          go_simp
          exact hK _ _ (World.grownBy.refl _ _) rfl (by intro h; cases h)
        · refine ⟨rfl, ?_⟩
          intro a' W hW hb hd K hK
          have b7 := hb 7 rfl
          refine ⟨fun _ _ => trivial, ?_⟩
          go_simp
          exact hK _ _ (World.grownBy.refl _ _) rfl (by intro h; cases h)
        · refine ⟨rfl, ?_⟩
          intro a' W hW hb hd K hK
          have b32 : a'.tmps[32]?.getD undef = _ := hd ⟨4, .data⟩ (by simp) rfl
          refine ⟨fun _ _ => trivial, ?_⟩
          go_simp
          exact hK _ _ (World.grownBy.refl _ _) rfl (by intro h; cases h)
        · refine ⟨rfl, ?_⟩
          intro a' W hW hb hd K hK
          have b33 : a'.tmps[33]?.getD undef = _ := hd ⟨5, .data⟩ (by simp) rfl
          refine ⟨fun _ _ => trivial, ?_⟩
          go_simp
          exact hK _ _ (World.grownBy.refl _ _) (by first | rfl | (rw [add_zero]; rfl) | (simp [add_zero]; rfl)) (by intro h; cases h)
        · refine ⟨rfl, ?_⟩
          intro a' W hW hb hd K hK
          have b34 : a'.tmps[34]?.getD undef = _ := hd ⟨6, .data⟩ (by simp) rfl
          refine wpIn_load_any (fun _ => trivial) 40 (.tmp 34) rfl ((ad1.add (i.val * 65)).add 33) (show a'.eval (.tmp 34) = _ from by simp only [Act.eval, Array.getD_eq_getD_getElem?]; exact b34) (v.n.map bv) _ (fun q s hs => by rw [add_add]; exact (HX.out W (hW.1.at_ 2 rfl)).1 _ s (chg_sub2 hxv.out q s hs)) Tryd.underlying40 rfl (by rw [List.length_map, hxv.out.2.1]; kernel_rfl) ?_
          exact hK _ _ (World.grownBy.refl _ _) rfl (by intro h; cases h)
        · refine ⟨rfl, ?_⟩
          intro a' W hW hb hd K hK
          have b7 := hb 7 rfl
          refine ⟨fun _ _ => trivial, ?_⟩
          go_simp
          exact hK _ _ (World.grownBy.refl _ _) rfl (by intro h; cases h)
        · refine ⟨rfl, ?_⟩
          intro a' W hW hb hd K hK
          have b36 : a'.tmps[36]?.getD undef = _ := hd ⟨8, .data⟩ (by simp) rfl
          refine ⟨fun _ _ => trivial, ?_⟩
          go_simp
          exact hK _ _ (World.grownBy.refl _ _) rfl (by intro h; cases h)
        · refine ⟨rfl, ?_⟩
          intro a' W hW hb hd K hK
          have b37 : a'.tmps[37]?.getD undef = _ := hd ⟨9, .data⟩ (by simp) rfl
          refine ⟨fun _ _ => trivial, ?_⟩
          go_simp
          exact hK _ _ (World.grownBy.refl _ _) (by first | rfl | (rw [add_zero]; rfl) | (simp [add_zero]; rfl)) (by intro h; cases h)
        · refine ⟨rfl, ?_⟩
          intro a' W hW hb hd K hK
          have b38 : a'.tmps[38]?.getD undef = _ := hd ⟨10, .data⟩ (by simp) rfl
          refine wpIn_load_any (fun _ => trivial) 40 (.tmp 38) rfl ((ad1.add (i.val * 65)).add 33) (show a'.eval (.tmp 38) = _ from by simp only [Act.eval, Array.getD_eq_getD_getElem?]; exact b38) (v.n.map bv) _ (fun q s hs => by rw [add_add]; exact (HX.out W (hW.1.at_ 2 rfl)).1 _ s (chg_sub2 hxv.out q s hs)) Tryd.underlying40 rfl (by rw [List.length_map, hxv.out.2.1]; kernel_rfl) ?_
          exact hK _ _ (World.grownBy.refl _ _) rfl (by intro h; cases h)
        · refine ⟨rfl, ?_⟩
          intro a' W hW hb hd K hK
          have b31 : a'.tmps[31]?.getD undef = _ := hd ⟨3, .data⟩ (by simp) rfl
          refine ⟨fun _ _ => trivial, ?_⟩
          go_simp
          exact hK _ _ (World.grownBy.refl _ _) rfl (by intro h; cases h)
        · refine ⟨rfl, ?_⟩
          intro a' W hW hb hd K hK
          have b10 := hb 10 rfl
          have b35 : a'.tmps[35]?.getD undef = _ := hd ⟨7, .data⟩ (by simp) rfl
          obtain ⟨cs, hl, hc⟩ := hW.2.2 (W0.heap.size, 40, (v.n.map bv).length) (by simp)
          refine wpIn_store_all (fun _ => trivial) 40 (.tmp 10) (.tmp 35) rfl (W0.heap.size) 40 cs (v.n.map bv) hc (show a'.eval (.tmp 10) = _ from by simp only [Act.eval, Array.getD_eq_getD_getElem?]; exact b10) (show a'.eval (.tmp 35) = _ from by simp only [Act.eval, Array.getD_eq_getD_getElem?]; exact b35) hl.symm (by rw [List.length_map, show v.n.length = 32 from hxv.out.2.1]; kernel_rfl) (bv_one _) ?_
          intro w' hgo hc'
          exact hK _ _ hgo ⟨rfl, hc'⟩ (fun _ => rfl)
        · refine ⟨rfl, ?_⟩
          intro a' W hW hb hd K hK
          have b11 := hb 11 rfl
          have b39 : a'.tmps[39]?.getD undef = _ := hd ⟨11, .data⟩ (by simp) rfl
          obtain ⟨cs, hl, hc⟩ := hW.2.2 (W0.heap.size + 1, 40, (v.n.map bv).length) (by simp)
          refine wpIn_store_all (fun _ => trivial) 40 (.tmp 11) (.tmp 39) rfl (W0.heap.size + 1) 40 cs (v.n.map bv) hc (show a'.eval (.tmp 11) = _ from by simp only [Act.eval, Array.getD_eq_getD_getElem?]; exact b11) (show a'.eval (.tmp 39) = _ from by simp only [Act.eval, Array.getD_eq_getD_getElem?]; exact b39) hl.symm (by rw [List.length_map, show v.n.length = 32 from hxv.out.2.1]; kernel_rfl) (bv_one _) ?_
          intro w' hgo hc'
          exact hK _ _ hgo ⟨rfl, hc'⟩ (fun _ => rfl)
      case fin =>
        intro vs V2 ⟨hV2, ⟨hKOV2, hsV2⟩, hBx⟩ hv
        have e3 : vs 3 = _ := hv 3 (by decide)
        have e7 : vs 7 = _ := hv 7 (by decide)
        have e11 : vs 11 = _ := hv 11 (by decide)
        have e12 : vs 12 = _ := hv 12 (by decide)
        obtain ⟨e13, hc13⟩ := (hv 13 (by decide) : SF.ok (.st (W0.heap.size) 40 (v.n.map bv)) (vs 13) V2)
        obtain ⟨e14, hc14⟩ := (hv 14 (by decide) : SF.ok (.st (W0.heap.size + 1) 40 (v.n.map bv)) (vs 14) V2)
        clear hv hBx
        simp only [putAll, List.drop_succ_cons, List.drop_zero, e3, e7, e11, e12, e13, e14, Act.put, List.setIfInBounds_toArray, List.set_cons_succ, List.set_cons_zero, List.set_nil]
        clear e3 e7 e11 e12 e13 e14
        have hVx : All V2 [.cells (W0.heap.size + 1) 40 (v.n.map bv), .cells W0.heap.size 40 (v.n.map bv), .own (w4.heap.size + 1 + 1) 50 33 A r.length c (r.map entC).flatten, .cells w2.heap.size 22 [.slice A r.length c], .own (w2.heap.size + 1) 57 65 (some ad1) la.length k1 (la.map chgC).flatten, .low (.els B 65 (some ad2) lb.length (lb.map chgC)), .cells w4.heap.size 58 [.slice (some ad1) la.length k1], .cells (w4.heap.size + 1) 58 [.slice (some ad2) lb.length c2], .cells w.heap.size 22 [.slice none 0 0], .cells (w.heap.size + 1) 31 [.int .i64 0], .kept w w.heap.size] := ⟨hc14, hc13, hV2⟩
        clear hc13 hc14 hV2
        gi_wp2
        cases hm : decide (u.o = v.n) with
        | false =>
          have HM : Hid (Value.bool (!decide (u.o = v.n)) = .bool true) := Lib.hid (by rw [hm]; rfl)
          have HF : Hid (appF z32 (lookF la lb (It.e i j)) = none) := Lib.hid (by rw [HF1.out, if_neg (of_decide_eq_false hm)])
          clear hm
          refine wpIn_region_hopsJ 5 [42, 43, 44, 45, 46] [.cells (W0.heap.size + 1) 40 (v.n.map bv), .cells W0.heap.size 40 (v.n.map bv), .own (w4.heap.size + 1 + 1) 50 33 A r.length c (r.map entC).flatten, .cells w2.heap.size 22 [.slice A r.length c], .own (w2.heap.size + 1) 57 65 (some ad1) la.length k1 (la.map chgC).flatten, .low (.els B 65 (some ad2) lb.length (lb.map chgC)), .cells w4.heap.size 58 [.slice (some ad1) la.length k1], .cells (w4.heap.size + 1) 58 [.slice (some ad2) lb.length c2], .cells w.heap.size 22 [.slice none 0 0], .cells (w.heap.size + 1) 31 [.int .i64 0], .kept w w.heap.size] (fun V => KeepsOthers W0 V ∧ W0.heap.size + 2 ≤ V.heap.size)
            [.eq (.pointer (some (ad2.add (j.val * 65)))), .eq (.pointer (some (ad2.add (j.val * 65)))), .eq (.pointer (some ((ad2.add (j.val * 65)).add 1))), .eq (.agg (u.o.map bv).toArray), .eq (.agg (v.n.map bv).toArray)]
            (fun _ => trivial) (by kernel_rfl) (by kernel_rfl) (fun w1 w2 hg hj => ⟨hj.1.trans (.of_grownBy hg (fun j o e => by cases e)), Nat.le_trans hj.2 hg.size⟩) ⟨hVx, hKOV2, hsV2⟩ rfl ?hops ?fin
          case hops =>
            refine ⟨?_, ?_, ?_, ?_, ?_, trivial⟩
            · intro a' W hW hb hd K hK
              have b8 := hb 8 rfl
              refine ⟨fun _ _ => trivial, ?_⟩
              go_simp
              exact hK _ _ (World.grownBy.refl _ _) rfl
            · intro a' W hW hb hd K hK
              have b42 : a'.tmps[42]?.getD undef = _ := hd ⟨0, .data⟩ (by simp) rfl
              refine ⟨fun _ _ => trivial, ?_⟩
              go_simp
              exact hK _ _ (World.grownBy.refl _ _) rfl
            · intro a' W hW hb hd K hK
              have b43 : a'.tmps[43]?.getD undef = _ := hd ⟨1, .data⟩ (by simp) rfl
              refine ⟨fun _ _ => trivial, ?_⟩
              go_simp
              exact hK _ _ (World.grownBy.refl _ _) (by first | rfl | (rw [add_zero]; rfl) | (simp [add_zero]; rfl))
            · intro a' W hW hb hd K hK
              have b44 : a'.tmps[44]?.getD undef = _ := hd ⟨2, .data⟩ (by simp) rfl
              refine wpIn_load_any (fun _ => trivial) 40 (.tmp 44) rfl ((ad2.add (j.val * 65)).add 1) (show a'.eval (.tmp 44) = _ from by simp only [Act.eval, Array.getD_eq_getD_getElem?]; exact b44) (u.o.map bv) _ (fun q s hs => by rw [add_add]; exact (HY.out W (hW.1.at_ 5 rfl)).1 _ s (chg_sub1 hxu.out q s hs)) Tryd.underlying40 rfl (by rw [List.length_map, hxu.out.1]; kernel_rfl) ?_
              exact hK _ _ (World.grownBy.refl _ _) rfl
            · intro a' W hW hb hd K hK
              have b10 := hb 10 rfl
              refine wpIn_load_any (fun _ => trivial) 40 (.tmp 10) rfl ⟨W0.heap.size, 0, none⟩ (show a'.eval (.tmp 10) = _ from by simp only [Act.eval, Array.getD_eq_getD_getElem?]; exact b10) (v.n.map bv) _ (Cells.sub (hW.1.at_ 1 rfl) 0 (fun q s hs => by rw [Nat.zero_add]; exact hs)) Tryd.underlying40 rfl (by rw [List.length_map, show v.n.length = 32 from hxv.out.2.1]; kernel_rfl) ?_
              exact hK _ _ (World.grownBy.refl _ _) rfl
          case fin =>
            intro vs V3 ⟨hV3, hKOV3, hsV3⟩ hv
            have e3 : vs 3 = _ := hv 3 (by decide)
            have e4 : vs 4 = _ := hv 4 (by decide)
            clear hv
            simp only [putAll, List.drop_succ_cons, List.drop_zero, e3, e4, Act.put, List.setIfInBounds_toArray, List.set_cons_succ, List.set_cons_zero]
            clear e3 e4

            have e4 : V3.cell? ⟨w.heap.size, 0, none⟩ = some (.slice none 0 0) := Cells.cell (hV3.at_ 8 rfl) (i := 0) (by simp)
            have f4 : V3.frozen? ⟨w.heap.size, 0, none⟩ = false := Cells.frozen (hV3.at_ 8 rfl) 0
            have e5 : V3.cell? ⟨w.heap.size + 1, 0, none⟩ = some (.int .i64 0) := Cells.cell (hV3.at_ 9 rfl) (i := 0) (by simp)
            have f5 : V3.frozen? ⟨w.heap.size + 1, 0, none⟩ = false := Cells.frozen (hV3.at_ 9 rfl) 0
            gi_wp2_with (refine wlIn_neq (fun _ => trivial) (.tmp 45) (.tmp 46) rfl rfl (.bool true) ((ne_dg _ u.o v.n hxu.out.1 (hxv.out.2.1)).trans (by rw [HM.out])) (by go_simp) ?_)
            clear e4 f4 e5 f5
            have hr1 : All V3 [.cells w.heap.size 22 [.slice none 0 0], .cells (w.heap.size + 1) 31 [.int .i64 0], .kept w w.heap.size] := ⟨hV3.at_ 8 rfl, hV3.at_ 9 rfl, hV3.at_ 10 rfl, trivial⟩
            have hr2 := hr1.store 0 rfl 0 (.slice none 0 0) ⟨fun e => by injection e with e; omega, fun g e => by injection e with e; omega, trivial⟩
            have hr3 := hr2.store 1 rfl 0 (.int .i64 9) ⟨fun e => by injection e with e; omega, fun g e => by injection e with e; omega, trivial⟩
            exact ⟨hKOV3.trans ((KeepsOthers.setCell _ _ _).trans (.setCell _ _ _)), rfl, HRUN0.out HF.out, hr3⟩
        | true =>
          have HM : Hid (Value.bool (!decide (u.o = v.n)) = .bool false) := Lib.hid (by rw [hm]; rfl)
          have hmm := Lib.hid (of_decide_eq_true hm)
          clear hm
          refine wpIn_region_hopsJ 5 [42, 43, 44, 45, 46] [.cells (W0.heap.size + 1) 40 (v.n.map bv), .cells W0.heap.size 40 (v.n.map bv), .own (w4.heap.size + 1 + 1) 50 33 A r.length c (r.map entC).flatten, .cells w2.heap.size 22 [.slice A r.length c], .own (w2.heap.size + 1) 57 65 (some ad1) la.length k1 (la.map chgC).flatten, .low (.els B 65 (some ad2) lb.length (lb.map chgC)), .cells w4.heap.size 58 [.slice (some ad1) la.length k1], .cells (w4.heap.size + 1) 58 [.slice (some ad2) lb.length c2], .cells w.heap.size 22 [.slice none 0 0], .cells (w.heap.size + 1) 31 [.int .i64 0], .kept w w.heap.size] (fun V => KeepsOthers W0 V ∧ W0.heap.size + 2 ≤ V.heap.size)
            [.eq (.pointer (some (ad2.add (j.val * 65)))), .eq (.pointer (some (ad2.add (j.val * 65)))), .eq (.pointer (some ((ad2.add (j.val * 65)).add 1))), .eq (.agg (u.o.map bv).toArray), .eq (.agg (v.n.map bv).toArray)]
            (fun _ => trivial) (by kernel_rfl) (by kernel_rfl) (fun w1 w2 hg hj => ⟨hj.1.trans (.of_grownBy hg (fun j o e => by cases e)), Nat.le_trans hj.2 hg.size⟩) ⟨hVx, hKOV2, hsV2⟩ rfl ?hops ?fin
          case hops =>
            refine ⟨?_, ?_, ?_, ?_, ?_, trivial⟩
            · intro a' W hW hb hd K hK
              have b8 := hb 8 rfl
              refine ⟨fun _ _ => trivial, ?_⟩
              go_simp
              exact hK _ _ (World.grownBy.refl _ _) rfl
            · intro a' W hW hb hd K hK
              have b42 : a'.tmps[42]?.getD undef = _ := hd ⟨0, .data⟩ (by simp) rfl
              refine ⟨fun _ _ => trivial, ?_⟩
              go_simp
              exact hK _ _ (World.grownBy.refl _ _) rfl
            · intro a' W hW hb hd K hK
              have b43 : a'.tmps[43]?.getD undef = _ := hd ⟨1, .data⟩ (by simp) rfl
              refine ⟨fun _ _ => trivial, ?_⟩
              go_simp
              exact hK _ _ (World.grownBy.refl _ _) (by first | rfl | (rw [add_zero]; rfl) | (simp [add_zero]; rfl))
            · intro a' W hW hb hd K hK
              have b44 : a'.tmps[44]?.getD undef = _ := hd ⟨2, .data⟩ (by simp) rfl
              refine wpIn_load_any (fun _ => trivial) 40 (.tmp 44) rfl ((ad2.add (j.val * 65)).add 1) (show a'.eval (.tmp 44) = _ from by simp only [Act.eval, Array.getD_eq_getD_getElem?]; exact b44) (u.o.map bv) _ (fun q s hs => by rw [add_add]; exact (HY.out W (hW.1.at_ 5 rfl)).1 _ s (chg_sub1 hxu.out q s hs)) Tryd.underlying40 rfl (by rw [List.length_map, hxu.out.1]; kernel_rfl) ?_
              exact hK _ _ (World.grownBy.refl _ _) rfl
            · intro a' W hW hb hd K hK
              have b10 := hb 10 rfl
              refine wpIn_load_any (fun _ => trivial) 40 (.tmp 10) rfl ⟨W0.heap.size, 0, none⟩ (show a'.eval (.tmp 10) = _ from by simp only [Act.eval, Array.getD_eq_getD_getElem?]; exact b10) (v.n.map bv) _ (Cells.sub (hW.1.at_ 1 rfl) 0 (fun q s hs => by rw [Nat.zero_add]; exact hs)) Tryd.underlying40 rfl (by rw [List.length_map, show v.n.length = 32 from hxv.out.2.1]; kernel_rfl) ?_
              exact hK _ _ (World.grownBy.refl _ _) rfl
          case fin =>
            intro vs V3 ⟨hV3, hKOV3, hsV3⟩ hv
            have e3 : vs 3 = _ := hv 3 (by decide)
            have e4 : vs 4 = _ := hv 4 (by decide)
            clear hv
            simp only [putAll, List.drop_succ_cons, List.drop_zero, e3, e4, Act.put, List.setIfInBounds_toArray, List.set_cons_succ, List.set_cons_zero]
            clear e3 e4

            gi_wp2_with (refine wlIn_neq (fun _ => trivial) (.tmp 45) (.tmp 46) rfl rfl (.bool false) ((ne_dg _ u.o v.n hxu.out.1 (hxv.out.2.1)).trans (by rw [HM.out])) (by go_simp) ?_)
            refine wpIn_region_est [48, 49, 50, 51, 52, 53, 54, 55, 9, 1009] (.cells W0.heap.size 40 (v.n.map bv) :: [.own (w4.heap.size + 1 + 1) 50 33 A r.length c (r.map entC).flatten, .cells w2.heap.size 22 [.slice A r.length c], .own (w2.heap.size + 1) 57 65 (some ad1) la.length k1 (la.map chgC).flatten, .low (.els B 65 (some ad2) lb.length (lb.map chgC)), .cells w4.heap.size 58 [.slice (some ad1) la.length k1], .cells (w4.heap.size + 1) 58 [.slice (some ad2) lb.length c2], .cells w.heap.size 22 [.slice none 0 0], .cells (w.heap.size + 1) 31 [.int .i64 0], .kept w w.heap.size]) (fun V => KeepsOthers W0 V ∧ W0.heap.size + 2 ≤ V.heap.size)
              [(.pointer (some (ad2.add (j.val * 65)))), (.pointer (some (ad2.add (j.val * 65)))), (.pointer (some (ad2.add (j.val * 65)))), (.string u.p), (.pointer (some (ad2.add (j.val * 65)))), (.pointer (some (ad2.add (j.val * 65)))), (.pointer (some ((ad2.add (j.val * 65)).add 33))), (.agg (u.n.map bv).toArray), (.string u.p)] [(W0.heap.size + 1, 40, u.n.map bv)]
              (fun _ => trivial) (by kernel_rfl) (by kernel_rfl) (by show (69 : Nat) ≤ 1000; decide) (fun w1 w2 hk hs hj => ⟨hj.1.trans hk, Nat.le_trans hj.2 hs⟩) ⟨hV3.2, ⟨hKOV3, hsV3⟩, (boxes1 (by rw [List.length_map, List.length_map]; exact (hxv.out.2.1).trans (hxu.out.2.1).symm) (hV3.at_ 0 rfl))⟩ rfl ?hap ?hnd ?hops ?fin
            case hap => (simp only [List.forall_mem_cons]; exact ⟨⟨fun e => by injection e with e; omega, HAP.out _ (by omega)⟩, by simp⟩)
            case hnd => simp
            case hops =>
              refine ⟨?_, ?_, ?_, ?_, ?_, ?_, ?_, ?_, ?_, ?_, trivial⟩
              · refine ⟨rfl, ?_⟩
                intro a' W hW hb hd K hK
                have b8 := hb 8 rfl
                refine ⟨fun _ _ => trivial, ?_⟩
                go_simp
                exact hK _ _ (World.grownBy.refl _ _) rfl (by intro h; cases h)
              · refine ⟨rfl, ?_⟩
                intro a' W hW hb hd K hK
                have b48 : a'.tmps[48]?.getD undef = _ := hd ⟨0, .data⟩ (by simp) rfl
                refine ⟨fun _ _ => trivial, ?_⟩
                go_simp
                exact hK _ _ (World.grownBy.refl _ _) rfl (by intro h; cases h)
              · refine ⟨rfl, ?_⟩
                intro a' W hW hb hd K hK
                have b49 : a'.tmps[49]?.getD undef = _ := hd ⟨1, .data⟩ (by simp) rfl
                refine ⟨fun _ _ => trivial, ?_⟩
                go_simp
                exact hK _ _ (World.grownBy.refl _ _) (by first | rfl | (rw [add_zero]; rfl) | (simp [add_zero]; rfl)) (by intro h; cases h)
              · refine ⟨rfl, ?_⟩
                intro a' W hW hb hd K hK
                have b50 : a'.tmps[50]?.getD undef = _ := hd ⟨2, .data⟩ (by simp) rfl
                have q1 : W.cell? (ad2.add (j.val * 65)) = some (.string u.p) := by have := (HY.out W (hW.1.at_ 4 rfl)).1 0 (sv u.p) rfl; rwa [add_zero] at this
                refine ⟨fun _ _ => trivial, ?_⟩
                go_simp
                exact hK _ _ (World.grownBy.refl _ _) rfl (by intro h; cases h)
              · refine ⟨rfl, ?_⟩
                intro a' W hW hb hd K hK
                have b8 := hb 8 rfl
                refine ⟨fun _ _ => trivial, ?_⟩
                go_simp
                exact hK _ _ (World.grownBy.refl _ _) rfl (by intro h; cases h)
              · refine ⟨rfl, ?_⟩
                intro a' W hW hb hd K hK
                have b52 : a'.tmps[52]?.getD undef = _ := hd ⟨4, .data⟩ (by simp) rfl
                refine ⟨fun _ _ => trivial, ?_⟩
                go_simp
                exact hK _ _ (World.grownBy.refl _ _) rfl (by intro h; cases h)
              · refine ⟨rfl, ?_⟩
                intro a' W hW hb hd K hK
                have b53 : a'.tmps[53]?.getD undef = _ := hd ⟨5, .data⟩ (by simp) rfl
                refine ⟨fun _ _ => trivial, ?_⟩
                go_simp
                exact hK _ _ (World.grownBy.refl _ _) (by first | rfl | (rw [add_zero]; rfl) | (simp [add_zero]; rfl)) (by intro h; cases h)
              · refine ⟨rfl, ?_⟩
                intro a' W hW hb hd K hK
                have b54 : a'.tmps[54]?.getD undef = _ := hd ⟨6, .data⟩ (by simp) rfl
                refine wpIn_load_any (fun _ => trivial) 40 (.tmp 54) rfl ((ad2.add (j.val * 65)).add 33) (show a'.eval (.tmp 54) = _ from by simp only [Act.eval, Array.getD_eq_getD_getElem?]; exact b54) (u.n.map bv) _ (fun q s hs => by rw [add_add]; exact (HY.out W (hW.1.at_ 4 rfl)).1 _ s (chg_sub2 hxu.out q s hs)) Tryd.underlying40 rfl (by rw [List.length_map, hxu.out.2.1]; kernel_rfl) ?_
                exact hK _ _ (World.grownBy.refl _ _) rfl (by intro h; cases h)
              · refine ⟨rfl, ?_⟩
                intro a' W hW hb hd K hK
                have b51 : a'.tmps[51]?.getD undef = _ := hd ⟨3, .data⟩ (by simp) rfl
                refine ⟨fun _ _ => trivial, ?_⟩
                go_simp
                exact hK _ _ (World.grownBy.refl _ _) rfl (by intro h; cases h)
              · refine ⟨rfl, ?_⟩
                intro a' W hW hb hd K hK
                have b11 := hb 11 rfl
                have b55 : a'.tmps[55]?.getD undef = _ := hd ⟨7, .data⟩ (by simp) rfl
                obtain ⟨cs, hl, hc⟩ := hW.2.2 (W0.heap.size + 1, 40, (u.n.map bv).length) (by simp)
                refine wpIn_store_all (fun _ => trivial) 40 (.tmp 11) (.tmp 55) rfl (W0.heap.size + 1) 40 cs (u.n.map bv) hc (show a'.eval (.tmp 11) = _ from by simp only [Act.eval, Array.getD_eq_getD_getElem?]; exact b11) (show a'.eval (.tmp 55) = _ from by simp only [Act.eval, Array.getD_eq_getD_getElem?]; exact b55) hl.symm (by rw [List.length_map, show u.n.length = 32 from hxu.out.2.1]; kernel_rfl) (bv_one _) ?_
                intro w' hgo hc'
                exact hK _ _ hgo ⟨rfl, hc'⟩ (fun _ => rfl)
            case fin =>
              intro vs V4 ⟨hV4, ⟨hKOV4, hsV4⟩, hBx⟩ hv
              have e3 : vs 3 = _ := hv 3 (by decide)
              have e7 : vs 7 = _ := hv 7 (by decide)
              have e8 : vs 8 = _ := hv 8 (by decide)
              obtain ⟨e9, hc9⟩ := (hv 9 (by decide) : SF.ok (.st (W0.heap.size + 1) 40 (u.n.map bv)) (vs 9) V4)
              clear hv hBx
              simp only [putAll, List.drop_succ_cons, List.drop_zero, e3, e7, e8, e9, Act.put, List.setIfInBounds_toArray, List.set_cons_succ, List.set_cons_zero, List.set_nil]
              clear e3 e7 e8 e9

              have hVb : All V4 [.cells (W0.heap.size + 1) 40 (u.n.map bv), .cells W0.heap.size 40 (v.n.map bv), .own (w4.heap.size + 1 + 1) 50 33 A r.length c (r.map entC).flatten, .cells w2.heap.size 22 [.slice A r.length c], .own (w2.heap.size + 1) 57 65 (some ad1) la.length k1 (la.map chgC).flatten, .low (.els B 65 (some ad2) lb.length (lb.map chgC)), .cells w4.heap.size 58 [.slice (some ad1) la.length k1], .cells (w4.heap.size + 1) 58 [.slice (some ad2) lb.length c2], .cells w.heap.size 22 [.slice none 0 0], .cells (w.heap.size + 1) 31 [.int .i64 0], .kept w w.heap.size] := ⟨hc9, hV4⟩
              clear hc9 hV4
              have e6V4 : V4.cell? ⟨w2.heap.size, 0, none⟩ = some (.slice A r.length c) := Cells.cell (hVb.at_ 3 rfl) (i := 0) (by simp)
              cases hz : decide (u.n = z32) with
              | true =>
                have HZ : Hid (Value.bool (!decide (u.n = z32)) = .bool false) := Lib.hid (by rw [hz]; rfl)
                have HF : Hid (appF z32 (lookF la lb (It.e i j)) = some none) := Lib.hid (by rw [HF1.out, if_pos hmm.out]; exact if_pos (of_decide_eq_true hz))
                clear hz
                gi_wp2_with (first | (refine wlIn_load_any (fun _ => trivial) rfl 40 (.tmp 11) rfl ⟨W0.heap.size + 1, 0, none⟩ rfl (u.n.map bv) _ (Cells.sub (hVb.at_ 0 rfl) 0 (fun j u hu => by rw [Nat.zero_add]; exact hu)) Tryd.underlying40 rfl (by rw [List.length_map, show u.n.length = 32 from hxu.out.2.1]; kernel_rfl) ?_) | (refine wlIn_neq (fun _ => trivial) (.tmp 56) (.tmp 57) rfl rfl (.bool false) ((ne_dg _ u.n z32 (hxu.out.2.1) rfl).trans (by rw [HZ.out])) (by go_simp) ?_))
                exact ⟨hKOV4, fun _ => LOWS.out _ _ _ _ hVb.2.2 (by omega), A, c, r, by have := HRUN.out _ HF.out; rwa [Option.toList_none, List.append_nil] at this, hVb.2.2, by omega⟩
              | false =>
                have HZ : Hid (Value.bool (!decide (u.n = z32)) = .bool true) := Lib.hid (by rw [hz]; rfl)
                have HF : Hid (appF z32 (lookF la lb (It.e i j)) = some (some ⟨u.p, u.n⟩)) := Lib.hid (by rw [HF1.out, if_pos hmm.out]; exact if_neg (of_decide_eq_false hz))
                clear hz
                gi_wp2_with (first | (refine wlIn_load_any (fun _ => trivial) rfl 40 (.tmp 11) rfl ⟨W0.heap.size + 1, 0, none⟩ rfl (u.n.map bv) _ (Cells.sub (hVb.at_ 0 rfl) 0 (fun j u hu => by rw [Nat.zero_add]; exact hu)) Tryd.underlying40 rfl (by rw [List.length_map, show u.n.length = 32 from hxu.out.2.1]; kernel_rfl) ?_) | (refine wlIn_load_any (fun _ => trivial) rfl 40 (.tmp 11) rfl ⟨W0.heap.size + 1, 0, none⟩ rfl (u.n.map bv) _ (Cells.sub (hVb.at_ 0 rfl) 0 (fun j u hu => by rw [Nat.zero_add]; exact hu)) Tryd.underlying40 rfl (by rw [List.length_map, show u.n.length = 32 from hxu.out.2.1]; kernel_rfl) ?_) | (refine wlIn_neq (fun _ => trivial) (.tmp 56) (.tmp 57) rfl rfl (.bool true) ((ne_dg _ u.n z32 (hxu.out.2.1) rfl).trans (by rw [HZ.out])) (by go_simp) ?_) | (refine wlIn_bld (fun _ => trivial) rfl 50 [(0, .tmp 60), (1, .tmp 61)] rfl _ _ #[(0, 1), (1, 32)] (entC ⟨u.p, u.n⟩).toArray zero_ent Tryd.underlying50 (fun w => by kernel_rfl) ?_ ?_; exact fill_ent u.p u.n (hxu.out.2.1)) | (refine wlIn_lit1 (fun _ => trivial) rfl el_ent (.tmp 62) rfl (entC ⟨u.p, u.n⟩) rfl (entC_len ⟨hxu.out.2.1, hxu.out.2.2⟩) (by decide) ?_) | (gi_at_builtin; refine wlIn_app el_ent rfl (.tmp 59) (.tmp 63) rfl (w4.heap.size + 1 + 1) A r.length c ((r.map entC).flatten) rfl (Go.Adm.Own.alloc (hVb.at_ 2 rfl) _) (V4.heap.size + 1) _ 1 1 (entC ⟨u.p, u.n⟩) rfl (Rd.lit V4 (entC ⟨u.p, u.n⟩).toArray 50 1 (by rw [List.size_toArray]; exact entC_len ⟨hxu.out.2.1, hxu.out.2.2⟩)) (entC_one _) (by omega) (by simp; omega) ?_; intro A3 c3 w9 hown3 hg3 hob3; obtain ⟨hM1, hM2, hM3⟩ := out_more ((All.alloc hVb _).2.2) HAP1.out (by omega) hown3 hg3 HAP2.out; have c2 : w9.cell? ⟨w2.heap.size, 0, none⟩ = some (.slice A r.length c) := Cells.cell (hM1.at_ 1 rfl) (i := 0) (by simp); have f2 : w9.frozen? ⟨w2.heap.size, 0, none⟩ = false := Cells.frozen (hM1.at_ 1 rfl) 0; have hsw9 : W0.heap.size + 2 ≤ w9.heap.size := by have h := hg3.size; simp at h; omega))
                clear c2 f2
                have hM4 : All (w9.setCell ⟨w2.heap.size, 0, none⟩ (.slice A3 (r.length + 1) c3)) [.own (w4.heap.size + 1 + 1) 50 33 A3 (r ++ [(⟨u.p, u.n⟩ : E)]).length c3 ((r ++ [(⟨u.p, u.n⟩ : E)]).map entC).flatten, .cells w2.heap.size 22 [.slice A3 (r ++ [(⟨u.p, u.n⟩ : E)]).length c3], .own (w2.heap.size + 1) 57 65 (some ad1) la.length k1 (la.map chgC).flatten, .low (.els B 65 (some ad2) lb.length (lb.map chgC)), .cells w4.heap.size 58 [.slice (some ad1) la.length k1], .cells (w4.heap.size + 1) 58 [.slice (some ad2) lb.length c2], .cells w.heap.size 22 [.slice none 0 0], .cells (w.heap.size + 1) 31 [.int .i64 0], .kept w w.heap.size] := by
                  rw [List.length_append, List.map_append, List.flatten_append]
                  simpa using hM2
                have hM5 : (w4.heap.size + 1 + 1) ≤ (w9.setCell ⟨w2.heap.size, 0, none⟩ (.slice A3 (r.length + 1) c3)).heap.size := by
                  rw [size_setCell]
                  omega
                exact ⟨(hKOV4.trans (.alloc _ _)).trans hM3, fun _ => LOWS.out _ _ _ _ hM4 hM5, A3, c3, r ++ [⟨u.p, u.n⟩], HRUN.out _ HF.out, hM4, hM5⟩
  case done =>
    rintro D xs W' hDl hxs ⟨A, c, r, hr, hI, hsz⟩ hK
    subst hxs
    have hres := Lib.hid (HDS.out r hr)
    have c6 : W'.cell? ⟨w2.heap.size, 0, none⟩ = some (.slice A r.length c) := Cells.cell (hI.at_ 1 rfl) (i := 0) (by simp)
    have e4 : W'.cell? ⟨w.heap.size, 0, none⟩ = some (.slice none 0 0) := Cells.cell (hI.at_ 6 rfl) (i := 0) (by simp)
    have f4 : W'.frozen? ⟨w.heap.size, 0, none⟩ = false := Cells.frozen (hI.at_ 6 rfl) 0
    have e5 : W'.cell? ⟨w.heap.size + 1, 0, none⟩ = some (.int .i64 0) := Cells.cell (hI.at_ 7 rfl) (i := 0) (by simp)
    have f5 : W'.frozen? ⟨w.heap.size + 1, 0, none⟩ = false := Cells.frozen (hI.at_ 7 rfl) 0
    have hDne : D ≠ w.heap.size ∧ D ≠ w.heap.size + 1 ∧ w.heap.size ≤ D := by rw [hsz0] at hDl; omega
    have hdd : W'.heap[D]? = some (.deferred (some [])) := hK
    have own6 : Go.Adm.Own W' (w4.heap.size + 1 + 1) 50 33 A r.length c (r.map entC).flatten := hI.at_ 0 rfl
    have hAll := hI
    clear hr
    have hk2 : ∀ u v : Value, ((W'.setCell ⟨w.heap.size, 0, none⟩ u).setCell ⟨w.heap.size + 1, 0, none⟩ v).heap[D]? = some (.deferred (some [])) := fun u v => ((KeepsOthers.setCell _ _ _).trans (.setCell _ _ _)).same D _ hdd rfl
    have hR4 : ∀ u : Value, All (W'.setCell ⟨w.heap.size, 0, none⟩ u) [.cells w.heap.size 22 [u], .cells (w.heap.size + 1) 31 [.int .i64 0], .kept w w.heap.size] := fun u => All.store (w := W') (rs := [.cells w.heap.size 22 [.slice none 0 0], .cells (w.heap.size + 1) 31 [.int .i64 0], .kept w w.heap.size]) ⟨hI.at_ 6 rfl, hI.at_ 7 rfl, hI.at_ 8 rfl, trivial⟩ 0 rfl 0 u ⟨fun e => by injection e with e; omega, fun g e => by injection e with e; omega, trivial⟩
    have hR5 : ∀ u v : Value, All ((W'.setCell ⟨w.heap.size, 0, none⟩ u).setCell ⟨w.heap.size + 1, 0, none⟩ v) [.cells w.heap.size 22 [u], .cells (w.heap.size + 1) 31 [v], .kept w w.heap.size] := fun u v => (hR4 u).store 1 rfl 0 v ⟨fun e => by injection e with e; omega, fun g e => by injection e with e; omega, trivial⟩
    have hO5 : ∀ u v : Value, Go.Adm.Own ((W'.setCell ⟨w.heap.size, 0, none⟩ u).setCell ⟨w.heap.size + 1, 0, none⟩ v) (w4.heap.size + 1 + 1) 50 33 A r.length c (r.map entC).flatten := fun u v => by
      have h1 : All W' [.own (w4.heap.size + 1 + 1) 50 33 A r.length c (r.map entC).flatten] := ⟨own6, trivial⟩
      have h2 := (h1.setCell ⟨w.heap.size, 0, none⟩ u ⟨fun g e => .inl (by have e' : w.heap.size = g := Option.some.inj e; omega), trivial⟩).setCell ⟨w.heap.size + 1, 0, none⟩ v ⟨fun g e => .inl (by have e' : w.heap.size + 1 = g := Option.some.inj e; omega), trivial⟩
      exact h2.1
    cases hbig : decide (64 < r.length) with
    | true =>
      have hlt := of_decide_eq_true hbig
      have d1 : decide ((64 : Int) < (r.length : Int)) = true := by simp; omega
      have hfin : appR a lb = ([], 3) := by rw [hres.out, if_pos hlt]
      clear hI hbig
      go_wp2
      refine leaves_all (B := w.heap.size) [D] _ ?_ (by simp) ?_
      · intro D' hD'
        obtain rfl : D' = D := by simpa using hD'
        exact ⟨hDne.2.2, hk2 _ _⟩
      · intro W'' hW'' _
        have h1 := hW'' [.cells w.heap.size 22 [.slice none 0 0], .cells (w.heap.size + 1) 31 [.int .i64 3], .kept w w.heap.size] ⟨trivial, trivial, Nat.le_refl _, trivial⟩ (hR5 (.slice none 0 0) (.int .i64 3))
        rw [hfin]
        refine ⟨_, results_cell2 rfl _ _ w.heap.size (w.heap.size + 1) (.slice none 0 0) (.int .i64 3) rfl rfl ?_ ?_, ResPost.nil rfl (h1.at_ 2 rfl).1⟩
        · have := Cells.cell (h1.at_ 0 rfl : Cells W'' _ _ _) (i := 0) (by simp)
          go_simp
        · have := Cells.cell (h1.at_ 1 rfl : Cells W'' _ _ _) (i := 0) (by simp)
          go_simp
    | false =>
      have hlt := of_decide_eq_false hbig
      have d1 : decide ((64 : Int) < (r.length : Int)) = false := by simp; omega
      have hfin : appR a lb = (r, 0) := by rw [hres.out, if_neg hlt]
      clear hI hbig
      go_wp2
      refine leaves_all (B := w.heap.size) [D] _ ?_ (by simp) ?_
      · intro D' hD'
        obtain rfl : D' = D := by simpa using hD'
        exact ⟨hDne.2.2, hk2 _ _⟩
      · intro W'' hW'' _
        have h1 := hW'' [.cells w.heap.size 22 [.slice A r.length c], .cells (w.heap.size + 1) 31 [.int .i64 0], .kept w w.heap.size] ⟨trivial, trivial, Nat.le_refl _, trivial⟩ (hR5 (.slice A r.length c) (.int .i64 0))
        have h2 := hW'' [.own (w4.heap.size + 1 + 1) 50 33 A r.length c (r.map entC).flatten] ⟨trivial, trivial⟩ ⟨hO5 (.slice A r.length c) (.int .i64 0), trivial⟩
        rw [hfin]
        refine ⟨_, results_cell2 rfl _ _ w.heap.size (w.heap.size + 1) (.slice A r.length c) (.int .i64 0) rfl rfl ?_ ?_, A, c, rfl, Go.Adm.Own.less h2.1 (by omega), (h1.at_ 2 rfl).1⟩
        · have := Cells.cell (h1.at_ 0 rfl : Cells W'' _ _ _) (i := 0) (by simp)
          go_simp
        · have := Cells.cell (h1.at_ 1 rfl : Cells W'' _ _ _) (i := 0) (by simp)
          go_simp
end Go.Proofs.YtipepcjiogifaaaDoor

/- Records are decoded: the program. -/
import Derived.Test.YtjdinakdkdjocaaGreatDoorRdA
import Derived.Test.YtjdinakdkdjocaaGreatDoorDec3
import Derived.Test.YtjdinakdkdjocaaGreatDoorMade
set_option linter.unusedSimpArgs false
set_option linter.unusedVariables false
set_option maxRecDepth 100000
namespace Go.AdR
open Go Go.RowKit Go.Adm
/-- a drawn region that makes an element: whether the call came, what was left -/
def JM (Φ : Nat → Value → Prop) (I : Bool → World → Prop) (R : Value → World → Prop) (L : Nat → Bool) (vs : Nat → Value) (W : World) : Prop :=
  (∀ j, L j = true → j ≠ 5 → Φ j (vs j)) ∧ (L 5 = true → L 4 = true) ∧ I (L 4) W ∧ (L 5 = true → R (vs 5) W)
section
variable {Φ : Nat → Value → Prop} {I : Bool → World → Prop} {R : Value → World → Prop} {L : Nat → Bool} {vs : Nat → Value} {W W' : World} {v : Value}
theorem JM.start (hI : I false W) : JM Φ I R (fun _ => false) (fun _ => undef) W := ⟨fun j h => (Bool.false_ne_true h).elim, fun h => (Bool.false_ne_true h).elim, hI, fun h => (Bool.false_ne_true h).elim⟩
theorem JM.phi (h : ∀ j, L j = true → j ≠ 5 → Φ j (vs j)) (k : Nat) (hv : k ≠ 5 → Φ k v) : ∀ j, markC L k j = true → j ≠ 5 → Φ j (if j = k then v else vs j) := fun j hj h1 => by
  unfold markC at hj
  by_cases e : j = k
  · rw [if_pos e, e]; exact hv (e ▸ h1)
  · rw [if_neg e] at hj ⊢; exact h j hj h1
theorem JM.quiet (h : JM Φ I R L vs W) (k : Nat) (h1 : 4 ≠ k) (h2 : 5 ≠ k) (hv : Φ k v) : JM Φ I R (markC L k) (fun i => if i = k then v else vs i) W := by
  obtain ⟨a, b, c, d⟩ := h
  refine ⟨JM.phi a k (fun _ => hv), ?_⟩
  simp only [markC, if_neg h1, if_neg h2]
  exact ⟨b, c, d⟩
theorem JM.call (h : JM Φ I R L vs W) (hk : L 4 = false) (hI : I true W') (hv : Φ 4 v) : JM Φ I R (markC L 4) (fun i => if i = 4 then v else vs i) W' := by
  obtain ⟨a, b, c, d⟩ := h
  refine ⟨JM.phi a 4 (fun _ => hv), ?_⟩
  simp only [markC, Nat.reduceEqDiff, if_false, if_true]
  exact ⟨fun _ => trivial, hI, fun h5 => by rw [b h5] at hk; cases hk⟩
theorem JM.lit (h : JM Φ I R L vs W) (h4 : L 4 = true) (hI : I true W') (hr : R v W') : JM Φ I R (markC L 5) (fun i => if i = 5 then v else vs i) W' := by
  obtain ⟨a, b, c, d⟩ := h
  refine ⟨JM.phi a 5 (fun h => absurd rfl h), ?_⟩
  simp only [markC, Nat.reduceEqDiff, if_false, if_true]
  exact ⟨fun _ => h4, by rw [h4]; exact hI, fun _ => hr⟩
end
theorem takeS_cases (word : ByteArray) (ls : List (List ByteArray)) : takeS word ls = none ∨ ∃ l rest, ls = (word :: l) :: rest := by
  cases h : takeS word ls with
  | none => exact .inl rfl
  | some x => exact .inr ⟨x.1, x.2, takeS_some h⟩
theorem entD_len (l : List ByteArray) : (entC (entD l)).length = 33 := by
  have : (entD l).d.length = 32 := by
    match l with
    | [] => rfl
    | [_] => rfl
    | [p, d] => exact AdP.parsed_len _
    | _ :: _ :: _ :: _ => rfl
  show (sv _ :: (entD l).d.map bv).length = 33
  rw [List.length_cons, List.length_map, this]
theorem bad_more {X a g : Bool} : ((X || !a) || !g) = (X || !(a && g)) := by cases X <;> cases a <;> cases g <;> rfl
theorem bad_env (X : Bool) (es : List (List ByteArray)) (l : List ByteArray) : ((X || !es.all pvOk) || (pv l).isNone) = (X || !(es ++ [l]).all pvOk) := by
  rw [List.all_append, ← bad_more]
  congr 1
  show _ = !(pvOk l && true)
  unfold pvOk
  cases pv l <;> rfl
theorem bad_ent (X : Bool) (es : List (List ByteArray)) (l : List ByteArray) : ((X || !es.all fun l => (entOf l).isSome) || !(entOf l).isSome) = (X || !(es ++ [l]).all fun l => (entOf l).isSome) := by
  rw [List.all_append, ← bad_more]
  congr 1
  show _ = !((entOf l).isSome && true)
  rw [Bool.and_true]
theorem vars_more (es : List (List ByteArray)) (l : List ByteArray) : es.filterMap pv ++ (pv l).toList = (es ++ [l]).filterMap pv := by
  rw [List.filterMap_append]
  congr 1
end Go.AdR
namespace Go.Proofs.YtjdinakdkdjocaaGreatDoor
open Go Go.RowKit Go.Adm Go.AdR
theorem zero_reader (w : World) : (zeroValue 64).run Tryz.prog w = .ok (.agg #[.string ByteArray.empty, .string ByteArray.empty, .string ByteArray.empty, .int .i64 0, .slice none 0 0, .slice none 0 0, .slice none 0 0, .slice none 0 0, .bool false]) w := by kernel_rfl
theorem recIn_nil (w : World) (B : Nat) : RecIn w B recN slN slN slN slN := ⟨⟨Rd.nil, fun s hs => by cases hs⟩, Els.nil, Els.nil, Els.nil⟩
theorem recIn_own {W : World} {b b2 : Nat} {x : Rec} {sc se sm sp : Sl} (oc : Go.Adm.Own W b 9 1 sc.A sc.n sc.c (x.cmd.map sv)) (oe : Go.Adm.Own W b 49 2 se.A se.n se.c (x.env.map varC).flatten) (om : Go.Adm.Own W b 70 33 sm.A sm.n sm.c (x.mat.map entC).flatten) (op : Go.Adm.Own W b2 70 33 sp.A sp.n sp.c (x.prod.map entC).flatten)
    (hl : se.n = x.env.length ∧ sm.n = x.mat.length ∧ sp.n = x.prod.length) (ho : RecOk x) (hc : ∀ s ∈ x.cmd, s.size ≤ 140737488355328) : RecIn W W.heap.size x sc se sm sp := by
  refine ⟨⟨Go.Adm.Own.rd oc, hc⟩, Els.of oe ?_ (by rw [List.length_map, hl.1]), Els.of om ?_ (by rw [List.length_map, hl.2.1]), Els.of op ?_ (by rw [List.length_map, hl.2.2])⟩
  · intro y hy
    obtain ⟨v, _, rfl⟩ := List.mem_map.1 hy
    rfl
  · intro y hy
    obtain ⟨v, hv, rfl⟩ := List.mem_map.1 hy
    exact entC_len (ho.mat v hv)
  · intro y hy
    obtain ⟨v, hv, rfl⟩ := List.mem_map.1 hy
    exact entC_len (ho.prod v hv)
theorem cell_pre {w : World} {g : Nat} {t : TypeId} {cs : List Value} {v : Value} (h : Cells w g t (cs ++ [v])) : ∀ j u, cs[j]? = some u → w.cell? ((⟨g, 0, none⟩ : Addr).add j) = some u := fun j u hu => cell_all h j u (by
  have hl := (List.getElem?_eq_some_iff.1 hu).1
  rw [List.getElem?_append_left hl]; exact hu)
section
variable {word : ByteArray} {w W : World} {gl gr B b b2 : Nat} {A : Option Addr} {n c : Nat} {ls : List (List ByteArray)} {rs : List Res}
theorem take_no (hR : All W (.cells gl 47 [.slice A n c] :: .low (Go.AdR.Low.lines B A n ls) :: rs)) (hnc : n ≤ c) (hcm : c ≤ maxLen) (hne : ∀ l ∈ ls, l ≠ []) (hBl : B ≤ gl) (hap : Apart (some gl) rs) (hT : takeS word ls = none) :
    Calls Tryz.prog 51 #[.string word, .pointer (some ⟨gl, 0, none⟩)] W fun e w' => e = .returned (.tuple #[.slice none 0 0, .bool false]) ∧ W = w' := by
  refine (take_all word W gl B A n c ls rs hR hnc hcm hne hBl hap).mono ?_
  rintro e w' (⟨_, rfl, rfl⟩ | ⟨l, rest, A1, c1, A', h1, _⟩)
  · exact ⟨rfl, rfl⟩
  · rw [h1] at hT
    simp [takeS] at hT
theorem take_yes {l : List ByteArray} {rest : List (List ByteArray)} (hR : All W (.cells gl 47 [.slice A n c] :: .low (Go.AdR.Low.lines B A n ((word :: l) :: rest)) :: rs)) (hnc : n ≤ c) (hcm : c ≤ maxLen) (hne : ∀ x ∈ (word :: l) :: rest, x ≠ []) (hBl : B ≤ gl) (hap : Apart (some gl) rs) :
    Calls Tryz.prog 51 #[.string word, .pointer (some ⟨gl, 0, none⟩)] W fun e w' => ∃ A1 c1 A', e = .returned (.tuple #[.slice A1 l.length c1, .bool true]) ∧ All w' (.low (Go.AdR.Low.strs B A1 l.length l) :: .cells gl 47 [.slice A' (n - 1) (c - 1)] :: .low (Go.AdR.Low.lines B A' (n - 1) rest) :: rs) := by
  refine (take_all word W gl B A n c _ rs hR hnc hcm hne hBl hap).mono ?_
  rintro e w' (⟨h, _⟩ | ⟨l', rest', A1, c1, A', h1, rfl, _, _, h5, _⟩)
  · simp [takeS] at h
  · injection h1 with h1 h2
    injection h1 with _ h1
    subst h1 h2
    exact ⟨A1, c1, A', rfl, h5⟩
theorem take_or (hR : All W (.cells gl 47 [.slice A n c] :: .low (Go.AdR.Low.lines B A n ls) :: rs)) (hnc : n ≤ c) (hcm : c ≤ maxLen) (hne : ∀ l ∈ ls, l ≠ []) (hBl : B ≤ gl) (hap : Apart (some gl) rs) :
    Calls Tryz.prog 51 #[.string word, .pointer (some ⟨gl, 0, none⟩)] W fun e w' => ∃ v m, e = .returned (.tuple #[v, .bool m]) ∧ All w' rs := by
  refine (take_all word W gl B A n c ls rs hR hnc hcm hne hBl hap).mono ?_
  rintro e w' (⟨_, rfl, rfl⟩ | ⟨l, rest, A1, c1, A', h1, rfl, _, _, h5, _⟩)
  · exact ⟨_, _, rfl, hR.2.2⟩
  · exact ⟨_, _, rfl, h5.2.2.2⟩
end
set_option maxHeartbeats 12800000 in
theorem recDecode_any (w : World) (m : Int) (hm : w.cell? ⟨0, 0, none⟩ = some (.int .i64 m)) (B : Nat) (A : Option Addr) (n c : Nat) (b : List UInt8) (hb : Rd w B 1 A n (b.map bv)) (hnc : n ≤ c) (hcm : c ≤ maxLen) (hB : B ≤ w.heap.size) :
    Calls Tryz.prog 7 #[.slice A n c] w (RdPost b w) := by
  have HGM : Hid (0 < w.heap.size) := Lib.hid (World.block_lt_of_cell? w _ hm)
  have HM := Lib.hid hm
  have hR : All w [.low (.rd B 1 A n (b.map bv)), .kept w w.heap.size] := ⟨⟨hb, hB⟩, ⟨Below.refl _ _, Nat.le_refl _⟩, trivial⟩
  have hzr := zero_rec
  have HNC := Lib.hid hnc
  have HCM := Lib.hid hcm
  clear hb hnc hcm hB hm
  go_enter Tryz.func7, Tryz.ntmps7
  go_upto_region 1 with (fail)
  refine wp_gen (hR.new (l := recZ) recZ.toArray 31 rfl rfl) ?_
  intro W1 hW1
  clear hR hzr
  go_upto_region 2 with (go_at_call 20; refine (Decode_any _ B A n c b (hW1.at_ 1 rfl : _ ∧ _).1 HNC.out HCM.out (hW1.at_ 1 rfl : _ ∧ _).2).mono ?_; rintro e w2 ⟨A2, n2, c2, rfl, hL2, hnc2, hcm2, hb2⟩)
  have hs2 : w.heap.size < w2.heap.size := Nat.lt_of_lt_of_le (Cells.lt (hW1.at_ 0 rfl)) hb2.size
  have hI2 := hW1.call hb2
  have hI3 : All w2 [.low (Go.AdR.Low.lines w2.heap.size A2 n2 (decR b).1), .cells w.heap.size 31 recZ, .kept w w.heap.size] := ⟨⟨hL2, Nat.le_refl _⟩, hI2.at_ 0 rfl, hI2.at_ 2 rfl, trivial⟩
  clear hW1 hb2 hI2 hL2 HNC HCM
  by_cases q0 : (decR b).2 = 0
  · rw [q0]
    have HNE : Hid (∀ l ∈ (decR b).1, l ≠ []) := Lib.hid (fun l hl => (decR_good l hl).1)
    have H120 : Hid (∀ l ∈ (decR b).1, l.length ≤ 120 ∧ ∀ s ∈ l, s.size ≤ 32768) := Lib.hid (fun l hl => (decR_good l hl).2)
    have HCNT := Lib.hid (decR_count b)
    have HN0 : Hid (∀ ls, (decR b).1 = ls → recParse ls = none → recRes b = (recN, 2)) := Lib.hid (fun ls e h => recRes_none q0 (by rw [e]; exact h))
    have HS0 : Hid (∀ ls x, (decR b).1 = ls → recParse ls = some x → (recRes b = if recB x = true then (x, 0) else (recN, 1)) ∧ RecOk x) := Lib.hid (fun ls x e h => ⟨recRes_some q0 (by rw [e]; exact h), (parsed_ok (b := b) (by rw [e]; exact h)).1⟩)
    have HT : Hid (∀ (W : World) (A : Option Addr) (n c : Nat), Calls Tryz.prog 21 #[.slice A n c] W fun e w' => e = .returned (.tuple #[.func (.func 51) #[] #[.pointer (some ⟨W.heap.size, 0, none⟩)], .func (.func 52) #[] #[.pointer (some ⟨W.heap.size, 0, none⟩)]]) ∧ w' = W.alloc (.cells #[.slice A n c] 47)) := Lib.hid taker_any
    clear q0
    obtain ⟨ls, hls⟩ : ∃ ls, ls = (decR b).1 := ⟨_, rfl⟩
    rw [← hls] at hI3 HNE H120 HCNT HN0 HS0
    clear hls
    go_upto_region 5 with (go_at_call 21; refine (HT.out _ A2 n2 c2).mono ?_; rintro e w3 ⟨rfl, rfl⟩)
    refine wp_gen (hI3.new (l := [.slice A2 n2 c2]) #[.slice A2 n2 c2] 47 (g := w2.heap.size) rfl rfl) ?_
    intro W3 hW3
    clear hI3 HT
    generalize w2.heap.size = gl at *
    have HC2 := Lib.hid (And.intro hnc2 hcm2)
    clear hnc2 hcm2
    rcases takeS_cases recW ls with k1 | ⟨f, rest1, k1⟩
    · have HR := Lib.hid (HN0.out ls rfl (recParse_first k1))
      have HK := Lib.hid k1
      clear k1 HN0 HS0
      go_upto_region 6 with (go_at_call 51; refine (take_no (word := recW) hW3 HC2.out.1 HC2.out.2 HNE.out (Nat.le_refl _) ⟨fun e => (by injection e with e; omega), fun g e => (by injection e with e; omega), trivial⟩ HK.out).mono ?_; rintro e w4 ⟨rfl, rfl⟩)
      go_upto_region 7 with (go_at_call 51; refine (take_or (word := cmdW) hW3 HC2.out.1 HC2.out.2 HNE.out (Nat.le_refl _) ⟨fun e => (by injection e with e; omega), fun g e => (by injection e with e; omega), trivial⟩).mono ?_; rintro e w5 ⟨v5, m5, rfl, hI5⟩)
      clear hW3
      go_wp2_with (first
        | (refine wl_build rfl 31 [] rfl _ _ #[(0, 1), (1, 1), (2, 1), (3, 1), (4, 1), (5, 1), (6, 1), (7, 1)] recZ.toArray zero_rec Tryz.underlying31 (fun w => by kernel_rfl) ?_ ?_; rfl)
        | (refine wl_store_at hI5 0 rfl 31 (.tmp 2) (.tmp 49) rfl w.heap.size _ _ recZ rfl rfl rfl rfl (by kernel_rfl) (by decide +kernel) (by simp [Apart, Res.apart]) ?_; intro w9 hI9 hs9))
      refine bodyPost_ret (v := .tuple #[.agg recZ.toArray, .int .i64 2]) ?_ rfl ⟨slN, slN, slN, slN, by rw [HR.out]; rfl, by rw [HR.out]; exact recIn_nil _ _, (hI9.at_ 1 rfl : _ ∧ _).1⟩
      exact Go.AdP.results_row_tmp (p := 2) (q := 3) rfl _ _ w.heap.size 31 recZ.toArray (0, 0) _ rfl (hI9.at_ 0 rfl) Tryz.underlying31 rfl (by kernel_rfl)
    · subst k1
      go_upto_region 6 with (go_at_call 51; refine (take_yes (word := recW) hW3 HC2.out.1 HC2.out.2 HNE.out (Nat.le_refl _) ⟨fun e => (by injection e with e; omega), fun g e => (by injection e with e; omega), trivial⟩).mono ?_; rintro e w4 ⟨A4, c4, A5, rfl, hW4⟩)
      clear hW3
      have HC3 : Hid (n2 - 1 ≤ c2 - 1 ∧ c2 - 1 ≤ maxLen) := Lib.hid (by have := HC2.out; omega)
      have hW5 : All w4 [.cells gl 47 [.slice A5 (n2 - 1) (c2 - 1)], .low (Go.AdR.Low.lines gl A5 (n2 - 1) rest1), .low (Go.AdR.Low.strs gl A4 f.length f), .cells w.heap.size 31 recZ, .kept w w.heap.size] := ⟨hW4.at_ 1 rfl, hW4.at_ 2 rfl, hW4.at_ 0 rfl, hW4.at_ 3 rfl, hW4.at_ 4 rfl, trivial⟩
      clear hW4
      generalize n2 - 1 = n3 at *
      generalize c2 - 1 = c3 at *
      rcases takeS_cases cmdW rest1 with k2 | ⟨cmd, rest, k2⟩
      · have HR := Lib.hid (HN0.out _ rfl (recParse_second k2))
        have HK := Lib.hid k2
        clear k2 HN0 HS0
        go_upto_region 7 with (go_at_call 51; refine (take_no (word := cmdW) hW5 HC3.out.1 HC3.out.2 (fun l hl => HNE.out l (List.mem_cons_of_mem _ hl)) (Nat.le_refl _) ⟨fun g e => (by injection e with e; subst e; exact Nat.le_refl _), fun e => (by injection e with e; omega), fun g e => (by injection e with e; omega), trivial⟩ HK.out).mono ?_; rintro e w5 ⟨rfl, rfl⟩)
        have hI5 : All w4 [.cells w.heap.size 31 recZ, .kept w w.heap.size] := ⟨hW5.at_ 3 rfl, hW5.at_ 4 rfl, trivial⟩
        clear hW5
        go_wp2_with (first
          | (refine wl_build rfl 31 [] rfl _ _ #[(0, 1), (1, 1), (2, 1), (3, 1), (4, 1), (5, 1), (6, 1), (7, 1)] recZ.toArray zero_rec Tryz.underlying31 (fun w => by kernel_rfl) ?_ ?_; rfl)
          | (refine wl_store_at hI5 0 rfl 31 (.tmp 2) (.tmp 49) rfl w.heap.size _ _ recZ rfl rfl rfl rfl (by kernel_rfl) (by decide +kernel) (by simp [Apart, Res.apart]) ?_; intro w9 hI9 hs9))
        refine bodyPost_ret (v := .tuple #[.agg recZ.toArray, .int .i64 2]) ?_ rfl ⟨slN, slN, slN, slN, by rw [HR.out]; rfl, by rw [HR.out]; exact recIn_nil _ _, (hI9.at_ 1 rfl : _ ∧ _).1⟩
        exact Go.AdP.results_row_tmp (p := 2) (q := 3) rfl _ _ w.heap.size 31 recZ.toArray (0, 0) _ rfl (hI9.at_ 0 rfl) Tryz.underlying31 rfl (by kernel_rfl)
      · subst k2
        have hzr := zero_rec
        have hzd := zero_reader
        go_upto_region 7 with (go_at_call 51; refine (take_yes (word := cmdW) hW5 HC3.out.1 HC3.out.2 (fun l hl => HNE.out l (List.mem_cons_of_mem _ hl)) (Nat.le_refl _) ⟨fun g e => (by injection e with e; subst e; exact Nat.le_refl _), fun e => (by injection e with e; omega), fun g e => (by injection e with e; omega), trivial⟩).mono ?_; rintro e w5 ⟨A6, c6, A7, rfl, hW6⟩)
        clear hW5
        go_upto_region 10 with (fail)
        obtain ⟨gr, hgr⟩ : ∃ g, g = w5.heap.size := ⟨_, rfl⟩
        refine wp_gen (hW6.new (l := [.string ByteArray.empty, .string ByteArray.empty, .string ByteArray.empty, .int .i64 0, slN.v, slN.v, slN.v, slN.v, .bool false]) #[.string ByteArray.empty, .string ByteArray.empty, .string ByteArray.empty, .int .i64 0, .slice none 0 0, .slice none 0 0, .slice none 0 0, .slice none 0 0, .bool false] 64 (g := gr) hgr rfl) ?_
        intro W7 hW7
        have hlr : gl < gr := by rw [hgr]; exact Cells.lt (hW6.at_ 1 rfl)
        simp only [← hgr]
        clear hW6 hgr hzr hzd
        have HH := Lib.hid (header_st w gl gr gl ⟨A7, n3 - 1, c3 - 1⟩ rest W7 ⟨hW7.at_ 0 rfl, hW7.at_ 2 rfl, hW7.at_ 3 rfl, hW7.at_ 5 rfl, hW7.at_ 6 rfl, trivial⟩ hs2 (Nat.le_refl _) hlr (by have := HC3.out; constructor <;> simp only <;> omega) (fun l hl => HNE.out l (List.mem_cons_of_mem _ (List.mem_cons_of_mem _ hl))) A4 A6 c4 c6 f cmd (hW7.at_ 4 rfl : _ ∧ _).1 (hW7.at_ 1 rfl : _ ∧ _).1 (by have := (H120.out (cmdW :: cmd) (by simp)).1; simp only [List.length_cons] at this; omega))
        clear hW7
        go_upto_region 11 with (go_at_call 22; refine HH.out.mono ?_; rintro e W8 ⟨rfl, sc, hS8⟩)
        clear HH
        generalize W7.heap.size = bs at *
        have e9 : (hdB f || !([] : List (List ByteArray)).all pvOk) = hdB f := Bool.or_false _
        have hS9 : RdS w gl gr gl bs bs (.string (hdV f).1) (.string (hdV f).2.1) (.string (hdV f).2.2.1) (.int .i64 (hdV f).2.2.2) ⟨A7, n3 - 1, c3 - 1⟩ sc slN slN slN rest (hdC f cmd) (([] : List (List ByteArray)).filterMap pv) [] [] (hdB f || !([] : List (List ByteArray)).all pvOk) W8 := by
          rw [e9]
          exact hS8
        clear hS8 e9
        go_upto_region 12 with (go_at_call 51; refine (take_pend envW hS9).mono ?_; rintro e W9 ⟨v9, m9, rfl, hP9⟩)
        clear hS9
        go_loopw [13, 14] (fun v x wr => ∃ (es full : List (List ByteArray)) (se : Sl) (mb : Bool), x = .bool mb ∧ rest = es.map (envW :: ·) ++ full ∧ Pend envW gl full (fun sl' cur' W => RdS w gl gr gl bs bs (.string (hdV f).1) (.string (hdV f).2.1) (.string (hdV f).2.2.1) (.int .i64 (hdV f).2.2.2) sl' sc se slN slN cur' (hdC f cmd) (es.filterMap pv) [] [] (hdB f || !es.all pvOk) W) v mb wr) (fun _ x wr => lenAt gl x wr)
        case atStart => exact ⟨[], rest, slN, m9, rfl, rfl, hP9⟩
        case round =>
          clear hP9
          obtain ⟨es, full, se, mb, rfl, hrest, hP⟩ := hrel
          have hlen := pend_len hP
          rcases hP with ⟨rfl, rfl, hT1, sl1, hS⟩ | ⟨l, rest2, A1, c1, sl1, rfl, rfl, rfl, hS, hStr⟩
          · have e10 : ((hdB f || !es.all pvOk) || !([] : List (List ByteArray)).all (fun l => (entOf l).isSome)) = (hdB f || !es.all pvOk) := Bool.or_false _
            have hS1 : RdS w gl gr gl bs bs (.string (hdV f).1) (.string (hdV f).2.1) (.string (hdV f).2.2.1) (.int .i64 (hdV f).2.2.2) sl1 sc se slN slN full (hdC f cmd) (es.filterMap pv) (([] : List (List ByteArray)).map entD) [] ((hdB f || !es.all pvOk) || !([] : List (List ByteArray)).all (fun l => (entOf l).isSome)) wr := by
              rw [e10]
              exact hS
            clear hS e10 hlen
            go_upto_region 16 with (go_at_call 51; refine (take_pend matW hS1).mono ?_; rintro e W10 ⟨v10, m10, rfl, hP10⟩)
            clear hS1
            go_loopw [15, 16] (fun v x wr => ∃ (ms full2 : List (List ByteArray)) (sm : Sl) (mb : Bool), x = .bool mb ∧ full = ms.map (matW :: ·) ++ full2 ∧ Pend matW gl full2 (fun sl' cur' W => RdS w gl gr gl bs bs (.string (hdV f).1) (.string (hdV f).2.1) (.string (hdV f).2.2.1) (.int .i64 (hdV f).2.2.2) sl' sc se sm slN cur' (hdC f cmd) (es.filterMap pv) (ms.map entD) [] ((hdB f || !es.all pvOk) || !ms.all (fun l => (entOf l).isSome)) W) v mb wr) (fun _ x wr => lenAt gl x wr)
            case atStart => exact ⟨[], full, slN, m10, rfl, rfl, hP10⟩
            case round =>
              clear hP10
              obtain ⟨ms, full2, sm, mb, rfl, hfull, hP⟩ := hrel
              have hlen := pend_len hP
              rcases hP with ⟨rfl, rfl, hT2, sl1, hS⟩ | ⟨l, rest2, A1, c1, sl1, rfl, rfl, rfl, hS, hStr⟩
              · obtain ⟨hSr, hold⟩ := hS.rebase
                have HOLD := Lib.hid hold
                have e12 : ((hdB f || !es.all pvOk) || !ms.all (fun l => (entOf l).isSome) || !([] : List (List ByteArray)).all (fun l => (entOf l).isSome)) = ((hdB f || !es.all pvOk) || !ms.all (fun l => (entOf l).isSome)) := Bool.or_false _
                have hS2 : RdS w gl gr gl bs wr.heap.size (.string (hdV f).1) (.string (hdV f).2.1) (.string (hdV f).2.2.1) (.int .i64 (hdV f).2.2.2) sl1 sc se sm slN full2 (hdC f cmd) (es.filterMap pv) (ms.map entD) (([] : List (List ByteArray)).map entD) (((hdB f || !es.all pvOk) || !ms.all (fun l => (entOf l).isSome)) || !([] : List (List ByteArray)).all (fun l => (entOf l).isSome)) wr := by
                  rw [e12]
                  exact hSr
                clear hSr hold hS e12
                generalize wr.heap.size = b2 at *
                go_upto_region 20 with (go_at_call 51; refine (take_pend proW hS2).mono ?_; rintro e W12 ⟨v12, m12, rfl, hP12⟩)
                clear hS2 hlen
                go_loopw [17, 18] (fun v x wr => ∃ (ps full3 : List (List ByteArray)) (sp : Sl) (mb : Bool), x = .bool mb ∧ full2 = ps.map (proW :: ·) ++ full3 ∧ Pend proW gl full3 (fun sl' cur' W => RdS w gl gr gl bs b2 (.string (hdV f).1) (.string (hdV f).2.1) (.string (hdV f).2.2.1) (.int .i64 (hdV f).2.2.2) sl' sc se sm sp cur' (hdC f cmd) (es.filterMap pv) (ms.map entD) (ps.map entD) (((hdB f || !es.all pvOk) || !ms.all (fun l => (entOf l).isSome)) || !ps.all (fun l => (entOf l).isSome)) W) v mb wr) (fun _ x wr => lenAt gl x wr)
                case atStart => exact ⟨[], full2, slN, m12, rfl, rfl, hP12⟩
                case round =>
                  clear hP12
                  obtain ⟨ps, full3, sp, mb, rfl, hfull2, hP⟩ := hrel
                  have hlen := pend_len hP
                  rcases hP with ⟨rfl, rfl, hT3, sl1, hS⟩ | ⟨l, rest2, A1, c1, sl1, rfl, rfl, rfl, hS, hStr⟩
                  · have hpar : recParse ((recW :: f) :: (cmdW :: cmd) :: rest) = if (parB f es ms ps full3 || !full3.isEmpty) = true then none else some (parR f cmd es ms ps) := by
                      rw [hrest]
                      exact recParse_parts hT1 hfull hT2 hfull2 hT3
                    have hI5 : All wr [.cells w.heap.size 31 recZ, .kept w w.heap.size] := ⟨hS.all.at_ 7 rfl, hS.all.at_ 8 rfl, trivial⟩
                    have hCL : Cells wr gl 47 [.slice sl1.A sl1.n sl1.c] := hS.all.at_ 0 rfl
                    have hCR : Cells wr gr 64 (recC (parR f cmd es ms ps) sc se sm sp ++ [.bool (parB f es ms ps full3)]) := hS.all.at_ 2 rfl
                    have hlr : gr ≠ w.heap.size := by have h1 := hS.lr; omega
                    have hOW : All wr [.own bs 9 1 sc.A sc.n sc.c ((parR f cmd es ms ps).cmd.map sv), .own bs 49 2 se.A se.n se.c ((parR f cmd es ms ps).env.map varC).flatten, .own bs 70 33 sm.A sm.n sm.c ((parR f cmd es ms ps).mat.map entC).flatten, .own b2 70 33 sp.A sp.n sp.c ((parR f cmd es ms ps).prod.map entC).flatten] := ⟨hS.all.at_ 3 rfl, hS.all.at_ 4 rfl, hS.all.at_ 5 rfl, hS.all.at_ 6 rfl, trivial⟩
                    have hbw : w.heap.size < bs ∧ w.heap.size < b2 := by have h1 := hS.lr; have h2 := hS.rb; have h3 := hS.b12; omega
                    have hlens : se.n = (parR f cmd es ms ps).env.length ∧ sm.n = (parR f cmd es ms ps).mat.length ∧ sp.n = (parR f cmd es ms ps).prod.length := hS.lens.2
                    have hcw : ∀ s ∈ (parR f cmd es ms ps).cmd, s.size ≤ 140737488355328 := by
                      intro s hs
                      have hs2 : s ∈ cmd := by
                        have h3 : s ∈ hdC f cmd := hs
                        match f, h3 with
                        | [_, _, _, _], h3 => exact h3
                        | [], h3 => cases h3
                        | [_], h3 => cases h3
                        | [_, _], h3 => cases h3
                        | [_, _, _], h3 => cases h3
                        | _ :: _ :: _ :: _ :: _ :: _, h3 => cases h3
                      have := (H120.out (cmdW :: cmd) (by simp)).2 s (List.mem_cons_of_mem _ hs2)
                      omega
                    have hcn : full3.length = sl1.n := (hS.all.at_ 1 rfl : Lines wr gl sl1.A sl1.n full3 ∧ _).1.len
                    clear hS hrest hfull hfull2 hT1 hT2 hT3 hlen
                    generalize parR f cmd es ms ps = x at *
                    cases hbad : parB f es ms ps full3 with
                    | true =>
                      rw [hbad] at hpar hCR
                      have HR := Lib.hid (HN0.out _ rfl (by rw [hpar]; rfl))
                      have q8 : wr.cell? ⟨gr, 8, none⟩ = some (.bool true) := cell_of hCR (i := 8) rfl
                      clear hpar hCR hbad hOW hCL HN0 HS0 hlens hcw
                      go_wp2_with (first
                        | (refine wl_build rfl 31 [] rfl _ _ #[(0, 1), (1, 1), (2, 1), (3, 1), (4, 1), (5, 1), (6, 1), (7, 1)] recZ.toArray zero_rec Tryz.underlying31 (fun w => by kernel_rfl) ?_ ?_; rfl)
                        | (refine wl_store_at hI5 0 rfl 31 (.tmp 2) (.tmp 113) rfl w.heap.size _ _ recZ rfl rfl rfl rfl (by kernel_rfl) (by decide +kernel) (by simp [Apart, Res.apart]) ?_; intro w9 hI9 hs9))
                      refine bodyPost_ret (v := .tuple #[.agg recZ.toArray, .int .i64 2]) ?_ rfl ⟨slN, slN, slN, slN, by rw [HR.out]; rfl, by rw [HR.out]; exact recIn_nil _ _, (hI9.at_ 1 rfl : _ ∧ _).1⟩
                      exact Go.AdP.results_row_tmp (p := 2) (q := 3) rfl _ _ w.heap.size 31 recZ.toArray (0, 0) _ rfl (hI9.at_ 0 rfl) Tryz.underlying31 rfl (by kernel_rfl)
                    | false =>
                      rw [hbad] at hpar hCR
                      have q8 : wr.cell? ⟨gr, 8, none⟩ = some (.bool false) := cell_of hCR (i := 8) rfl
                      clear hbad
                      by_cases h0 : sl1.n = 0
                      · have hdn : Calls Tryz.prog 52 #[.pointer (some ⟨gl, 0, none⟩)] wr fun e w' => e = .returned (.bool true) ∧ wr = w' := (done_any wr gl sl1.A sl1.n sl1.c hCL).mono fun e w' ⟨h1, h2⟩ => ⟨by rw [h1]; simp [h0], h2.symm⟩
                        have hem : full3 = [] := List.eq_nil_of_length_eq_zero (by omega)
                        rw [hem] at hpar
                        obtain ⟨hrr, hok⟩ := HS0.out _ x rfl hpar
                        have HOK := Lib.hid hok
                        have HX := Lib.hid hrr
                        have HLN := Lib.hid hlens
                        have HCW := Lib.hid hcw
                        have hF : All wr [.cells gr 64 (recC x sc se sm sp ++ [.bool false]), .own bs 9 1 sc.A sc.n sc.c (x.cmd.map sv), .own bs 49 2 se.A se.n se.c (x.env.map varC).flatten, .own bs 70 33 sm.A sm.n sm.c (x.mat.map entC).flatten, .own b2 70 33 sp.A sp.n sp.c (x.prod.map entC).flatten, .cells w.heap.size 31 recZ, .kept w w.heap.size] := ⟨hCR, hOW.at_ 0 rfl, hOW.at_ 1 rfl, hOW.at_ 2 rfl, hOW.at_ 3 rfl, hI5⟩
                        have HAP : Hid (Apart (some w.heap.size) [.cells gr 64 (recC x sc se sm sp ++ [.bool false]), .own bs 9 1 sc.A sc.n sc.c (x.cmd.map sv), .own bs 49 2 se.A se.n se.c (x.env.map varC).flatten, .own bs 70 33 sm.A sm.n sm.c (x.mat.map entC).flatten, .own b2 70 33 sp.A sp.n sp.c (x.prod.map entC).flatten, .kept w w.heap.size]) := Lib.hid ⟨fun e => (by injection e with e; exact hlr e), fun g e => .inl (by injection e with e; omega), fun g e => .inl (by injection e with e; omega), fun g e => .inl (by injection e with e; omega), fun g e => .inl (by injection e with e; omega), fun g e => (by injection e with e; omega), trivial⟩
                        have hval := recValid_any wr wr.heap.size x sc se sm sp (recIn_own (hF.at_ 1 rfl) (hF.at_ 2 rfl) (hF.at_ 3 rfl) (hF.at_ 4 rfl) hlens hok hcw) hok (Nat.le_refl _) m (((hI5.at_ 1 rfl : _ ∧ _).1.cell HGM.out).trans HM.out)
                        have HL8 : Hid ((recC x sc se sm sp).length = 8) := Lib.hid rfl
                        clear hpar hok hrr hOW hCL HN0 HS0 hlens hcw hI5 hCR hcn hem hbw hlr
                        cases hv : recB x with
                        | false =>
                          have HR : Hid (recRes b = (recN, 1)) := Lib.hid (by rw [HX.out, hv]; rfl)
                          rw [hv] at hval
                          clear hv HX
                          go_upto_region 26 with (first
                            | (go_at_call 52; refine hdn.mono ?_; clear hdn; rintro e w' ⟨rfl, rfl⟩)
                            | (refine wl_load_any rfl 31 (.tmp 114) rfl ⟨gr, 0, none⟩ rfl (recC x sc se sm sp) _ (cell_pre (hF.at_ 0 rfl)) Tryz.underlying31 rfl (by rw [HL8.out]; kernel_rfl) ?_)
                            | (go_at_call 25; refine hval.mono ?_; rintro e w6 ⟨rfl, hb6⟩; have hF6 := hF.call hb6; clear hF hb6))
                          have hI6 : All w6 [.cells w.heap.size 31 recZ, .kept w w.heap.size] := ⟨hF6.at_ 5 rfl, hF6.at_ 6 rfl, trivial⟩
                          clear hF6 hval
                          go_wp2_with (first
                            | (refine wl_build rfl 31 [] rfl _ _ #[(0, 1), (1, 1), (2, 1), (3, 1), (4, 1), (5, 1), (6, 1), (7, 1)] recZ.toArray zero_rec Tryz.underlying31 (fun w => by kernel_rfl) ?_ ?_; rfl)
                            | (refine wl_store_at hI6 0 rfl 31 (.tmp 2) (.tmp 118) rfl w.heap.size _ _ recZ rfl rfl rfl rfl (by kernel_rfl) (by decide +kernel) (by simp [Apart, Res.apart]) ?_; intro w9 hI9 hs9))
                          refine bodyPost_ret (v := .tuple #[.agg recZ.toArray, .int .i64 1]) ?_ rfl ⟨slN, slN, slN, slN, by rw [HR.out]; rfl, by rw [HR.out]; exact recIn_nil _ _, (hI9.at_ 1 rfl : _ ∧ _).1⟩
                          exact Go.AdP.results_row_tmp (p := 2) (q := 3) rfl _ _ w.heap.size 31 recZ.toArray (0, 0) _ rfl (hI9.at_ 0 rfl) Tryz.underlying31 rfl (by kernel_rfl)
                        | true =>
                          have HR : Hid (recRes b = (x, 0)) := Lib.hid (by rw [HX.out, hv]; rfl)
                          rw [hv] at hval
                          clear hv HX
                          go_wp2_with (first
                            | (go_at_call 52; refine hdn.mono ?_; clear hdn; rintro e w' ⟨rfl, rfl⟩)
                            | (refine wl_load_any rfl 31 (.tmp 114) rfl ⟨gr, 0, none⟩ rfl (recC x sc se sm sp) _ (cell_pre (hF.at_ 0 rfl)) Tryz.underlying31 rfl (by rw [HL8.out]; kernel_rfl) ?_)
                            | (go_at_call 25; refine hval.mono ?_; rintro e w6 ⟨rfl, hb6⟩; have hF6 := hF.call hb6)
                            | (refine wl_load_any rfl 31 (.tmp 119) rfl ⟨gr, 0, none⟩ rfl (recC x sc se sm sp) _ (cell_pre (hF6.at_ 0 rfl)) Tryz.underlying31 rfl (by rw [HL8.out]; kernel_rfl) ?_)
                            | (refine wl_store_at hF6 5 rfl 31 (.tmp 2) (.tmp 120) rfl w.heap.size _ _ (recC x sc se sm sp) rfl rfl rfl (by rw [HL8.out]; rfl) (by rw [HL8.out]; kernel_rfl) (recC_one x sc se sm sp) HAP.out ?_; intro w9 hI9 hs9))
                          have hkb := (hI9.at_ 6 rfl : _ ∧ _).1
                          refine bodyPost_ret (v := .tuple #[.agg (recC x sc se sm sp).toArray, .int .i64 0]) ?_ rfl ⟨sc, se, sm, sp, by rw [HR.out], by rw [HR.out]; exact recIn_own (hI9.at_ 1 rfl) (hI9.at_ 2 rfl) (hI9.at_ 3 rfl) (hI9.at_ 4 rfl) HLN.out HOK.out HCW.out, hkb⟩
                          exact Go.AdP.results_row_tmp (p := 2) (q := 3) rfl _ _ w.heap.size 31 (recC x sc se sm sp).toArray (0, 0) _ rfl (hI9.at_ 5 rfl) Tryz.underlying31 rfl (by rw [List.size_toArray, HL8.out]; kernel_rfl)
                      · have hdn : Calls Tryz.prog 52 #[.pointer (some ⟨gl, 0, none⟩)] wr fun e w' => e = .returned (.bool false) ∧ wr = w' := (done_any wr gl sl1.A sl1.n sl1.c hCL).mono fun e w' ⟨h1, h2⟩ => ⟨by rw [h1]; simp [h0], h2.symm⟩
                        have hem : full3.isEmpty = false := by
                          cases full3 with
                          | nil => exact absurd hcn.symm h0
                          | cons _ _ => rfl
                        rw [hem] at hpar
                        have HR := Lib.hid (HN0.out _ rfl (by rw [hpar]; rfl))
                        clear hpar hCR hOW hCL HN0 HS0 hlens hcw hcn hem h0
                        go_upto_region 24 with (go_at_call 52; refine hdn.mono ?_; clear hdn; rintro e w' ⟨rfl, rfl⟩)
                        go_wp2_with (first
                          | (refine wl_build rfl 31 [] rfl _ _ #[(0, 1), (1, 1), (2, 1), (3, 1), (4, 1), (5, 1), (6, 1), (7, 1)] recZ.toArray zero_rec Tryz.underlying31 (fun w => by kernel_rfl) ?_ ?_; rfl)
                          | (refine wl_store_at hI5 0 rfl 31 (.tmp 2) (.tmp 113) rfl w.heap.size _ _ recZ rfl rfl rfl rfl (by kernel_rfl) (by decide +kernel) (by simp [Apart, Res.apart]) ?_; intro w9 hI9 hs9))
                        refine bodyPost_ret (v := .tuple #[.agg recZ.toArray, .int .i64 2]) ?_ rfl ⟨slN, slN, slN, slN, by rw [HR.out]; rfl, by rw [HR.out]; exact recIn_nil _ _, (hI9.at_ 1 rfl : _ ∧ _).1⟩
                        exact Go.AdP.results_row_tmp (p := 2) (q := 3) rfl _ _ w.heap.size 31 recZ.toArray (0, 0) _ rfl (hI9.at_ 0 rfl) Tryz.underlying31 rfl (by kernel_rfl)
                  · have hpn : ps.length ≤ 1000 := by
                      have h1 := HCNT.out
                      have h2 := congrArg List.length hrest
                      have h3 := congrArg List.length hfull
                      have h4 := congrArg List.length hfull2
                      simp only [List.length_cons, List.length_append, List.length_map] at h1 h2 h3 h4
                      omega
                    go_upto_region 22 with (fail)
                    refine wp_region_cut 6 [97, 98, 99, 100, 101, 102]
                      (JM (fun j v => match j with
                          | 0 => v = .pointer (some ⟨gr, 0, none⟩)
                          | 1 => v = .pointer (some ⟨gr, 7, none⟩)
                          | 2 => v = .slice sp.A sp.n sp.c
                          | 3 => v = .slice A1 l.length c1
                          | 4 => v = .agg (entC (entD l)).toArray
                          | _ => True)
                        (fun k W => RdS w gl gr gl bs b2 (.string (hdV f).1) (.string (hdV f).2.1) (.string (hdV f).2.2.1) (.int .i64 (hdV f).2.2.2) sl1 sc se sm sp rest2 (hdC f cmd) (es.filterMap pv) (ms.map entD) (ps.map entD) (if k = true then (((hdB f || !es.all pvOk) || !ms.all (fun l => (entOf l).isSome)) || !ps.all (fun l => (entOf l).isSome)) || !(entOf l).isSome else ((hdB f || !es.all pvOk) || !ms.all (fun l => (entOf l).isSome)) || !ps.all (fun l => (entOf l).isSome)) W ∧ (k = false → Strs W gl A1 l.length l))
                        (fun v W => ∃ g, v = .slice (some ⟨g, 0, none⟩) 1 1 ∧ Cells W g 70 (entC (entD l))))
                      (by kernel_rfl) (by kernel_rfl) (JM.start ⟨hS.drew, fun _ => hStr.keep fun _ _ => rfl⟩) rfl ?hops22 ?fin22
                    case hops22 =>
                      refine ⟨?_, ?_, ?_, ?_, ?_, ?_, trivial⟩
                      · refine ⟨rfl, ?_⟩
                        intro a W L vs hJ hk hcl hbd K hK
                        have b12 := hcl 12 rfl
                        go_simp
                        exact hK _ _ (hJ.quiet 0 (by decide) (by decide) rfl)
                      · refine ⟨rfl, ?_⟩
                        intro a W L vs hJ hk hcl hbd K hK
                        obtain ⟨h0, t0⟩ := hbd ⟨0, .data⟩ (by simp) rfl
                        have e0 : vs 0 = _ := hJ.1 0 h0 (by decide)
                        replace t0 : a.tmps[97]?.getD undef = vs 0 := t0
                        rw [e0] at t0
                        go_simp
                        exact hK _ _ (hJ.quiet 1 (by decide) (by decide) rfl)
                      · refine ⟨rfl, ?_⟩
                        intro a W L vs hJ hk hcl hbd K hK
                        obtain ⟨h1, t1⟩ := hbd ⟨1, .data⟩ (by simp) rfl
                        have e1 : vs 1 = _ := hJ.1 1 h1 (by decide)
                        replace t1 : a.tmps[98]?.getD undef = vs 1 := t1
                        rw [e1] at t1
                        have cc : W.cell? ⟨gr, 7, none⟩ = some (.slice sp.A sp.n sp.c) := cell_of (hJ.2.2.1.1.all.at_ 2 rfl) (i := 7) rfl
                        go_simp
                        exact hK _ _ (hJ.quiet 2 (by decide) (by decide) rfl)
                      · refine ⟨rfl, ?_⟩
                        intro a W L vs hJ hk hcl hbd K hK
                        have b15 := hcl 17 rfl
                        go_simp
                        exact hK _ _ (hJ.quiet 3 (by decide) (by decide) rfl)
                      · refine ⟨rfl, ?_⟩
                        intro a W L vs hJ hk hcl hbd K hK
                        obtain ⟨h3, t3⟩ := hbd ⟨3, .data⟩ (by simp) rfl
                        have e3 : vs 3 = _ := hJ.1 3 h3 (by decide)
                        replace t3 : a.tmps[100]?.getD undef = vs 3 := t3
                        rw [e3] at t3
                        have b12 := hcl 12 rfl
                        have hI := hJ.2.2.1
                        rw [hk] at hI
                        have hI1 : RdS w gl gr gl bs b2 (.string (hdV f).1) (.string (hdV f).2.1) (.string (hdV f).2.2.1) (.int .i64 (hdV f).2.2.2) sl1 sc se sm sp rest2 (hdC f cmd) (es.filterMap pv) (ms.map entD) (ps.map entD) (((hdB f || !es.all pvOk) || !ms.all (fun l => (entOf l).isSome)) || !ps.all (fun l => (entOf l).isSome)) W := hI.1
                        have hce := entry_st hI1 A1 c1 l (hI.2 rfl)
                        clear hI
                        go_simp
                        refine hce.mono ?_
                        rintro e w' ⟨rfl, hS'⟩
                        exact hK _ _ (hJ.call hk ⟨hS', fun h => by cases h⟩ rfl)
                      · refine ⟨rfl, ?_⟩
                        intro a W L vs hJ hk hcl hbd K hK
                        obtain ⟨h4, t4⟩ := hbd ⟨4, .data⟩ (by simp) rfl
                        have e4 : vs 4 = _ := hJ.1 4 h4 (by decide)
                        replace t4 : a.tmps[101]?.getD undef = vs 4 := t4
                        rw [e4] at t4
                        have hI := hJ.2.2.1
                        rw [h4] at hI
                        refine wp_lit1 el_ent (.tmp 101) rfl (entC (entD l)) (show a.eval (.tmp 101) = _ from by simp only [Act.eval, Array.getD_eq_getD_getElem?]; exact t4) (entD_len l) (by decide) ?_
                        exact hK _ _ (hJ.lit h4 ⟨hI.1.alloc _, fun h => by cases h⟩ ⟨W.heap.size, rfl, Cells.new' W 70 _ rfl rfl⟩)
                    case fin22 =>
                      intro vs U L hJ hL
                      obtain ⟨hP, -, hU, hR5⟩ := hJ
                      have e2 : vs 2 = .slice sp.A sp.n sp.c := hP 2 (hL 2 (by decide)) (by decide)
                      obtain ⟨g9, e5, hc9⟩ := hR5 (hL 5 (by decide))
                      rw [hL 4 (by decide)] at hU
                      have hU1 := hU.1
                      simp only [if_true] at hU1
                      clear hP hR5 hL hS hStr hU
                      simp only [putAll, Nat.zero_add, Nat.reduceAdd, List.drop_succ_cons, List.drop_zero, e2, e5, Act.put, List.setIfInBounds_toArray, List.set_cons_succ, List.set_cons_zero]
                      clear e2 e5
                      have hap := pro_ap hU1 HOLD.out
                      have hbw : b2 ≤ U.heap.size := hU1.bW
                      have hsn : sp.n ≤ 1000 := by have := hU1.lens; have := HCNT.out; simp only [List.length_cons, List.length_append, List.length_map] at *; omega
                      have hcal := cell_all hc9
                      have hall := hU1.all
                      go_upto_region 21 with (at_builtin; refine wl_app_at el_ent hall 6 rfl (.tmp 99) (.tmp 102) rfl b2 sp.A sp.n sp.c _ rfl rfl (g9 + 1) (some ⟨g9, 0, none⟩) 1 1 (entC (entD l)) rfl ⟨entD_len l, fun _ => ⟨⟨g9, 0, none⟩, rfl, Nat.lt_succ_self _, hcal⟩⟩ (entC_one _) (by omega) hbw hap ?_; intro A8 c8 w8 hI8 hs8; clear hall hap hcal hc9; have f8 := Cells.frozen (show Cells w8 gr 64 _ from hI8.at_ 2 rfl) 7; have q8 : w8.cell? ⟨gr, 7, none⟩ = some (.slice sp.A sp.n sp.c) := cell_of (show Cells w8 gr 64 _ from hI8.at_ 2 rfl) (i := 7) rfl)
                      have hN := pro_new hU1 hI8 hs8
                      clear hU1 hI8 hs8 f8 q8
                      rw [show ps.map entD ++ [entD l] = (ps ++ [l]).map entD from by simp, bad_ent] at hN
                      go_wp2_with (go_at_call 51; refine (take_pend proW hN).mono ?_; rintro e W3 ⟨v3, m3, rfl, hP3⟩)
                      have hlen3 := pend_len hP3
                      exact ⟨⟨ps ++ [l], rest2, _, m3, rfl, by rw [hfull2]; simp, hP3⟩, by rw [hlen, hlen3]; simp⟩
              · have hpn : ms.length ≤ 1000 := by
                  have h1 := HCNT.out
                  have h2 := congrArg List.length hrest
                  have h3 := congrArg List.length hfull
                  simp only [List.length_cons, List.length_append, List.length_map] at h1 h2 h3
                  omega
                go_upto_region 18 with (fail)
                refine wp_region_cut 6 [77, 78, 79, 80, 81, 82]
                  (JM (fun j v => match j with
                      | 0 => v = .pointer (some ⟨gr, 0, none⟩)
                      | 1 => v = .pointer (some ⟨gr, 6, none⟩)
                      | 2 => v = .slice sm.A sm.n sm.c
                      | 3 => v = .slice A1 l.length c1
                      | 4 => v = .agg (entC (entD l)).toArray
                      | _ => True)
                    (fun k W => RdS w gl gr gl bs bs (.string (hdV f).1) (.string (hdV f).2.1) (.string (hdV f).2.2.1) (.int .i64 (hdV f).2.2.2) sl1 sc se sm slN rest2 (hdC f cmd) (es.filterMap pv) (ms.map entD) [] (if k = true then ((hdB f || !es.all pvOk) || !ms.all (fun l => (entOf l).isSome)) || !(entOf l).isSome else (hdB f || !es.all pvOk) || !ms.all (fun l => (entOf l).isSome)) W ∧ (k = false → Strs W gl A1 l.length l))
                    (fun v W => ∃ g, v = .slice (some ⟨g, 0, none⟩) 1 1 ∧ Cells W g 70 (entC (entD l))))
                  (by kernel_rfl) (by kernel_rfl) (JM.start ⟨hS.drew, fun _ => hStr.keep fun _ _ => rfl⟩) rfl ?hops18 ?fin18
                case hops18 =>
                  refine ⟨?_, ?_, ?_, ?_, ?_, ?_, trivial⟩
                  · refine ⟨rfl, ?_⟩
                    intro a W L vs hJ hk hcl hbd K hK
                    have b12 := hcl 12 rfl
                    go_simp
                    exact hK _ _ (hJ.quiet 0 (by decide) (by decide) rfl)
                  · refine ⟨rfl, ?_⟩
                    intro a W L vs hJ hk hcl hbd K hK
                    obtain ⟨h0, t0⟩ := hbd ⟨0, .data⟩ (by simp) rfl
                    have e0 : vs 0 = _ := hJ.1 0 h0 (by decide)
                    replace t0 : a.tmps[77]?.getD undef = vs 0 := t0
                    rw [e0] at t0
                    go_simp
                    exact hK _ _ (hJ.quiet 1 (by decide) (by decide) rfl)
                  · refine ⟨rfl, ?_⟩
                    intro a W L vs hJ hk hcl hbd K hK
                    obtain ⟨h1, t1⟩ := hbd ⟨1, .data⟩ (by simp) rfl
                    have e1 : vs 1 = _ := hJ.1 1 h1 (by decide)
                    replace t1 : a.tmps[78]?.getD undef = vs 1 := t1
                    rw [e1] at t1
                    have cc : W.cell? ⟨gr, 6, none⟩ = some (.slice sm.A sm.n sm.c) := cell_of (hJ.2.2.1.1.all.at_ 2 rfl) (i := 6) rfl
                    go_simp
                    exact hK _ _ (hJ.quiet 2 (by decide) (by decide) rfl)
                  · refine ⟨rfl, ?_⟩
                    intro a W L vs hJ hk hcl hbd K hK
                    have b15 := hcl 15 rfl
                    go_simp
                    exact hK _ _ (hJ.quiet 3 (by decide) (by decide) rfl)
                  · refine ⟨rfl, ?_⟩
                    intro a W L vs hJ hk hcl hbd K hK
                    obtain ⟨h3, t3⟩ := hbd ⟨3, .data⟩ (by simp) rfl
                    have e3 : vs 3 = _ := hJ.1 3 h3 (by decide)
                    replace t3 : a.tmps[80]?.getD undef = vs 3 := t3
                    rw [e3] at t3
                    have b12 := hcl 12 rfl
                    have hI := hJ.2.2.1
                    rw [hk] at hI
                    have hI1 : RdS w gl gr gl bs bs (.string (hdV f).1) (.string (hdV f).2.1) (.string (hdV f).2.2.1) (.int .i64 (hdV f).2.2.2) sl1 sc se sm slN rest2 (hdC f cmd) (es.filterMap pv) (ms.map entD) [] ((hdB f || !es.all pvOk) || !ms.all (fun l => (entOf l).isSome)) W := hI.1
                    have hce := entry_st hI1 A1 c1 l (hI.2 rfl)
                    clear hI
                    go_simp
                    refine hce.mono ?_
                    rintro e w' ⟨rfl, hS'⟩
                    exact hK _ _ (hJ.call hk ⟨hS', fun h => by cases h⟩ rfl)
                  · refine ⟨rfl, ?_⟩
                    intro a W L vs hJ hk hcl hbd K hK
                    obtain ⟨h4, t4⟩ := hbd ⟨4, .data⟩ (by simp) rfl
                    have e4 : vs 4 = _ := hJ.1 4 h4 (by decide)
                    replace t4 : a.tmps[81]?.getD undef = vs 4 := t4
                    rw [e4] at t4
                    have hI := hJ.2.2.1
                    rw [h4] at hI
                    refine wp_lit1 el_ent (.tmp 81) rfl (entC (entD l)) (show a.eval (.tmp 81) = _ from by simp only [Act.eval, Array.getD_eq_getD_getElem?]; exact t4) (entD_len l) (by decide) ?_
                    exact hK _ _ (hJ.lit h4 ⟨hI.1.alloc _, fun h => by cases h⟩ ⟨W.heap.size, rfl, Cells.new' W 70 _ rfl rfl⟩)
                case fin18 =>
                  intro vs U L hJ hL
                  obtain ⟨hP, -, hU, hR5⟩ := hJ
                  have e2 : vs 2 = .slice sm.A sm.n sm.c := hP 2 (hL 2 (by decide)) (by decide)
                  obtain ⟨g9, e5, hc9⟩ := hR5 (hL 5 (by decide))
                  rw [hL 4 (by decide)] at hU
                  have hU1 := hU.1
                  simp only [if_true] at hU1
                  clear hP hR5 hL hS hStr hU
                  simp only [putAll, Nat.zero_add, Nat.reduceAdd, List.drop_succ_cons, List.drop_zero, e2, e5, Act.put, List.setIfInBounds_toArray, List.set_cons_succ, List.set_cons_zero]
                  clear e2 e5
                  have hap := mat_ap hU1
                  have hbw : bs ≤ U.heap.size := hU1.bW
                  have hsn : sm.n ≤ 1000 := by have := hU1.lens; have := HCNT.out; simp only [List.length_cons, List.length_append, List.length_map] at *; omega
                  have hcal := cell_all hc9
                  have hall := hU1.all
                  go_upto_region 17 with (at_builtin; refine wl_app_at el_ent hall 5 rfl (.tmp 79) (.tmp 82) rfl bs sm.A sm.n sm.c _ rfl rfl (g9 + 1) (some ⟨g9, 0, none⟩) 1 1 (entC (entD l)) rfl ⟨entD_len l, fun _ => ⟨⟨g9, 0, none⟩, rfl, Nat.lt_succ_self _, hcal⟩⟩ (entC_one _) (by omega) hbw hap ?_; intro A8 c8 w8 hI8 hs8; clear hall hap hcal hc9; have f8 := Cells.frozen (show Cells w8 gr 64 _ from hI8.at_ 2 rfl) 6; have q8 : w8.cell? ⟨gr, 6, none⟩ = some (.slice sm.A sm.n sm.c) := cell_of (show Cells w8 gr 64 _ from hI8.at_ 2 rfl) (i := 6) rfl)
                  have hN := mat_new hU1 hI8 hs8
                  clear hU1 hI8 hs8 f8 q8
                  rw [show ms.map entD ++ [entD l] = (ms ++ [l]).map entD from by simp, bad_ent] at hN
                  go_wp2_with (go_at_call 51; refine (take_pend matW hN).mono ?_; rintro e W3 ⟨v3, m3, rfl, hP3⟩)
                  have hlen3 := pend_len hP3
                  exact ⟨⟨ms ++ [l], rest2, _, m3, rfl, by rw [hfull]; simp, hP3⟩, by rw [hlen, hlen3]; simp⟩
          · have hve := variable_st hS A1 c1 l hStr (by
              have h0 := List.length_filterMap_le pv es
              have h1 := HCNT.out
              have h2 := congrArg List.length hrest
              simp only [List.length_cons, List.length_append, List.length_map] at h1 h2
              omega)
            clear hS hStr
            go_upto_region 13 with (go_at_call 23; refine hve.mono ?_; clear hve; rintro e W2 ⟨rfl, se2, hS2⟩)
            rw [vars_more, bad_env] at hS2
            go_wp2_with (go_at_call 51; refine (take_pend envW hS2).mono ?_; rintro e W3 ⟨v3, m3, rfl, hP3⟩)
            have hlen3 := pend_len hP3
            exact ⟨⟨es ++ [l], rest2, se2, m3, rfl, by rw [hrest]; simp, hP3⟩, by rw [hlen, hlen3]; simp⟩
  · have HR := Lib.hid (recRes_err q0)
    obtain ⟨q, hq⟩ : ∃ q, q = (decR b).2 := ⟨_, rfl⟩
    rw [← hq] at HR q0 ⊢
    have d0 : (q != 0) = true := by simpa using q0
    have hI5 : All w2 [.cells w.heap.size 31 recZ, .kept w w.heap.size] := hI3.2
    clear hI3 q0 hq hnc2 hcm2
    go_wp2_with (first
      | (refine wl_build rfl 31 [] rfl _ _ #[(0, 1), (1, 1), (2, 1), (3, 1), (4, 1), (5, 1), (6, 1), (7, 1)] recZ.toArray zero_rec Tryz.underlying31 (fun w => by kernel_rfl) ?_ ?_; rfl)
      | (refine wl_store_at hI5 0 rfl 31 (.tmp 2) (.tmp 26) rfl w.heap.size _ _ recZ rfl rfl rfl rfl (by kernel_rfl) (by decide +kernel) (by simp [Apart, Res.apart]) ?_; intro w9 hI9 hs9))
    refine bodyPost_ret (v := .tuple #[.agg recZ.toArray, .int .i64 q]) ?_ rfl ⟨slN, slN, slN, slN, by rw [HR.out]; rfl, by rw [HR.out]; exact recIn_nil _ _, (hI9.at_ 1 rfl : _ ∧ _).1⟩
    exact Go.AdP.results_row_tmp (p := 2) (q := 3) rfl _ _ w.heap.size 31 recZ.toArray (0, 0) _ rfl (hI9.at_ 0 rfl) Tryz.underlying31 rfl (by kernel_rfl)
end Go.Proofs.YtjdinakdkdjocaaGreatDoor

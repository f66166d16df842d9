/- An entry dropped from a list. -/
import Derived.Test.YtieobkgdkiahbaaDoorTape2
import Derived.Test.YtieobkgdkiahbaaDoorSnap3
set_option linter.unusedSimpArgs false
set_option linter.unusedVariables false
namespace Go.Adm
open Go Go.RowKit
/-- append to an empty literal: as to nil, where anything is appended. -/
theorem run_app_zero {P : Program} (w : World) {t e : TypeId} {z : Value} {size bytes : Nat} (E : ElemOf P t e z size bytes) (ty : TypeId) (ad : Addr) (A : Option Addr) (m c : Nat) (hm : 0 < m) (hbytes : m * bytes ≤ 140737488355328) :
    (Builtin.append_ #[t, t] ty #[.slice (some ad) 0 0, .slice A m c]).run P w = (Builtin.append_ #[t, t] ty #[.slice none 0 0, .slice A m c]).run P w := by
  obtain ⟨i, hi, hz, hsize, hby⟩ := E.hi
  have h0 : ¬ (m ≤ 0) := by omega
  have hcap : Builtin.nextslicecap m 0 = m := by
    unfold Builtin.nextslicecap
    simp
    omega
  have h1 : m ≠ 0 := by omega
  have hb : ¬ (281474976710656 < m * bytes) := by omega
  have hb0 : ¬ (bytes = 0) := by have := E.hb; omega
  have hlc : ∀ W : World, (loadCells ad 0).run P W = .ok #[] W := fun W => by simp [loadCells, loadCellsFrom]
  simp [Builtin.append_, run_underlying E.ht, sizeOf, typeInfo, hi, Builtin.lenOf, h0, h1, hb, hb0, hcap, hby, Builtin.firstCells, hlc]
theorem wp_app0 {P : Program} {w : World} {o : Oper} {a : Act} {K : Act → World → Prop} {Q : Exit → Act → World → Prop} {t e : TypeId} {z : Value} {size bytes : Nat} (E : ElemOf P t e z size bytes) (s x : Operand)
    (ho : o.op = .call { callee := .builtin .append, args := #[s, x], argTypes := #[t, t] })
    (base : Nat) (ad : Addr) (hs : a.eval s = .slice (some ad) 0 0) (hown : Own w base e size (some ad) 0 0 [])
    (A : Option Addr) (m c : Nat) (news : List Value) (hx : a.eval x = .slice A m c) (hr : Rd w w.heap.size size A m news) (h1 : ∀ u ∈ news, u.oneCell' = true)
    (hbytes : m * bytes ≤ 140737488355328) (hbase : base ≤ w.heap.size)
    (h : ∀ A' c' w', Own w' base e size A' m c' news → w.grownBy w' none → K (a.put o.dst (.slice A' m c')) w') : o.wp P a w K Q := by
  rcases Nat.eq_zero_or_pos m with h0 | h0
  · subst h0
    have hn : news = [] := List.eq_nil_of_length_eq_zero (by simpa using hr.len)
    subst hn
    obtain ⟨i, hi, hz, hsize, hby⟩ := E.hi
    have hrun : (Builtin.append_ #[t, t] o.type #[.slice (some ad) 0 0, .slice A 0 c]).run P w = .ok (.slice (some ad) 0 0) w := by
      cases A with
      | none => exact run_app_none w base t o.type e i size E.ht hi _ 0 [] hown c
      | some b =>
        have hlc : ∀ W : World, (loadCells b 0).run P W = .ok #[] W := fun W => by simp [loadCells, loadCellsFrom]
        simp [Builtin.append_, run_underlying E.ht, sizeOf, typeInfo, hi, Builtin.lenOf, Builtin.firstCells, hlc, storeCells]
    unfold Oper.wp execOp
    simp only [ho, resolve, invoke, builtin, Sem.run_bind, Sem.run_pure, Result.andThen_ok, List.map_toArray, List.map_cons, List.map_nil, hs, hx, hrun]
    exact h _ _ _ hown (World.grownBy.refl _ _)
  · obtain ⟨A', c', w', hrun, h2, _, h4, _, _⟩ := run_app (P := P) w E base o.type none 0 0 [] (Go.Adm.Own.nil _ _ _ _) w.heap.size A m c news hr h1 (by rw [Nat.zero_add]; exact hbytes) hbase
    rw [← run_app_zero w E o.type ad A m c h0 hbytes] at hrun
    simp only [Nat.zero_add, List.nil_append] at hrun h2
    unfold Oper.wp execOp
    simp only [ho, resolve, invoke, builtin, Sem.run_bind, Sem.run_pure, Result.andThen_ok, List.map_toArray, List.map_cons, List.map_nil, hs, hx, hrun]
    exact h A' c' w' h2 h4
def VF.lit0 (base : Nat) (e : TypeId) (size : Nat) : VF := .gen (fun w v => base ≤ w.heap.size ∧ ∃ ad, v = .slice (some ad) 0 0 ∧ Own w base e size (some ad) 0 0 []) fun _ _ _ hg ⟨hb, ad, hv, h⟩ => ⟨Nat.le_trans hb hg.size, ad, hv, h.kept ⟨hg.os, hg.tape, hg.output, hg.size, fun k hk => hg.block k hk (by simp)⟩⟩
theorem flat_takeE {α : Type} {f : α → List Value} {size : Nat} {l : List α} (h : ∀ x ∈ l, (f x).length = size) (k : Nat) : (l.map f).flatten.take (k * size) = ((l.take k).map f).flatten := by
  rw [flat_take k (fun e he => by obtain ⟨x, hx, rfl⟩ := List.mem_map.1 he; exact h x hx), List.map_take]
theorem flat_dropE {α : Type} {f : α → List Value} {size : Nat} {l : List α} (h : ∀ x ∈ l, (f x).length = size) (k : Nat) : (l.map f).flatten.drop (k * size) = ((l.drop k).map f).flatten := by
  rw [flat_drop k (fun e he => by obtain ⟨x, hx, rfl⟩ := List.mem_map.1 he; exact h x hx), List.map_drop]
end Go.Adm
namespace Go.Proofs.YtieobkgdkiahbaaDoor
open Go Go.RowKit Go.Adm

set_option maxRecDepth 100000 in
set_option maxHeartbeats 3200000 in
theorem Drop_any (w : World) (B : Nat) (A : Option Addr) (n c i : Nat) (l : List E) (hl : Els w B 33 A n (l.map entC)) (h32 : ∀ e ∈ l, E32 e) (hn : l.length = n) (hn2 : n ≤ 1000) (hnc : n ≤ c) (hi : i < n) (hB : B ≤ w.heap.size) :
    Calls Tryd.prog 55 #[.slice A n c, .int .i64 i] w (OwnPost entC 33 (l.eraseIdx i) 72 w) := by
  have hR : All w [.low (.els B 33 A n (l.map entC)), .kept w w.heap.size] := ⟨⟨hl, hB⟩, ⟨Below.refl _ _, Nat.le_refl _⟩, trivial⟩
  have HN := Lib.hid hn
  have H32 := Lib.hid h32
  have HE : Hid (∀ x ∈ l, (entC x).length = 33) := Lib.hid fun x hx => entC_len (h32 x hx)
  have HO : Hid (∀ l' : List E, ∀ u ∈ (l'.map entC).flatten, u.oneCell' = true) := Lib.hid fun l' u hu => by
    obtain ⟨es, he, hu⟩ := List.mem_flatten.1 hu
    obtain ⟨x, _, rfl⟩ := List.mem_map.1 he
    exact entC_one x u hu
  clear hl h32 hn
  have w1 : IntKind.i64.wrap ((i : Int) + 1) = ((i + 1 : Nat) : Int) := by rw [IntWalk.i64_in _ (by omega)]; omega
  go_enter Tryd.func55, Tryd.ntmps55
  go_upto_region 1 with (fail)
  refine wp_region_hops 9 [5, 6, 7, 8, 9, 10, 11, 12, 13] [.low (.els B 33 A n (l.map entC)), .kept w w.heap.size]
    [.lit0 w.heap.size 72 33, .eq (.slice A n c), .eq (.int .i64 i), .rd 33 i ((l.take i).map entC).flatten, .own w.heap.size 72 33 i ((l.take i).map entC).flatten,
     .eq (.slice A n c), .eq (.int .i64 i), .eq (.int .i64 ((i + 1 : Nat) : Int)), .rd 33 (n - (i + 1)) ((l.drop (i + 1)).map entC).flatten]
    (by kernel_rfl) (by kernel_rfl) hR rfl ?hops ?fin
  case hops =>
    refine ⟨?_, ?_, ?_, ?_, ?_, ?_, ?_, ?_, ?_, trivial⟩
    · intro a W hW hb hd K hK
      have hs : w.heap.size ≤ W.heap.size := hW.size_kept 1 rfl
      go_simp
      exact hK _ _ (grown_alloc _ _) ⟨by simp; omega, ⟨W.heap.size, 0, none⟩, rfl, Go.Adm.Own.lit (base := w.heap.size) (e := 72) (size := 33) W #[] 0 hs (by decide) rfl⟩
    · intro a W hW hb hd K hK
      go_simp
      exact hK _ _ (World.grownBy.refl _ _) rfl
    · intro a W hW hb hd K hK
      go_simp
      exact hK _ _ (World.grownBy.refl _ _) rfl
    · intro a W hW hb hd K hK
      have b6 : a.tmps[6]?.getD undef = _ := hd ⟨1, .data⟩ (by simp) rfl
      have b7 : a.tmps[7]?.getD undef = _ := hd ⟨2, .data⟩ (by simp) rfl
      have d1 : i ≤ c := by omega
      have hE : Els W B 33 A n (l.map entC) ∧ B ≤ W.heap.size := hW.at_ 0 rfl
      have hr := (hE.1.rd.mono hE.2).take (k := i) (by omega)
      rw [flat_takeE HE.out] at hr
      clear hE
      go_simp
      exact hK _ _ (World.grownBy.refl _ _) ⟨A, c, rfl, hr⟩
    · intro a W hW hb hd K hK
      obtain ⟨hb0, ad, b5, ho5⟩ := hd ⟨0, .data⟩ (by simp) rfl
      obtain ⟨A8, c8, b8, hr8⟩ := hd ⟨3, .data⟩ (by simp) rfl
      replace b5 : a.tmps[5]?.getD undef = _ := b5
      replace b8 : a.tmps[8]?.getD undef = _ := b8
      have e5 : a.eval (.tmp 5) = .slice (some ad) 0 0 := by go_simp
      have e8 : a.eval (.tmp 8) = .slice A8 i c8 := by go_simp
      refine wp_app0 el_ent (.tmp 5) (.tmp 8) rfl w.heap.size ad e5 ho5 A8 i c8 _ e8 hr8 (HO.out _) (by omega) hb0 ?_
      intro A9 c9 w9 ho9 hg9
      exact hK _ _ hg9 ⟨Nat.le_trans hb0 hg9.size, A9, c9, rfl, ho9⟩
    · intro a W hW hb hd K hK
      go_simp
      exact hK _ _ (World.grownBy.refl _ _) rfl
    · intro a W hW hb hd K hK
      go_simp
      exact hK _ _ (World.grownBy.refl _ _) rfl
    · intro a W hW hb hd K hK
      have b11 : a.tmps[11]?.getD undef = _ := hd ⟨6, .data⟩ (by simp) rfl
      go_simp
      exact hK _ _ (World.grownBy.refl _ _) rfl
    · intro a W hW hb hd K hK
      have b10 : a.tmps[10]?.getD undef = _ := hd ⟨5, .data⟩ (by simp) rfl
      have b12 : a.tmps[12]?.getD undef = _ := hd ⟨7, .data⟩ (by simp) rfl
      have d2 : 0 ≤ (i : Int) + 1 ∧ (i : Int) + 1 ≤ (n : Int) := by omega
      have hE : Els W B 33 A n (l.map entC) ∧ B ≤ W.heap.size := hW.at_ 0 rfl
      have hr := (hE.1.rd.mono hE.2).cut (k := i + 1) (cap := c) (by omega) hnc
      rw [flat_dropE HE.out] at hr
      clear hE
      go_simp
      exact hK _ _ (World.grownBy.refl _ _) ⟨_, _, rfl, hr⟩
  case fin =>
    intro vs W hW hv
    obtain ⟨hb9, A9, c9, e9, ho9⟩ := hv 4 (by decide)
    obtain ⟨A13, c13, e13, hr13⟩ := hv 8 (by decide)
    clear hv
    have hsz : w.heap.size ≤ W.heap.size := hW.size_kept 1 rfl
    simp only [putAll, List.drop_succ_cons, List.drop_zero, Act.put, List.setIfInBounds_toArray, List.set_cons_succ, List.set_cons_zero, e9, e13]
    clear e9 e13
    have hlen : i + (n - (i + 1)) = n - 1 := by omega
    go_wp2_with (at_builtin; refine wl_app6 _ el_ent rfl (.tmp 9) (.tmp 13) rfl w.heap.size A9 i c9 _ rfl ho9 W.heap.size A13 (n - (i + 1)) c13 _ rfl hr13 (HO.out _) (by omega) hb9 ?_; intro A3 c3 w3 hown3 hg3 hob3; have hb3 : Below w.heap.size w w3 := (hW.at_ 1 rfl).1.grown hg3 hsz (fun k hk => (ho9.lt hk).1))

    go_ret
    have he : (l.eraseIdx i).length = i + (n - (i + 1)) := by rw [List.length_eraseIdx, HN.out, if_pos hi]; omega
    refine ⟨A3, c3, by rw [he, hlen]; rfl, ?_, hb3⟩
    rw [he, List.eraseIdx_eq_take_drop_succ, List.map_append, List.flatten_append]
    exact hown3
end Go.Proofs.YtieobkgdkiahbaaDoor

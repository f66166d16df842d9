/- The lines of a snapshot, as a list of rows that the call made: the program. An append onto a row that is full leaves old memory alone. -/
import Derived.Test.YtjdinakdkdjocaaGreatDoorSnpB
import Derived.Test.YtjdinakdkdjocaaGreatDoorFmtB
import Derived.Test.YtjdinakdkdjocaaGreatDoorDocA
import Derived.Test.YtjdinakdkdjocaaGreatDoorGen2
import Derived.ArgAppend
set_option linter.unusedSimpArgs false
set_option linter.unusedVariables false
set_option maxRecDepth 100000
namespace Go.Adm
open Go Go.RowKit
theorem Strs.grownN {w w' : World} {A : Option Addr} {n : Nat} {ss : List ByteArray} (hg : w.grownBy w' none) (h : Strs w w.heap.size A n ss) : Strs w' w'.heap.size A n ss :=
  (h.keep fun p hp => World.cell?_of_block (w := w) (hg.block _ hp (by simp))).mono hg.size
def RowAt (w : World) (B : Nat) (v : Value) (ss : List ByteArray) : Prop := ∃ ad, v = .slice (some ad) ss.length ss.length ∧ ss.length ≤ 1000 ∧ Strs w B (some ad) ss.length ss
theorem RowAt.st {B0 n c : Nat} {ad : Addr} {ss : List ByteArray} {F : Nat → Prop} (hF : ad.block < B0 ∨ F ad.block) : St B0 F (fun w => RowAt w w.heap.size (.slice (some ad) n c) ss) := fun w w' hs hb h => by
  obtain ⟨ad', e, h1, h2⟩ := h
  injection e with e1 e2 e3
  injection e1 with e1
  subst e1
  exact ⟨ad, by rw [e2, e3], h1, ⟨(Rd.st (by intro ad' h; injection h with h; subst h; exact hF)) w w' hs hb h2.rd, h2.small⟩⟩
def VF.strs (base : Nat) (out : Value) (ss : List ByteArray) : VF := .gen (fun W v => ∃ ad, v = .slice (some ad) ss.length ss.length ∧ Strs W W.heap.size (some ad) ss.length ss ∧ base ≤ ad.block ∧ ad.block < W.heap.size ∧ out.ownBlock ≠ some ad.block)
  fun _ _ _ hg ⟨ad, h1, h2, h3, h4, h5⟩ => ⟨ad, h1, h2.grownN hg, h3, Nat.lt_of_lt_of_le h4 hg.size, h5⟩
def VF.line (base : Nat) (out : Value) (ss : List ByteArray) : VF := .gen (fun W v => ∃ A c ad, v = .slice A 1 c ∧ Rd W W.heap.size 1 A 1 [.slice (some ad) ss.length ss.length] ∧ Strs W W.heap.size (some ad) ss.length ss ∧ base ≤ ad.block ∧ ad.block < W.heap.size ∧ out.ownBlock ≠ some ad.block)
  fun _ _ _ hg ⟨A, c, ad, h1, h0, h2, h3, h4, h5⟩ => ⟨A, c, ad, h1, h0.grown hg, h2.grownN hg, h3, Nat.lt_of_lt_of_le h4 hg.size, h5⟩
theorem Lines.of {w : World} {B n : Nat} {A : Option Addr} {vs : List Value} {ls : List (List ByteArray)} (h : Rd w B 1 A n vs) (ha : All2 (RowAt w B) vs ls) (hn : n ≤ 140737488355328) : Lines w B A n ls := by
  have hl := h.len
  have hl2 := ha.len
  refine ⟨by omega, hn, vs, h, fun k hk => ?_⟩
  obtain ⟨v, hv, ad, rfl, h1, h2⟩ := ha.at_ hk
  exact ⟨some ad, ls[k].length, hv, Nat.le_refl _, Nat.le_trans h1 (by decide), h2⟩
theorem Nest.apart_new {w : World} {base size n c : Nat} {e : TypeId} {A : Option Addr} {xs : List Value} {B0 : Nat} {F : Nat → Prop} {In : World → Prop} (h : Nest w base e size A n c xs B0 F In) (hB : B0 ≤ w.heap.size) {g : Nat} (hg : g = w.heap.size) :
    Res.apart (some g) (.nest base e size A n c xs B0 F In) := fun g' h' => by
  injection h' with h'
  subst h'
  refine ⟨by omega, .inr ⟨fun e => ?_, fun f => ?_⟩⟩
  · have := (h.own.lt e).2; omega
  · have := (h.fr _ f).2; omega
def entLn (tag : ByteArray) (x : E) : List ByteArray := [tag, x.p, ⟨(fmtL x.d).toArray⟩]
def entLs (tag : ByteArray) (l : List E) : List (List ByteArray) := l.map (entLn tag)
end Go.Adm
namespace Go.Proofs.YtjdinakdkdjocaaGreatDoor
open Go Go.RowKit Go.Adm
theorem el_line : ElemOf Tryz.prog 47 27 (.slice none 0 0) 1 24 := ElemOf.mk' Tryz.underlying47 (by kernel_rfl) rfl (by decide) (by decide)
/-- what was returned: the lines -/
def LinesNest (t1 : TypeId) (w : World) (n : Nat) (ls : List (List ByteArray)) (e : Ending) (w' : World) : Prop := ∃ A c vs F, e = .returned (.slice A n c) ∧ Below w.heap.size w w' ∧ Nest w' w.heap.size t1 1 A n c vs 0 F (fun W => All2 (RowAt W W.heap.size) vs ls)

set_option maxHeartbeats 3200000 in
theorem Lines_any (tag : ByteArray) (ht : tag.size ≤ 140737488355328) (w : World) (B : Nat) (A : Option Addr) (n c : Nat) (l : List E) (hl : Els w B 33 A n (l.map entC)) (h32 : ∀ e ∈ l, E32 e) (hn : l.length = n) (hn2 : n ≤ 1000000) (hB : B ≤ w.heap.size) :
    Calls Tryz.prog 36 #[.string tag, .slice A n c] w (LinesNest 27 w n (entLs tag l)) := by
  have hR : All w [.low (.els B 33 A n (l.map entC)), .kept w w.heap.size] := ⟨⟨hl, hB⟩, ⟨Below.refl _ _, Nat.le_refl _⟩, trivial⟩
  have HN := Lib.hid hn
  have H32 := Lib.hid h32
  clear hl h32 hn
  have hzr := zero_ent
  go_enter Tryz.func36, Tryz.ntmps36
  go_upto_region 3 with (fail)
  have hI0 : All w [.nest w.heap.size 27 1 none 0 0 [] 0 (fun _ => False) (fun w => All2 (RowAt w w.heap.size) [] ((entLs tag l).take 0)), .low (.els B 33 A n (l.map entC)), .kept w w.heap.size] := ⟨Nest.start (fun w => .nil), hR⟩
  clear hR
  go_wp2
  go_loopw [5, 10] (fun v i wr => ∃ (k : Nat) (A' : Option Addr) (c' : Nat) (vs : List Value) (F : Nat → Prop), k ≤ n ∧ i = .int .i64 k ∧ v = .slice A' k c' ∧ w.heap.size ≤ wr.heap.size ∧ All wr [.nest w.heap.size 27 1 A' k c' vs 0 F (fun w => All2 (RowAt w w.heap.size) vs ((entLs tag l).take k)), .low (.els B 33 A n (l.map entC)), .kept w w.heap.size]) (fun _ i _ => n - (intOf i).toNat)
  case atStart => exact ⟨0, none, 0, [], _, by omega, rfl, rfl, Nat.le_refl _, hI0⟩
  case round =>
    obtain ⟨k, A', c', vs, F, hk, rfl, rfl, hsr, hI⟩ := hrel
    clear hI0
    by_cases hlt : k < n
    · have hkl : k < l.length := by rw [HN.out]; exact hlt
      obtain ⟨ad, rfl, hadB, hc⟩ := Els.elem (hI.at_ 1 rfl : Els wr B 33 A n (l.map entC) ∧ B ≤ wr.heap.size).1 hkl
      have HC := Lib.hid hc
      have HT : Hid ((entLs tag l).take (k + 1) = (entLs tag l).take k ++ [entLn tag l[k]]) := Lib.hid (by rw [entLs, ← List.map_take, List.take_succ_eq_append_getElem hkl, List.map_append, List.map_take]; rfl)
      have hx := Lib.hid (H32.out _ (List.getElem_mem hkl))
      clear hc
      generalize l[k] = x at *
      have hsz : w.heap.size ≤ wr.heap.size := hI.size_kept 2 rfl
      have d1 : decide ((k : Int) < (n : Int)) = true := by simp; omega
      have wk0 : (0 : Int) ≤ (k : Int) := by omega
      have wk1 : (k : Int) < (n : Int) := by omega
      have wk2 : ((k : Int)).toNat = k := by omega
      obtain ⟨gx, hgx⟩ : ∃ gx, gx = wr.heap.size := ⟨_, rfl⟩
      have hap : Apart (some gx) [.nest w.heap.size 27 1 A' k c' vs 0 F (fun w => All2 (RowAt w w.heap.size) vs ((entLs tag l).take k)), .low (.els B 33 (some ad) n (l.map entC)), .kept w w.heap.size] := ⟨Nest.apart_new (hI.at_ 0 rfl) (Nat.zero_le _) hgx, fun g hg => by injection hg with hg; subst hg; exact hgx ▸ (hI.at_ 1 rfl : _ ∧ B ≤ wr.heap.size).2, fun g hg => by injection hg with hg; subst hg; omega, trivial⟩
      go_upto_region 5 with (first
        | (refine wl_load_any rfl 70 (.tmp 12) rfl (ad.add (k * 33)) rfl (entC x) _ HC.out Tryz.underlying70 rfl (by rw [entC_len hx.out]; kernel_rfl) ?_)
        | (refine wl_store_at (hI.new (l := entZ) _ 70 hgx rfl) 0 rfl 70 (.tmp 7) (.tmp 13) rfl gx _ _ (entC x) rfl (by rw [hgx]; rfl) rfl (by rw [entC_len hx.out]; rfl) (by rw [entC_len hx.out]; kernel_rfl) (entC_one x) hap ?_; intro W2 hW2 hs2; clear hs2; simp only [List.set_cons_zero] at hW2))
      simp only [← hgx]
      have hgB : B ≤ gx := by have := (hI.at_ 1 rfl : _ ∧ B ≤ wr.heap.size).2; omega
      have hgw : w.heap.size ≤ gx := by omega
      clear hgx hI hap
      refine wp_region_hops 9 [14, 15, 16, 17, 18, 19, 20, 21, 22] [.cells gx 70 (entC x), .nest w.heap.size 27 1 A' k c' vs 0 F (fun w => All2 (RowAt w w.heap.size) vs ((entLs tag l).take k)), .low (.els B 33 (some ad) n (l.map entC)), .kept w w.heap.size]
        [.eq (.slice A' k c'), .eq (.string tag), .eq (.pointer (some ⟨gx, 0, none⟩)), .eq (.string x.p), .eq (.pointer (some ⟨gx, 1, none⟩)), .eq (.agg (x.d.map bv).toArray), .eq (.string ⟨(fmtL x.d).toArray⟩), .strs w.heap.size (.slice A' k c') (entLn tag x), .line w.heap.size (.slice A' k c') (entLn tag x)]
        (by kernel_rfl) (by kernel_rfl) hW2 rfl ?hops ?fin
      case hops =>
        refine ⟨?_, ?_, ?_, ?_, ?_, ?_, ?_, ?_, ?_, trivial⟩
        · intro a W hW hb hd K hK
          have b5 := hb 5 rfl
          go_simp
          exact hK _ _ (World.grownBy.refl _ _) rfl
        · intro a W hW hb hd K hK
          have b0 := hb 0 rfl
          go_simp
          exact hK _ _ (World.grownBy.refl _ _) rfl
        · intro a W hW hb hd K hK
          have b7 := hb 7 rfl
          go_simp
          exact hK _ _ (World.grownBy.refl _ _) rfl
        · intro a W hW hb hd K hK
          have b16 : a.tmps[16]?.getD undef = _ := hd ⟨2, .data⟩ (by simp) rfl
          have q1 : W.cell? ⟨gx, 0, none⟩ = some (.string x.p) := Cells.cell (hW.at_ 0 rfl) (i := 0) (by simp [entC])
          go_simp
          exact hK _ _ (World.grownBy.refl _ _) rfl
        · intro a W hW hb hd K hK
          have b7 := hb 7 rfl
          go_simp
          exact hK _ _ (World.grownBy.refl _ _) rfl
        · intro a W hW hb hd K hK
          have b18 : a.tmps[18]?.getD undef = _ := hd ⟨4, .data⟩ (by simp) rfl
          refine wp_load_any 68 (.tmp 18) rfl ⟨gx, 1, none⟩ (show a.eval (.tmp 18) = _ from by simp only [Act.eval, Array.getD_eq_getD_getElem?]; exact b18) (x.d.map bv) _ (Cells.sub (hW.at_ 0 rfl) 1 (ent_sub x)) Tryz.underlying68 rfl (by rw [List.length_map, hx.out.1]; kernel_rfl) ?_
          exact hK _ _ (World.grownBy.refl _ _) rfl
        · intro a W hW hb hd K hK
          have b19 : a.tmps[19]?.getD undef = _ := hd ⟨5, .data⟩ (by simp) rfl
          go_simp
          refine (Format_any W x.d hx.out.1).mono ?_
          rintro e w' ⟨rfl, hb'⟩
          exact hK _ _ (grown_of_below hb') rfl
        · intro a W hW hb hd K hK
          have b15 : a.tmps[15]?.getD undef = _ := hd ⟨1, .data⟩ (by simp) rfl
          have b17 : a.tmps[17]?.getD undef = _ := hd ⟨3, .data⟩ (by simp) rfl
          have b20 : a.tmps[20]?.getD undef = _ := hd ⟨6, .data⟩ (by simp) rfl
          go_simp
          refine hK _ _ (grown_alloc _ _) ⟨⟨W.heap.size, 0, none⟩, rfl, ⟨(Rd.lit W #[.string tag, .string x.p, .string ⟨(fmtL x.d).toArray⟩] _ 3 rfl).mono (by simp), ?_⟩, (hW.at_ 3 rfl : _ ∧ w.heap.size ≤ W.heap.size).2, by simp, fun e => ?_⟩
          · intro s hs
            simp only [entLn, List.mem_cons, List.mem_nil_iff, or_false] at hs
            rcases hs with rfl | rfl | rfl
            · exact ht
            · exact hx.out.2
            · rw [fmt_size hx.out.1]; decide
          · have := ((hW.at_ 1 rfl : Nest W w.heap.size 27 1 A' k c' vs 0 F _).own.lt e).2
            exact absurd this (Nat.lt_irrefl _)
        · intro a W hW hb hd K hK
          obtain ⟨ad3, b21x, hs3, h31, h32, h33⟩ := (hd ⟨7, .data⟩ (by simp) rfl : VF.ok (.strs w.heap.size (.slice A' k c') (entLn tag x)) (a.tmps[21]?.getD undef) W)
          replace b21x : a.tmps[21]?.getD undef = .slice (some ad3) 3 3 := b21x
          go_simp
          exact hK _ _ (grown_alloc _ _) ⟨_, _, ad3, rfl, (Rd.lit W #[.slice (some ad3) 3 3] _ 1 rfl).mono (by simp), hs3.grownN (grown_alloc _ _), h31, by simp; omega, h33⟩
      case fin =>
        intro vv V hV hv
        have e0 : vv 0 = _ := hv 0 (by decide)
        obtain ⟨A9, c9, ad3, e9, hRd, hs3, h31, h34, h33⟩ := (hv 8 (by decide) : VF.ok (.line w.heap.size (.slice A' k c') (entLn tag x)) (vv 8) V)
        clear hv
        simp only [putAll, List.drop_succ_cons, List.drop_zero, e0, e9, Act.put, List.setIfInBounds_toArray, List.set_cons_succ, List.set_cons_zero]
        clear e0 e9
        have hsV : w.heap.size ≤ V.heap.size := (hV.at_ 3 rfl : _ ∧ w.heap.size ≤ V.heap.size).2
        refine wl_app_nest el_line hV.2 0 rfl (.tmp 14) (.tmp 22) rfl w.heap.size A' k c' vs 0 F _ rfl rfl V.heap.size _ 1 _ [.slice (some ad3) 3 3] rfl hRd (by intro u hu; simp only [List.mem_singleton] at hu; subst hu; rfl) (by omega) hsV (Nat.zero_le _) (fun b => b = ad3.block) (fun W => RowAt W W.heap.size (.slice (some ad3) 3 3) (entLn tag x)) ⟨ad3, rfl, by simp [entLn], hs3⟩ (RowAt.st (Or.inr rfl)) (fun b hb => by subst hb; exact ⟨h31, h34, h33⟩) (by intro g hg _; simp [Apart, Res.apart, Low.els] <;> omega) ?_
        intro A7 c7 w7 hI7 hs7
        go_wp2
        refine ⟨⟨k + 1, A7, c7, vs ++ [.slice (some ad3) 3 3], (fun b => F b ∨ b = ad3.block), by omega, by go_num, rfl, by first | omega | (simp at hs7; omega), ?_⟩, by simp [intOf]; omega⟩
        refine ⟨Nest.as (hI7.at_ 0 rfl) (fun W' => ?_), hI7.2⟩
        rw [HT.out]
        exact All2.snoc.symm
    · have hkn : Hid (k = n) := Lib.hid (by omega)
      have d1 : decide ((k : Int) < (n : Int)) = false := by simp; omega
      have hkp := (hI.at_ 2 rfl : Res.ok wr (.kept w w.heap.size)).1
      have hN := (hI.at_ 0 rfl : Nest wr w.heap.size 27 1 A' k c' vs 0 F _)
      have hfin : Hid (Nest wr w.heap.size 27 1 A' n c' vs 0 F (fun W => All2 (RowAt W W.heap.size) vs (entLs tag l))) := Lib.hid (by
        have h1 := hN
        rw [List.take_of_length_le (by rw [entLs, List.length_map]; have := HN.out; have := hkn.out; omega)] at h1
        rw [hkn.out] at h1
        exact h1)
      clear hI hN
      go_wp2
      go_ret
      exact ⟨A', c', vs, F, by rw [hkn.out]; rfl, hkp, hfin.out⟩
end Go.Proofs.YtjdinakdkdjocaaGreatDoor
set_option linter.unusedSimpArgs false
set_option linter.unusedVariables false
set_option maxRecDepth 100000
namespace Go.Adm
open Go Go.RowKit
theorem run_app_full {P : Program} (w : World) {t e : TypeId} {z : Value} {size bytes : Nat} (E : ElemOf P t e z size bytes) (base : Nat) (ty : TypeId) (ad : Addr) (n : Nat) (xs : List Value) (hown : Own w base e size (some ad) n n xs)
    (A : Option Addr) (m c : Nat) (news : List Value) (hr : Rd w w.heap.size size A m news) (hbytes : (n + m) * bytes ≤ 140737488355328) (hbase : base ≤ w.heap.size) :
    ∃ A' c' w', (Builtin.append_ #[t, t] ty #[.slice (some ad) n n, .slice A m c]).run P w = .ok (.slice A' (n + m) c') w' ∧ Own w' base e size A' (n + m) c' (xs ++ news) ∧ w.grownBy w' none := by
  obtain ⟨i, hi, hz, hsize, hby⟩ := E.hi
  rcases Nat.eq_zero_or_pos m with h0 | h0
  · subst h0
    have hn : news = [] := List.eq_nil_of_length_eq_zero (by simpa using hr.len)
    subst hn
    have hrun : (Builtin.append_ #[t, t] ty #[.slice (some ad) n n, .slice A 0 c]).run P w = .ok (.slice (some ad) n n) w := by
      cases A with
      | none => exact run_app_none w base t ty e i size E.ht hi _ n xs hown c
      | some b =>
        have hlc : ∀ W : World, (loadCells b 0).run P W = .ok #[] W := fun W => by simp [loadCells, loadCellsFrom]
        simp [Builtin.append_, run_underlying E.ht, sizeOf, typeInfo, hi, Builtin.lenOf, Builtin.firstCells, hlc, storeCells]
    exact ⟨_, _, w, hrun, by rw [List.append_nil]; exact hown, World.grownBy.refl _ _⟩
  · obtain ⟨b, rfl, _, hc⟩ := hr.at_ h0
    have hx := Own.rd hown
    have holds : ∀ j u, xs[j]? = some u → w.cell? (ad.add j) = some u := by
      intro j u hu
      have hl := hx.len
      have hn : 0 < n := by
        rcases Nat.eq_zero_or_pos n with h | h
        · rw [h, Nat.zero_mul] at hl
          rw [List.eq_nil_of_length_eq_zero hl] at hu
          simp at hu
        · exact h
      obtain ⟨ad', e', _, hc'⟩ := hx.at_ hn
      injection e' with e'
      subst e'
      exact hc' j u hu
    have hs0 : 0 < size := E.hs
    obtain ⟨v', w', hrun, h2, h3⟩ := run_append_arg_grows (P := P) w t ty e i z size bytes E.ht hi hz hsize hby E.hz hs0 ad n n xs hx.len holds b m c news hr.len hc (by omega) (by
      have := Nat.le_mul_of_pos_right (n + m) E.hb
      simp only [maxLen]; omega) hbytes
    have h2' : w'.ownsRow base e size v' (n + m) (xs ++ news) := Go.Joins.ownsRow_le h2 hbase
    obtain ⟨A', c', rfl⟩ := own_forms h2'
    exact ⟨A', c', w', hrun, h2', h3⟩
theorem wp_app_full {P : Program} {w : World} {o : Oper} {a : Act} {K : Act → World → Prop} {Q : Exit → Act → World → Prop} {t e : TypeId} {z : Value} {size bytes : Nat} (E : ElemOf P t e z size bytes) (s x : Operand)
    (ho : o.op = .call { callee := .builtin .append, args := #[s, x], argTypes := #[t, t] })
    (base : Nat) (ad : Addr) (n : Nat) (xs : List Value) (hs : a.eval s = .slice (some ad) n n) (hown : Own w base e size (some ad) n n xs)
    (A : Option Addr) (m c : Nat) (news : List Value) (hx : a.eval x = .slice A m c) (hr : Rd w w.heap.size size A m news) (hbytes : (n + m) * bytes ≤ 140737488355328) (hbase : base ≤ w.heap.size)
    (h : ∀ A' c' w', Own w' base e size A' (n + m) c' (xs ++ news) → w.grownBy w' none → K (a.put o.dst (.slice A' (n + m) c')) w') : o.wp P a w K Q := by
  obtain ⟨A', c', w', hrun, h2, h3⟩ := run_app_full w E base o.type ad n xs hown A m c news hr hbytes hbase
  unfold Oper.wp execOp
  simp only [ho, resolve, invoke, builtin, Sem.run_bind, Sem.run_pure, Result.andThen_ok, List.map_toArray, List.map_cons, List.map_nil, hs, hx, hrun]
  exact h _ _ _ h2 h3
end Go.Adm

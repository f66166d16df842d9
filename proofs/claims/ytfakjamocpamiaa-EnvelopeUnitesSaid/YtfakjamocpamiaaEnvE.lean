/- slices.Insert of one signature into a row of the call's own, with what the signatures point to. -/
import Derived.Test.YtfakjamocpamiaaEnvD
set_option linter.unusedSimpArgs false
set_option linter.unusedVariables false
set_option maxRecDepth 100000
namespace Go.Adm
open Go Go.RowKit
def Res.z : Res → Bool
 | .nest _ _ _ _ _ _ _ B0 _ _ => B0 == 0
 | _ => true
theorem Res.fresh {w : World} {b : Nat} (hb : w.heap.size ≤ b) : ∀ {r : Res}, r.ok w → r.z = true → r.apart (some b)
 | .low l, h, _ => fun g hg => by injection hg with hg; subst hg; have := h.2; omega
 | .cells g t cs, h, _ => fun e => by injection e with e; subst e; have := Cells.lt h; omega
 | .own base e size A n c xs, h, _ => fun g hg => by
  injection hg with hg
  subst hg
  exact .inr (fun e => by have := (Own.lt h e).2; omega)
 | .nest base e size A n c xs B0 F In, h, hz => fun g hg => by
  injection hg with hg
  subst hg
  have h' : Nest w base e size A n c xs B0 F In := h
  have hz' : B0 = 0 := by simpa [Res.z] using hz
  refine ⟨by omega, .inr ⟨fun e => ?_, fun hF => ?_⟩⟩
  ·have := (h'.own.lt e).2; omega
  ·have := (h'.fr _ hF).2; omega
 | .kept w0 B, h, _ => fun g hg => by injection hg with hg; subst hg; have := h.2; omega
/-- a new block is apart from all that stands -/
theorem All.fresh {w : World} {b : Nat} (hb : w.heap.size ≤ b) : ∀ {rs : List Res}, All w rs → rs.all Res.z = true → Apart (some b) rs
 | [], _, _ => trivial
 | r :: rs, h, hz => by
  rw [List.all_cons, Bool.and_eq_true] at hz
  exact ⟨Res.fresh hb h.1 hz.1, All.fresh hb h.2 hz.2⟩
theorem ksn_less {w : World} {t : TypeId} {base base' n c : Nat} {A : Option Addr} {l : List Ks} (h : (Res.ksn t base A n c l).ok w) (hb : base' ≤ base) : (Res.ksn t base' A n c l).ok w := by
 have h' : Nest w base t 20 A n c (l.map ksC).flatten 0 (KsF l) (KsI l) := h
 exact ⟨h'.own.less hb, h'.inn, h'.st, fun b hF => ⟨Nat.le_trans hb (h'.fr b hF).1, (h'.fr b hF).2⟩, h'.ap⟩
theorem own_below {base size n c b : Nat} {t : TypeId} {A : Option Addr} {xs : List Value} (hb : b < base) : (Res.own base t size A n c xs).apart (some b) := fun q hq => .inl (by injection hq with hq; omega)
/-- what signatures point to, without their row -/
abbrev Res.ksd (base : Nat) (l : List Ks) : Res := .nest base 0 1 none 0 0 [] 0 (KsF l) (KsI l)
theorem ksd_of {w : World} {base : Nat} {l : List Ks} (h : KsI l w) (hF : ∀ b, KsF l b → base ≤ b ∧ b < w.heap.size) : (Res.ksd base l).ok w :=
 Nest.of (Own.nil _ _ _ _) h (KsI.st l) (fun b hb => ⟨(hF b hb).1, (hF b hb).2, fun e => by cases e⟩)
theorem ksd_apart {base b : Nat} {l : List Ks} (h : ¬ KsF l b) : (Res.ksd base l).apart (some b) := fun q hq => by
 injection hq with hq
 subst hq
 exact ⟨Nat.zero_le _, .inr ⟨fun e => (by cases e), h⟩⟩
theorem KsF.ins {l : List Ks} {x : Ks} {i b : Nat} : KsF (l.take i ++ x :: l.drop i) b ↔ KsF l b ∨ KsF [x] b := by
 constructor
 ·rintro ⟨y, hy, h⟩
  rcases List.mem_append.1 hy with h1 | h1
  ·exact .inl ⟨y, List.mem_of_mem_take h1, h⟩
  ·rcases List.mem_cons.1 h1 with h1 | h1
   ·exact .inr ⟨y, List.mem_singleton.2 h1, h⟩
   ·exact .inl ⟨y, List.mem_of_mem_drop h1, h⟩
 ·rintro (⟨y, hy, h⟩ | ⟨y, hy, h⟩)
  ·rw [← List.take_append_drop i l, List.mem_append] at hy
   exact ⟨y, List.mem_append.2 (hy.imp id (fun h1 => List.mem_cons_of_mem _ h1)), h⟩
  ·exact ⟨y, List.mem_append.2 (.inr (by rw [List.mem_singleton.1 hy]; exact List.mem_cons_self)), h⟩
theorem KsI.ins {l : List Ks} {x : Ks} {i : Nat} {w : World} (h : KsI l w) (hx : KsOk w w.heap.size x) : KsI (l.take i ++ x :: l.drop i) w := fun y hy => by
 rcases List.mem_append.1 hy with h1 | h1
 ·exact h y (List.mem_of_mem_take h1)
 ·rcases List.mem_cons.1 h1 with h1 | h1
  ·rw [h1]; exact hx
  ·exact h y (List.mem_of_mem_drop h1)
end Go.Adm
namespace Go.Proofs.Ytfakjamocpamiaa
open Go Go.RowKit Go.Adm
set_option maxHeartbeats 1600000 in
/-- onto no row at all -/
theorem InsertK_nil (w : World) (rs : List Res) (base g2 : Nat) (x : Ks) (hR : All w (.cells g2 64 (ksC x) :: rs)) (hx : x.r.length = 16) (hbase : base ≤ w.heap.size) :
  Calls Try.prog 43 #[.slice none 0 0, .int .i64 0, .slice (some ⟨g2, 0, none⟩) 1 1] w fun e w' => ∃ A' c', e = .returned (.slice A' 1 c') ∧ Go.Adm.Own w' base 64 20 A' 1 c' (ksC x) ∧ (∀ b, (Value.slice A' 1 c').ownBlock = some b → w.heap.size ≤ b) ∧ All w' (.cells g2 64 (ksC x) :: rs) := by
 have hlen := ksC_len hx
 go_enter Try.func43, Try.ntmps43
 go_wp2_with (at_builtin; refine wl_app6 _ el_ks rfl (.tmp 23) (.tmp 24) rfl base none 0 0 [] rfl (Go.Adm.Own.nil _ _ _ _) (g2 + 1) _ 1 1 (ksC x) rfl ⟨by rw [hlen], fun _ => ⟨⟨g2, 0, none⟩, rfl, Nat.lt_succ_self _, Cells.sub (hR.at_ 0 rfl) 0 (fun j u h => by simpa [Nat.zero_add] using h)⟩⟩ (ksC_one x) (by omega) hbase ?_; intro A5 c5 w5 ho5 hg5 hb5)
 go_ret
 have ho6 := ho5.cast (Nat.zero_add 1) (List.nil_append _)
 refine ⟨A5, c5, rfl, ho6, fun b hb => ?_, hR.quiet hg5⟩
 rcases hb5 with h1 | h1
 ·rw [h1] at hb; cases hb
 ·rw [h1] at hb; injection hb with hb; omega

set_option maxHeartbeats 1600000 in
theorem InsertK_any (w : World) (rs : List Res) (base : Nat) (A : Option Addr) (n c i g2 : Nat) (l : List Ks) (x : Ks) (hR : All w (.ksn 64 base A n c l :: .cells g2 64 (ksC x) :: rs)) (hz : rs.all Res.z = true) (hln : l.length = n) (hx : KsOk w w.heap.size x) (hxb : ∀ b, KsF [x] b → base ≤ b ∧ b < w.heap.size ∧ b ≠ g2 ∧ (Value.slice A n c).ownBlock ≠ some b) (hg2 : (Value.slice A n c).ownBlock ≠ some g2) (hap : ∀ g, (Value.slice A n c).ownBlock = some g → Apart (some g) rs) (hi : i ≤ n) (hn : n ≤ 1000000) (hbase : base ≤ w.heap.size) :
  Calls Try.prog 43 #[.slice A n c, .int .i64 i, .slice (some ⟨g2, 0, none⟩) 1 1] w fun e w' => ∃ A' c', e = .returned (.slice A' (n + 1) c') ∧ All w' (.ksn 64 base A' (n + 1) c' (l.take i ++ x :: l.drop i) :: .cells g2 64 (ksC x) :: rs) ∧
   ∀ b, (Value.slice A' (n + 1) c').ownBlock = some b → (Value.slice A n c).ownBlock = some b ∨ w.heap.size ≤ b := by
 have hN : Nest w base 64 20 A n c (l.map ksC).flatten 0 (KsF l) (KsI l) := hR.1
 have hdl : (Res.ksd base l).ok w := ksd_of hN.inn hN.fr
 have hdx : (Res.ksd base [x]).ok w := ksd_of (fun y hy => by rw [List.mem_singleton.1 hy]; exact hx) (fun b hb => ⟨(hxb b hb).1, (hxb b hb).2.1⟩)
 rcases hN.own.2 with ⟨hv0, hn0⟩ | ⟨g, cap, cur, hv, hbg, hh, h1, h2, h3, h4⟩
 ·injection hv0 with e1 e2 e3
  subst e1 e2 e3
  obtain rfl : l = [] := List.eq_nil_of_length_eq_zero hln
  obtain rfl : i = 0 := by omega
  have hR2 : All w (.cells g2 64 (ksC x) :: .ksd base [x] :: rs) := ⟨hR.2.1, hdx, hR.2.2⟩
  refine (InsertK_nil w (.ksd base [x] :: rs) base g2 x hR2 hx.r16 hbase).mono ?_
  rintro e w' ⟨A', c', rfl, ho, hob, hA⟩
  have hd' : Nest w' base 0 1 none 0 0 [] 0 (KsF [x]) (KsI [x]) := hA.at_ 1 rfl
  refine ⟨A', c', rfl, ⟨Nest.of (ho.cast rfl (by simp)) hd'.inn (KsI.st _) (fun b hb => ?_), hA.at_ 0 rfl, hA.2.2⟩, fun b hb => .inr (hob b hb)⟩
  have h5 := hxb b hb
  exact ⟨h5.1, (hd'.fr b hb).2, fun e => by have := hob b e; omega⟩
 ·injection hv with e1 e2 e3
  subst e1 e3
  have hgl : g < w.heap.size := (Array.getElem?_eq_some_iff.1 hh).1
  have hgF : ¬ KsF l g := fun hF => hN.ap g rfl hF
  have hgX : ¬ KsF [x] g := fun hF => (hxb g hF).2.2.2 rfl
  have hgg : g2 ≠ g := fun e => hg2 (by rw [e]; rfl)
  have hR2 : All w (.cells g 64 cur.toList :: .cells g2 64 (ksC x) :: .ksd base l :: .ksd base [x] :: rs) := ⟨by simpa [Res.ok, Cells] using hh, hR.2.1, hdl, hdx, hR.2.2⟩
  refine (Insert_gen w (.ksd base l :: .ksd base [x] :: rs) g g2 n c i cur.toList l x hR2 ⟨ksd_apart hgF, ksd_apart hgX, hap g rfl⟩ (fun b hb => All.fresh hb (⟨hdl, hdx, hR.2.2⟩ : All w (.ksd base l :: .ksd base [x] :: rs)) (by simp only [List.all_cons, hz]; rfl)) hgg (by simpa using h3) h1 h2 h4 hln (fun y hy => (hN.inn y hy).r16) hx.r16 hi hn).mono ?_
  rintro e w' ⟨g', c', cs', rfl, hg', hc1, hc2, hl', ht', hA⟩
  have hd1 : Nest w' base 0 1 none 0 0 [] 0 (KsF l) (KsI l) := hA.at_ 2 rfl
  have hd2 : Nest w' base 0 1 none 0 0 [] 0 (KsF [x]) (KsI [x]) := hA.at_ 3 rfl
  have hcell : Cells w' g' 64 cs' := hA.at_ 0 rfl
  have hflat : ((l.take i ++ x :: l.drop i).map ksC).flatten.length = (n + 1) * 20 := by
   rw [← ht', List.length_take, hl', Nat.min_eq_left (Nat.mul_le_mul_right _ hc1)]
  have hown : Go.Adm.Own w' base 64 20 (some ⟨g', 0, none⟩) (n + 1) c' ((l.take i ++ x :: l.drop i).map ksC).flatten :=
   ⟨hflat, .inr ⟨g', c', cs'.toArray, rfl, by rcases hg' with h | h <;> omega, hcell, hc1, hc2, by simpa using hl', by simpa using ht'⟩⟩
  refine ⟨some ⟨g', 0, none⟩, c', rfl, ⟨Nest.of hown (hd1.inn.ins (hd2.inn x (List.mem_singleton.2 rfl))) (KsI.st _) (fun b hb => ?_), hA.at_ 1 rfl, hA.2.2.2.2⟩, fun b hb => ?_⟩
  ·rcases KsF.ins.1 hb with h5 | h5
   ·refine ⟨(hN.fr b h5).1, (hd1.fr b h5).2, fun e => ?_⟩
    have e' : g' = b := by injection e
    rcases hg' with h | h
    ·subst h; exact hgF (by rw [e']; exact h5)
    ·have := (hN.fr b h5).2; omega
   ·refine ⟨(hxb b h5).1, (hd2.fr b h5).2, fun e => ?_⟩
    have e' : g' = b := by injection e
    rcases hg' with h | h
    ·subst h; exact hgX (by rw [e']; exact h5)
    ·have := (hxb b h5).2.1; omega
  ·have e' : g' = b := by injection hb
   rcases hg' with h | h
   ·exact .inl (by rw [← e', h]; rfl)
   ·exact .inr (by omega)
end Go.Proofs.Ytfakjamocpamiaa

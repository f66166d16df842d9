/- Copies of signatures and of envelopes. -/
import Derived.Test.YtfakjamocpamiaaEnvI
import Derived.Test.YtfakjamocpamiaaEnvS
set_option linter.unusedSimpArgs false
set_option linter.unusedVariables false
set_option maxRecDepth 100000
namespace Go.Adm
open Go Go.RowKit
theorem Els.st {B0 size n : Nat} {A : Option Addr} {es : List (List Value)} {F : Nat → Prop} (hF : ∀ ad, A = some ad → ad.block < B0 ∨ F ad.block) : St B0 F (fun w => Els w w.heap.size size A n es) := fun w w' hs hb h => ⟨Rd.st hF w w' hs hb h.rd, h.each, h.len⟩
/-- the blocks that signatures point to -/
def KsF (l : List Ks) : Nat → Prop := fun b => ∃ x ∈ l, (∃ ad, x.Ac = some ad ∧ ad.block = b) ∨ ∃ ad, x.Ap = some ad ∧ ad.block = b
def KsI (l : List Ks) (w : World) : Prop := ∀ x ∈ l, KsOk w w.heap.size x
theorem KsI.st (l : List Ks) : St 0 (KsF l) (KsI l) := fun w w' hs hb h x hx =>
 ⟨(h x hx).r16, (Els.st (B0 := 0) (F := KsF l) (fun ad e => .inr ⟨x, hx, .inl ⟨ad, e, rfl⟩⟩)) w w' hs hb (h x hx).rc, (h x hx).c16, (h x hx).cc, (Els.st (B0 := 0) (F := KsF l) (fun ad e => .inr ⟨x, hx, .inr ⟨ad, e, rfl⟩⟩)) w w' hs hb (h x hx).rp, (h x hx).p16, (h x hx).cp⟩
theorem KsF.app {l m : List Ks} {b : Nat} : KsF (l ++ m) b ↔ KsF l b ∨ KsF m b := by
 constructor
 ·rintro ⟨x, hx, h⟩
  exact (List.mem_append.1 hx).imp (fun h1 => ⟨x, h1, h⟩) (fun h1 => ⟨x, h1, h⟩)
 ·rintro (⟨x, hx, h⟩ | ⟨x, hx, h⟩)
  ·exact ⟨x, List.mem_append.2 (.inl hx), h⟩
  ·exact ⟨x, List.mem_append.2 (.inr hx), h⟩
theorem KsI.app {l m : List Ks} {w : World} : KsI (l ++ m) w ↔ KsI l w ∧ KsI m w := by
 constructor
 ·intro h
  exact ⟨fun x hx => h x (List.mem_append.2 (.inl hx)), fun x hx => h x (List.mem_append.2 (.inr hx))⟩
 ·rintro ⟨h1, h2⟩ x hx
  exact (List.mem_append.1 hx).elim (h1 x) (h2 x)
/-- a row of signatures of the call's own, with what they point to -/
abbrev Res.ksn (t : TypeId) (base : Nat) (A : Option Addr) (n c : Nat) (l : List Ks) : Res := .nest base t 20 A n c (l.map ksC).flatten 0 (KsF l) (KsI l)
theorem ksn_nil {w : World} {t : TypeId} {base : Nat} : (Res.ksn t base none 0 0 []).ok w :=
 Nest.of (Own.nil _ _ _ _) (fun x hx => by cases hx) (KsI.st []) (fun b ⟨x, hx, _⟩ => by cases hx)
theorem ksn_kss {w : World} {t : TypeId} {base n c : Nat} {A : Option Addr} {l : List Ks} (h : (Res.ksn t base A n c l).ok w) (hl : l.length = n) : Kss w w.heap.size A n l :=
 ⟨Els.of (h : Nest _ _ _ _ _ _ _ _ _ _ _).own (fun e he => by obtain ⟨x, hx, rfl⟩ := List.mem_map.1 he; exact ksC_len ((h : Nest _ _ _ _ _ _ _ _ _ _ _).inn x hx).r16) (by rw [List.length_map]; exact hl), (h : Nest _ _ _ _ _ _ _ _ _ _ _).inn, hl⟩
/-- from a row with one more -/
theorem ksn_snoc {w : World} {t : TypeId} {base n c : Nat} {A : Option Addr} {l : List Ks} {x : Ks} (h : Nest w base t 20 A (n + 1) c ((l.map ksC).flatten ++ ksC x) 0 (fun b => KsF l b ∨ KsF [x] b) (fun w => KsI l w ∧ KsI [x] w)) : (Res.ksn t base A (n + 1) c (l ++ [x])).ok w := by
 refine Nest.of (h.own.cast rfl (by simp)) (KsI.app.2 h.inn) (KsI.st _) (fun b hb => ?_)
 have hb' := KsF.app.1 hb
 exact ⟨(h.fr b hb').1, (h.fr b hb').2, fun e => h.ap b e hb'⟩
theorem ksC_set18 {x : Ks} (h : x.r.length = 16) (A : Option Addr) (c : Nat) : (ksC x).set 18 (.slice A x.chain.length c) = ksC { x with Ac := A, cc := c } := by
 have h1 : (pkCells x.h x.r).length = 17 := pkLen h
 show (pkCells x.h x.r ++ sgCells _ _ _ _ _ _ _).set 18 _ = _
 rw [List.set_append_right _ _ (by omega), h1]
 rfl
theorem ksC_set19 {x : Ks} (h : x.r.length = 16) (A : Option Addr) (c : Nat) : (ksC x).set 19 (.slice A x.path.length c) = ksC { x with Ap := A, cp := c } := by
 have h1 : (pkCells x.h x.r).length = 17 := pkLen h
 show (pkCells x.h x.r ++ sgCells _ _ _ _ _ _ _).set 19 _ = _
 rw [List.set_append_right _ _ (by omega), h1]
 rfl
theorem cellOf {w : World} {g i : Nat} {t : TypeId} {cs : List Value} {v : Value} (h : Cells w g t cs) (hi : cs[i]? = some v) : w.cell? ⟨g, i, none⟩ = some v := by
 obtain ⟨h1, rfl⟩ := List.getElem?_eq_some_iff.1 hi
 exact Cells.cell h h1
theorem ks_18 {w : World} {g : Nat} {t : TypeId} {x : Ks} (hc : Cells w g t (ksC x)) (h : x.r.length = 16) : w.cell? ⟨g, 18, none⟩ = some (.slice x.Ac x.chain.length x.cc) :=
 cellOf hc (i := 18) (by have := ks_sg h 1 _ rfl; exact this)
theorem ks_19 {w : World} {g : Nat} {t : TypeId} {x : Ks} (hc : Cells w g t (ksC x)) (h : x.r.length = 16) : w.cell? ⟨g, 19, none⟩ = some (.slice x.Ap x.path.length x.cp) :=
 cellOf hc (i := 19) (by have := ks_sg h 2 _ rfl; exact this)
theorem own_len {w : World} {base size n c : Nat} {t : TypeId} {A : Option Addr} {xs : List Value} (h : Own w base t size A n c xs) : ∀ ad, A = some ad → base ≤ ad.block ∧ ad.block < w.heap.size := fun ad e => by
 subst e; exact h.lt rfl
end Go.Adm
namespace Go.Proofs.Ytfakjamocpamiaa
open Go Go.RowKit Go.Adm
set_option maxHeartbeats 800000 in
theorem CloneH_any (w : World) (B : Nat) (A : Option Addr) (n c : Nat) (hs : List (List UInt8)) (h : Els w B 16 A n (hvs hs)) (hB : B ≤ w.heap.size) (hn : n ≤ 1000000) :
  Calls Try.prog 76 #[.slice A n c] w fun e w' => ∃ A' c', e = .returned (.slice A' n c') ∧ Below w.heap.size w w' ∧ Go.Adm.Own w' w.heap.size 41 16 A' n c' (hvs hs).flatten := by
 have hlen : hs.length = n := by have := h.len; rwa [hvs_len] at this
 have q23 : ∀ (w : World) (a : Option Addr) (n c n' c' : Nat), (binOp .eql 58 (.slice a n c) (.slice none n' c')).run Try.prog w = .ok (.bool a.isNone) w := fun w a n c n' c' => Lib.run_eql_slice_nil w _ _ a n c n' c' Try.underlying58
 cases A with
 | none =>
  have hn0 : n = 0 := by
   rcases Nat.eq_zero_or_pos n with h0 | h0
   ·exact h0
   ·obtain ⟨ad, e, _⟩ := h.rd.at_ h0; cases e
  subst hn0
  have hb : hs = [] := List.eq_nil_of_length_eq_zero hlen
  subst hb
  go_enter Try.func76, Try.ntmps76
  go_wp2_with fail
  go_ret
  exact ⟨none, 0, rfl, Below.refl _ _, Go.Adm.Own.nil _ _ _ _⟩
 | some ad =>
  have hown0 : Go.Adm.Own (w.alloc (.cells #[] 41)) w.heap.size 41 16 (some ⟨w.heap.size, 0, none⟩) 0 0 [] := Go.Adm.Own.lit w #[] 0 (Nat.le_refl _) (by decide) rfl
  have hrx : Rd (w.alloc (.cells #[] 41)) B 16 (some ad) n (hvs hs).flatten := h.rd.alloc hB _
  have h1 : ∀ u ∈ (hvs hs).flatten, u.oneCell' = true := by rw [hvs_flat]; exact bv_one _
  clear h hlen
  go_enter Try.func76, Try.ntmps76
  go_wp2_with (at_builtin; refine wl_app _ els_half rfl (.tmp 5) (.tmp 6) rfl w.heap.size _ 0 0 [] rfl hown0 B _ n c (hvs hs).flatten rfl hrx h1 (by omega) (by simp) ?_; intro A3 c3 w3 hown3 hb3 hg3)
  go_ret
  have hown4 := hown3.cast (Nat.zero_add n) (List.nil_append _)
  exact ⟨A3, c3, rfl, ((Below.refl _ w).alloc (Nat.le_refl _) _).trans hb3, hown4⟩

set_option maxHeartbeats 800000 in
theorem CloneB_any (w : World) (B : Nat) (A : Option Addr) (n c : Nat) (b : List UInt8) (h : Rd w B 1 A n (b.map bv)) (hB : B ≤ w.heap.size) (hn : n ≤ 140737488355000) :
  Calls Try.prog 69 #[.slice A n c] w fun e w' => ∃ A' c', e = .returned (.slice A' n c') ∧ Below w.heap.size w w' ∧ Go.Adm.Own w' w.heap.size 5 1 A' n c' (b.map bv) := by
 have hbl : b.length = n := by have := h.len; simpa using this
 have q23 : ∀ (w : World) (a : Option Addr) (n c n' c' : Nat), (binOp .eql 22 (.slice a n c) (.slice none n' c')).run Try.prog w = .ok (.bool a.isNone) w := fun w a n c n' c' => Lib.run_eql_slice_nil w _ _ a n c n' c' Try.underlying22
 cases A with
 | none =>
  have hn0 : n = 0 := by
   rcases Nat.eq_zero_or_pos n with h0 | h0
   ·exact h0
   ·obtain ⟨ad, e, _⟩ := h.at_ h0; cases e
  subst hn0
  have hb : b = [] := List.eq_nil_of_length_eq_zero hbl
  subst hb
  go_enter Try.func69, Try.ntmps69
  go_wp2_with fail
  go_ret
  exact ⟨none, 0, rfl, Below.refl _ _, Go.Adm.Own.nil _ _ _ _⟩
 | some ad =>
  have hown0 : Go.Adm.Own (w.alloc (.cells #[] 5)) w.heap.size 5 1 (some ⟨w.heap.size, 0, none⟩) 0 0 [] := Go.Adm.Own.lit w #[] 0 (Nat.le_refl _) (by decide) rfl
  have hrx : Rd (w.alloc (.cells #[] 5)) B 1 (some ad) n (b.map bv) := h.alloc hB _
  have el_b8 : ElemOf Try.prog 22 5 (.int .u8 0) 1 1 := ElemOf.mk' Try.underlying22 (by kernel_rfl) rfl (by decide) (by decide)
  clear h hbl
  go_enter Try.func69, Try.ntmps69
  go_wp2_with (at_builtin; refine wl_app _ el_b8 rfl (.tmp 5) (.tmp 6) rfl w.heap.size _ 0 0 [] rfl hown0 B _ n c (b.map bv) rfl hrx (bv_one _) (by omega) (by simp) ?_; intro A3 c3 w3 hown3 hb3 hg3)
  go_ret
  have hown4 := hown3.cast (Nat.zero_add n) (List.nil_append _)
  exact ⟨A3, c3, rfl, ((Below.refl _ w).alloc (Nat.le_refl _) _).trans hb3, hown4⟩

set_option maxHeartbeats 3200000 in
theorem duplicateK_any (w : World) (B : Nat) (x : Ks) (hx : KsOk w B x) (hB : B ≤ w.heap.size) (hc : x.chain.length ≤ 1000000) (hp : x.path.length ≤ 1000000) :
  Calls Try.prog 50 #[.agg (ksC x).toArray] w fun e w' => ∃ x', e = .returned (.agg (ksC x').toArray) ∧ x'.s = x.s ∧ KsOk w' w'.heap.size x' ∧ (∀ b, KsF [x'] b → w.heap.size ≤ b ∧ b < w'.heap.size) ∧ Below w.heap.size w w' := by
 have hR : All w [.low (.els B 16 x.Ac x.chain.length (hvs x.chain)), .low (.els B 16 x.Ap x.path.length (hvs x.path)), .kept w w.heap.size] := ⟨⟨hx.rc, hB⟩, ⟨hx.rp, hB⟩, ⟨Below.refl _ _, Nat.le_refl _⟩, trivial⟩
 have HR := Lib.hid hx.r16
 have HC := Lib.hid hx.c16
 have HP := Lib.hid hx.p16
 have hzr := zero_ks
 clear hx
 go_enter Try.func50, Try.ntmps50
 go_upto_region 1 with (fail)
 obtain ⟨g, hg⟩ : ∃ g, g = w.heap.size := ⟨_, rfl⟩
 have hBg : B ≤ g := by omega
 have hgw : w.heap.size ≤ g := by omega
 refine wp_gen ((hR.new (l := ksC x) (g := g) _ 64 hg rfl).new (l := ksZ) (g := g + 1) _ 64 (by simp [hg]) rfl) ?_
 intro W1 hW1
 simp only [← hg]
 have HG := Lib.hid hg
 clear hR hg
 have hc1 := CloneH_any W1 B x.Ac x.chain.length x.cc x.chain (hW1.at_ 2 rfl : Els W1 B 16 _ _ _ ∧ _).1 (hW1.at_ 2 rfl : _ ∧ B ≤ W1.heap.size).2 hc
 have q1 := ks_18 (hW1.at_ 1 rfl) HR.out
 have hsz1 : g + 1 < W1.heap.size := Cells.lt (hW1.at_ 0 rfl)
 go_upto_region 2 with (go_at_call 76; refine hc1.mono ?_; clear hc1; rintro e w2 ⟨A2, c2, rfl, hb2, hO2⟩; have hW2 := All.cons (r := .own W1.heap.size 41 16 A2 x.chain.length c2 (hvs x.chain).flatten) hO2 (hW1.call hb2); have q2 := ks_18 (hW2.at_ 2 rfl) HR.out; have z2 := Cells.frozen (hW2.at_ 2 rfl) 18)
 refine wp_gen (hW2.store 2 rfl 18 (.slice A2 x.chain.length c2) (by simp [Apart, Res.apart, Low.els] <;> omega)) ?_
 rw [ksC_set18 HR.out]
 intro W3 hW3
 simp only [List.set_cons_zero, List.set_cons_succ] at hW3
 clear hW1 hW2 hO2 hb2 q1 q2 z2
 have hc2 := CloneH_any W3 B x.Ap x.path.length x.cp x.path (hW3.at_ 4 rfl : Els W3 B 16 _ _ _ ∧ _).1 (hW3.at_ 4 rfl : _ ∧ B ≤ W3.heap.size).2 hp
 have q3 := ks_19 (x := { x with Ac := A2, cc := c2 }) (hW3.at_ 2 rfl) HR.out
 have hsz3 : g + 1 < W3.heap.size := Cells.lt (hW3.at_ 1 rfl)
 go_upto_region 3 with (go_at_call 76; refine hc2.mono ?_; clear hc2; rintro e w4 ⟨A4, c4, rfl, hb4, hO4⟩; have hW4 := All.cons (r := .own W3.heap.size 41 16 A4 x.path.length c4 (hvs x.path).flatten) hO4 (hW3.call hb4); have q4 := ks_19 (x := { x with Ac := A2, cc := c2 }) (hW4.at_ 3 rfl) HR.out; have z4 := Cells.frozen (hW4.at_ 3 rfl) 19)
 refine wp_gen (hW4.store 3 rfl 19 (.slice A4 x.path.length c4) (by simp [Apart, Res.apart, Low.els] <;> omega)) ?_
 rw [ksC_set19 (x := { x with Ac := A2, cc := c2 }) HR.out]
 intro W5 hW5
 simp only [List.set_cons_zero, List.set_cons_succ] at hW5
 clear hW3 hW4 hO4 hb4 q3 q4 z4
 obtain ⟨y, hy⟩ : ∃ y : Ks, y = { x with Ac := A2, cc := c2, Ap := A4, cp := c4 } := ⟨_, rfl⟩
 have hys : y.s = x.s := by rw [hy]; rfl
 have hyr : y.r.length = 16 := by rw [hy]; exact HR.out
 have hO2 : Go.Adm.Own W5 W1.heap.size 41 16 y.Ac y.chain.length y.cc (hvs y.chain).flatten := by rw [hy]; exact hW5.at_ 1 rfl
 have hO4 : Go.Adm.Own W5 W3.heap.size 41 16 y.Ap y.path.length y.cp (hvs y.path).flatten := by rw [hy]; exact hW5.at_ 0 rfl
 have hyc : ∀ z ∈ y.chain, z.length = 16 := by rw [hy]; exact HC.out
 have hyp : ∀ z ∈ y.path, z.length = 16 := by rw [hy]; exact HP.out
 have hbox : All W5 [.cells (g + 1) 64 ksZ, .cells g 64 (ksC y), .own W1.heap.size 41 16 y.Ac y.chain.length y.cc (hvs y.chain).flatten, .own W3.heap.size 41 16 y.Ap y.path.length y.cp (hvs y.path).flatten, .kept w w.heap.size] := ⟨hW5.at_ 2 rfl, by rw [hy]; exact hW5.at_ 3 rfl, hO2, hO4, hW5.at_ 6 rfl, trivial⟩
 have HS := Lib.hid hys
 have HY := Lib.hid hyr
 have HYC := Lib.hid hyc
 have HYP := Lib.hid hyp
 clear hW5 hO2 hO4 hyc hyp hys hyr hy
 go_wp2_with (first
  | (refine wl_load_any rfl 64 (.tmp 1) rfl ⟨g, 0, none⟩ rfl (ksC y) _ (Cells.sub (hbox.at_ 1 rfl) 0 (fun j u h => by rwa [Nat.zero_add])) Try.underlying64 rfl (by rw [ksC_len HY.out]; kernel_rfl) ?_)
  | (refine wl_store_at hbox 0 rfl 64 (.tmp 2) (.tmp 15) rfl (g + 1) _ _ (ksC y) rfl rfl rfl (by rw [ksC_len HY.out]; rfl) (by rw [ksC_len HY.out]; kernel_rfl) (ksC_one _) (by simp [Apart, Res.apart] <;> omega) ?_; intro W6 hW6 hs6; simp only [List.set_cons_zero] at hW6))
 have e1 := own_len (hW6.at_ 2 rfl : Go.Adm.Own W6 _ _ _ _ _ _ _)
 have e2 := own_len (hW6.at_ 3 rfl : Go.Adm.Own W6 _ _ _ _ _ _ _)
 refine bodyPost_ret (v := .agg (ksC y).toArray) ?_ rfl ⟨y, rfl, HS.out, ⟨HY.out, Els.of (hW6.at_ 2 rfl) (hvs_each HYC.out) (hvs_len _), HYC.out, (hW6.at_ 2 rfl : Go.Adm.Own W6 _ _ _ _ _ _ _).cap, Els.of (hW6.at_ 3 rfl) (hvs_each HYP.out) (hvs_len _), HYP.out, (hW6.at_ 3 rfl : Go.Adm.Own W6 _ _ _ _ _ _ _).cap⟩, ?_, (hW6.at_ 4 rfl : _ ∧ _).1⟩
 ·exact results_cell_row rfl _ _ (g + 1) 64 (ksC y).toArray (0, 0) _ rfl (hW6.at_ 0 rfl) Try.underlying64 rfl (by rw [List.size_toArray, ksC_len HY.out]; kernel_rfl)
 ·rintro b ⟨z, hz, h⟩
  rw [List.mem_singleton] at hz
  subst hz
  rcases h with ⟨ad, e, rfl⟩ | ⟨ad, e, rfl⟩
  ·have := e1 ad e; omega
  ·have := e2 ad e; omega
end Go.Proofs.Ytfakjamocpamiaa
